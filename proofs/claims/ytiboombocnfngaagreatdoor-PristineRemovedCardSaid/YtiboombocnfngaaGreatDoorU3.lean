/- Part 3 of the proof: its lemmas. No condition. -/
import Derived.Test.YtiboombocnfngaaGreatDoorU2
import Derived.Laws.Append
import Derived.Laws.Tables
import Derived.Laws.AppendOwn
import Derived.Laws.MakeOwn
import Derived.RangeFuncNested
set_option maxRecDepth 10000
set_option maxHeartbeats 80000000
set_option linter.all false
namespace Qv
open Go Go.RowKit
section
variable {E:Env}{G:bf}{S:aj}{a:Act}{w:World}{o:Oper}
def Env.jb (E:Env):Fence:=match E.mj with|none=>Fence.wide|some l=>Fence.wide.inRound l
theorem Env.gi (f:FuncId):E.jb.fn f:=by unfold Env.jb;split<;>trivial
theorem Env.kq:E.jb.depth=none:=by unfold Env.jb;split<;>rfl
theorem Env.yH:E.jb.round=E.mj:=by unfold Env.jb;split<;>rename_i h<;>rw[h]<;>rfl
theorem mO {P:Program}{f:FuncId}{args:Array Value}{w:World}{R:Ending->World->Prop}(h:Calls P f args w R):CallsIn E.jb 0 P f args w R:=by unfold Env.jb;split;exact callsIn_wide.2 h;exact CallsIn.inRound _ (callsIn_wide.2 h)
abbrev Bl (E:Env)(o:Oper)(a:Act)(w:World)(next:Act->World->Prop)(Q:Exit->Act->World->Prop):Prop:=o.wpIn E.jb 0 E.C.P a w next Q
theorem VK {P:Program}{ρ:Operand->Value}{v:Value}{w':World}(h:(execOp ρ o).run P w=.ok (.value v) w'):∀c,o.op≠.defer c:=λc hc=>by unfold execOp at h;rw[hc]at h;simp only[Sem.run_bind]at h;cases hr:(resolve ρ c o.type).run P w<;>simp[hr,Result.andThen]at h
theorem wp_value {v:Value}{w':World}{next:Act->World->Prop}{Q:Exit->Act->World->Prop}(h:(execOp a.eval o).run E.C.P w=.ok (.value v) w')(hn:next (a.put o.dst v) w'):Bl E o a w next Q:=by refine⟨λf _=>Env.gi f,?_⟩;rw[Oper.semAt_eq _ _ _ (VK h),h];exact hn
theorem wp_of_yields {K:FV->Prop}(hs:bt E G S a w)(h:Yields E G a w o K){next:Act->World->Prop}{Q:Exit->Act->World->Prop}(hn:∀x v G' w',K x->bt E G' S a w'->aT G' w' v x->next (a.put o.dst v) w'):Bl E o a w next Q:=by obtain⟨v,x,w',h1,h2,h3,h4⟩:=h;exact wp_value h1 (hn x v _ w' h2 (hs.ext h3) h4)
theorem tP (hs:bt E G S a w)(args:List Operand):(args.map a.eval).length=(args.map S.val).length/\∀(i:Nat)(c:Value)(x:FV),(args.map a.eval)[i]?=some c->(args.map S.val)[i]?=some x->aT G w c x:=by
 refine⟨by simp,λi c x hc hx=>?_⟩;rw[aN]at hc hx;cases h0:args[i]?with
 |none=>simp_all
 |some y=>simp[h0]at hc hx;subst hc;subst hx;exact aT.val hs y
theorem nY {cs:List Value}{xs:List FV}{ys:List AV}(h:cs.length=xs.length/\∀(i:Nat)(c:Value)(x:FV),cs[i]?=some c->xs[i]?=some x->aT G w c x)(hy:FV.fe xs=some ys):cs.length=ys.length/\∀(i:Nat)(c:Value)(y:AV),cs[i]?=some c->ys[i]?=some y->dA G.bk w c y:=by obtain⟨h1,h2⟩:=FV.iC hy;refine⟨oO,λi c y hc hy=>?_⟩;obtain⟨x,hx,hxy⟩:=h2 i y hy;exact(h.2 i c x hc hx).eG hxy
theorem wF {bk:Nat->Nat->Prop}{cs ds:List Value}{xs ys:List AV}(h:cs.length=xs.length/\∀(i:Nat)(c:Value)(x:AV),cs[i]?=some c->xs[i]?=some x->dA bk w c x)(h':ds.length=ys.length/\∀(i:Nat)(c:Value)(x:AV),ds[i]?=some c->ys[i]?=some x->dA bk w c x):(cs++ds).length=(xs++ys).length/\∀(i:Nat)(c:Value)(x:AV),(cs++ds)[i]?=some c->(xs++ys)[i]?=some x->dA bk w c x:=by grind
theorem tQ {P:Program}{ρ:Operand->Value}{f:Operand}{args:Array Operand}{types:Array TypeId}{g:FuncId}{first captured:Array Value}{fn:Func}(ho:o.op=.call ⟨.value f,args,types⟩)(hf:ρ f=.func (.func g) first captured)(h1:P.funcs[g]?=some fn)(h2:fn.body.isNone=false)(h3:(fn.name== "runtime.NumGoroutine")=false):(execOp ρ o).run P w=.ok (.enter g (first++args.map ρ++captured)) w:=by
 have h3':¬fn.name= "runtime.NumGoroutine" :=by simpa using h3
 have h2':¬fn.body=none:=λe=>by simp_all
 simp[execOp,ho,resolve,hf,Deferred.ofValue,invoke,callFunc,h1,h2',h3']
theorem wp_call (hs:bt E G S a w){f:Operand}{args:Array Operand}{types:Array TypeId}{g:FuncId}{first captured:Array Value}{xs:List AV}{R:dx->Prop}(ho:o.op=.call ⟨.value f,args,types⟩)(hf:a.eval f=.func (.func g) first captured)(hr:(first++args.map a.eval++captured).toList.length=xs.length/\∀(i:Nat)(c:Value)(x:AV),(first++args.map a.eval++captured).toList[i]?=some c->xs[i]?=some x->dA G.bk w c x)(hc:aq E.C g xs R){next:Act->World->Prop}{Q:Exit->Act->World->Prop}(hn:∀r v w',R r->Below w.heap.size w w'->oy G.bk w.heap.size w' v r->next (a.put o.dst v) w'):Bl E o a w next Q:=by obtain⟨⟨fn,h1,h2,h3⟩,hc⟩:=hc;have hJ:=hs.J;have :=hc G.bk w (first++args.map a.eval++captured).toList hJ.1 hJ.2 hs.fh hr.1 hr.2;refine⟨λf _=>Env.gi f,?_⟩;rw[Oper.semAt_eq _ _ _ (λc=>by simp_all),tQ ho hf h1 h2 h3,Oper.uponIn_enter];refine⟨λh=>(by rw[Env.kq]at h;grind),mO (Calls.mono this ?_)⟩;grind
theorem YC {α:Type}{e:Nat}:∀{l:List (List α)},(∀zs,zs∈l->zs.length=e)->∀{i j:Nat}{zs:List α}{z:α},l[i]?=some zs->zs[j]?=some z->l.flatten[i*e+j]?=some z:=by
 intro l;induction l with
 |nil=>simp_all
 |cons y ys ih=>
  intro he i j zs z h1 h2;have hy:=he y (by simp);rw[nP];cases i with
  |zero=>grind
  |succ i=>grind
theorem oy.RW {G:bf}{B:Nat}{w':World}{v:Value}{r:dx}(h:oy G.bk B w' v r):aT {G with bk:=λb o=>G.bk b o\/(B<=b/\b<w'.heap.size)} w' v r.plain:=by
 have conv:∀{uo:Nat->Nat->Prop}{v:Value}{x:AV},(∀b o,uo b o->G.bk b o\/B<=b)->dA uo w' v x->dA (λb o=>G.bk b o\/(B<=b/\b<w'.heap.size)) w' v x:=λh1 h2=>h2.uu (λb o c hi hc=>⟨(h1 b o hi).imp id λh=>⟨h,World.block_lt_of_cell? w' _ hc⟩,hc⟩) λb es k hi hb=>⟨(h1 b 0 hi).imp id λh=>⟨h,(bq.1 hb).1⟩,hb⟩;cases r with
 |val x=>exact .p _ _ (conv (λb o h=>h) h)
 |fresh T bM xs=>refine .p _ _ ?_;obtain⟨ad,c,rfl,h|⟨b,off,cs,fr,-,-,-,-,-,-,h⟩⟩:=h;exact conv (λb o h=>h) h.2.2;grind
 |own rest T bM xss=>
  obtain⟨b,c,cs,fr,us,rfl,h1,h2,h3,h4,h5,h6,h7,h8,h9,h10⟩:=h;have hI:∀b' o,Yc G.bk B b b' o->G.bk b' o\/B<=b':=λb' o h=>h.imp id λh=>h.1;have RX:dA (λb o=>G.bk b o\/(B<=b/\b<w'.heap.size)) w' (.slice (some ⟨b,0,none⟩) xss.length c) (.sl xss):=dA.OJ (bM:=bM) h4 (λi ys hys=>(h5 ys (bU hys)).1) λi ys j y q1 q2=>by have q3:=YC (λzs hz=>(h5 zs hz).1) q1 q2;obtain⟨u,q4,q5⟩:=h9 _ _ q3;exact⟨u,(h5 ys (bU q1)).2 y (bU q2),by simp_all,.inr ⟨h1,h2⟩,conv hI q5⟩
  cases rest with
  |none=>exact .p _ _ RX
  |some r=>obtain⟨g1,g2⟩:=h10 r rfl;refine .p _ _ (.eW (_::us) (_::r) (by grind) λi u x q1 q2=>?_);grind
 |vf x=>refine aT.uu (G:=bare (kW G.bk B)) h (λb o c hi hc=>⟨?_,hc⟩) (λb es k hi hb=>⟨hi.imp id λh=>⟨h,(bq.1 hb).1⟩,hb⟩) (λo b h=>by cases h) (λt r h=>by cases h) (λl k h=>by cases h) (λl k h=>by cases h) (λl k h=>by cases h);exact hi.imp id λh=>⟨h,World.block_lt_of_cell? w' _ hc⟩
theorem RY {v:Value}{g:FuncId}{first captured:List AV}(h:aT G w v (.p (.fn (.func g) first captured))):∃fs cs:List Value,v=.func (.func g) fs.toArray cs.toArray/\(fs.length=first.length/\∀(i:Nat)(c:Value)(x:AV),fs[i]?=some c->first[i]?=some x->dA G.bk w c x)/\(cs.length=captured.length/\∀(i:Nat)(c:Value)(x:AV),cs[i]?=some c->captured[i]?=some x->dA G.bk w c x):=by
 cases h with
 |p v x h=>
  cases h with
  |fn f fs cs first captured h1 h2 h3 h4=>grind
theorem ME {v:Value}{g:FuncId}{first captured:List FV}(h:aT G w v (.fn (.func g) first captured)):∃fs cs:List Value,v=.func (.func g) fs.toArray cs.toArray/\(fs.length=first.length/\∀(i:Nat)(c:Value)(x:FV),fs[i]?=some c->first[i]?=some x->aT G w c x)/\(cs.length=captured.length/\∀(i:Nat)(c:Value)(x:FV),cs[i]?=some c->captured[i]?=some x->aT G w c x):=by
 cases h with
 |fn f fs cs first captured h1 h2 h3 h4=>grind
theorem mb {cs ds:List Value}{xs ys:List FV}(h:cs.length=xs.length/\∀(i:Nat)(c:Value)(x:FV),cs[i]?=some c->xs[i]?=some x->aT G w c x)(h':ds.length=ys.length/\∀(i:Nat)(c:Value)(x:FV),ds[i]?=some c->ys[i]?=some x->aT G w c x):(cs++ds).length=(xs++ys).length/\∀(i:Nat)(c:Value)(x:FV),(cs++ds)[i]?=some c->(xs++ys)[i]?=some x->aT G w c x:=by grind
theorem VL (hs:bt E G S a w){f:Operand}{args:Array Operand}{types:Array TypeId}(ho:o.op=.call ⟨.value f,args,types⟩){KK:FuncId->List AV->Prop}(h:match S.val f with
 |.p (.fn (.func g) first captured)=>match FV.fe (args.toList.map S.val)with|some xs=>KK g (first++xs++captured)|none=>False
 |.fn (.func g) first captured=>match FV.fe (first++args.toList.map S.val++captured)with|some xs=>KK g xs|none=>False
 |_=>False):∃g first captured xs,a.eval f=.func (.func g) first captured/\KK g xs/\((first++args.map a.eval++captured).toList.length=xs.length/\∀(i:Nat)(c:Value)(x:AV),(first++args.map a.eval++captured).toList[i]?=some c->xs[i]?=some x->dA G.bk w c x):=by have hf:=aT.val hs f;generalize S.val f=vf at h hf;split at h;split at h;rename_i xs hxs;obtain⟨fs,cs,hv,h1,h2⟩:=RY hf;refine⟨_,fs.toArray,cs.toArray,_,hv,h,?_⟩;have h3:=wF (wF h1 (nY (tP hs args.toList) hxs)) h2;grind;simp_all;split at h;rename_i xs hxs;obtain⟨fs,cs,hv,h1,h2⟩:=ME hf;refine⟨_,fs.toArray,cs.toArray,_,hv,h,?_⟩;have h3:=nY (mb (mb h1 (tP hs args.toList)) h2) hxs;grind;simp_all;simp_all
theorem wp_callV (hs:bt E G S a w){f:Operand}{args:Array Operand}{types:Array TypeId}(ho:o.op=.call ⟨.value f,args,types⟩){K:FV->Prop}(h:zT E.C (S.val f) (args.toList.map S.val) K){next:Act->World->Prop}{Q:Exit->Act->World->Prop}(hn:∀x v G' w',K x->bt E G' S a w'->aT G' w' v x->next (a.put o.dst v) w'):Bl E o a w next Q:=by obtain⟨g,first,captured,xs,hv,⟨R,hc,hk⟩,hr⟩:=VL hs ho (KK:=λg xs=>∃R,aq E.C g xs R/\∀r,R r->K r.plain) (by unfold zT at h;omega);refine wp_call hs ho hv hr hc λr v w' hR hb hok=>?_;exact hn _ v _ w' (hk r hR) (hs.ext hb) hok.RW
theorem Fp (hs:bt E G S a w){K:FV->Prop}(h:eH E.C S o.op K){next:Act->World->Prop}{Q:Exit->Act->World->Prop}(hn:∀x v G' w',K x->bt E G' S a w'->aT G' w' v x->next (a.put o.dst v) w'):Bl E o a w next Q:=by
 cases hop:o.op with
 |move x=>rw[hop]at h;simp only[eH,force_eq]at h;exact wp_of_yields hs (Yields.same (by simp[execOp,hop]) h (aT.val hs x)) hn
 |assign x=>rw[hop]at h;simp only[eH,force_eq]at h;exact wp_of_yields hs (Yields.same (by simp[execOp,hop]) h (aT.val hs x)) hn
 |pick c x y=>rw[hop]at h;exact wp_of_yields hs (OS hs hop h) hn
 |binOp op t x y yt=>rw[hop]at h;simp only[eH]at h;split at h;rename_i hy;exact wp_of_yields hs (OM hs hop hy h) hn;split at h;rename_i hy;exact wp_of_yields hs (OO hs hop hy h) hn;exact wp_of_yields hs (RV hs hop h) hn
 |unOp op t x=>rw[hop]at h;exact wp_of_yields hs (OT hs hop h) hn
 |convert src dst x=>rw[hop]at h;exact wp_of_yields hs (HJ hs hop h) hn
 |makeInterface t x=>rw[hop]at h;exact wp_of_yields hs (yE hs hop h) hn
 |makeFunc fn first captured=>rw[hop]at h;simp only[eH,jX]at h;exact wp_of_yields hs (xN hs hop h) hn
 |build t parts=>rw[hop]at h;exact wp_of_yields hs (MB hs hop h) hn
 |buildSlice t len parts=>rw[hop]at h;exact wp_of_yields hs (CM hs hop h) hn
 |load t x=>rw[hop]at h;exact wp_of_yields hs (OR hs hop h) hn
 |nilCheck x=>rw[hop]at h;exact wp_of_yields hs (Gl hs hop h) hn
 |fieldAddr s x f=>rw[hop]at h;exact wp_of_yields hs (Eo hs hop h) hn
 |field s x f=>rw[hop]at h;exact wp_of_yields hs (My hs hop h) hn
 |indexAddr t x i=>rw[hop]at h;exact wp_of_yields hs (Ep hs hop h) hn
 |index t x i=>rw[hop]at h;exact wp_of_yields hs (Mz hs hop h) hn
 |lookup t x i ok=>rw[hop]at h;exact wp_of_yields hs (JX hs hop h) hn
 |slice t x lo hi mx=>
  rw[hop]at h;cases mx with
  |none=>exact wp_of_yields hs (MA hs hop h) hn
  |some m=>exact h.elim
 |extract x i=>rw[hop]at h;exact wp_of_yields hs (HK hs hop h) hn
 |call c=>
  rw[hop]at h;obtain⟨callee,args,types⟩:=c;cases callee with
  |value f=>exact wp_callV hs hop h hn
  |invoke r m=>exact h.elim
  |builtin b=>exact wp_of_yields hs (yF hs hop h) hn
 |_=>rw[hop]at h;exact h.elim
end
section
variable {E:Env}{G:bf}{S:aj}{a:Act}{w:World}{o:Oper}
theorem kR {d o:Nat}{cells:List FV}:∀{l:List (Nat×List FV)},Qv.getObj (eA d l) o=some cells->o≠d/\∃cs,Qv.getObj l o=some cs/\cells=FV.eD d cs:=by
 intro l;induction l with
 |nil=>intro h;cases h
 |cons p l ih=>
  obtain⟨u,i⟩:=p;intro h;simp only[eA]at h;split at h;rename_i hb;obtain rfl:=aM hb;obtain⟨h1,cs,h2,h3⟩:=ih h;refine⟨h1,cs,?_,h3⟩;simp only[Qv.getObj];have :Nat.beq u o=false:=by cases hb:Nat.beq u o;rfl;simp_all
  simp_all;rename_i hb;simp only[Qv.getObj]at h⊢;grind
theorem kr {d o:Nat}{bs:List UInt8}:∀{l:List (Nat×List UInt8)},lT (Ch d l) o=some bs->o≠d/\lT l o=some bs:=by
 intro l;induction l with
 |nil=>intro h;cases h
 |cons p l ih=>
  obtain⟨u,i⟩:=p;intro h;simp only[Ch]at h;split at h;rename_i hb;obtain rfl:=aM hb;obtain⟨h1,h2⟩:=ih h;refine⟨h1,?_⟩;simp only[lT];have :Nat.beq u o=false:=by cases hb:Nat.beq u o;rfl;simp_all
  simp_all;rename_i hb;simp only[lT]at h⊢;grind
theorem oV {d o:Nat}{l:List (Nat×List FV)}(h:Qv.getObj l o=none):Qv.getObj (eA d l) o=none:=by
 cases h':Qv.getObj (eA d l) o with
 |none=>rfl
 |some cs=>obtain⟨-,cs',h2,-⟩:=kR h';simp_all
theorem qa {α:Type}{d o:Nat}{x:α}:∀{l:List (Nat×α)},getM (Aw d l) o=some x->o≠d/\getM l o=some x:=by
 intro l;induction l with
 |nil=>intro h;cases h
 |cons p l ih=>
  obtain⟨u,i⟩:=p;intro h;simp only[Aw]at h;split at h;rename_i hb;obtain rfl:=aM hb;obtain⟨h1,h2⟩:=ih h;refine⟨h1,?_⟩;simp only[getM];have :Nat.beq u o=false:=by cases hb:Nat.beq u o;rfl;simp_all
  simp_all;rename_i hb;simp only[getM]at h⊢;grind
theorem lY.ae0 {G G':bf}{S S':aj}{w:World}(d:Nat)(h1:S'.maps=(S.kill d).maps)(h2:S'.je=(S.kill d).je)(h3:lY (FV.kill d) G G' S (S.kill d) w):lY (FV.kill d) G G' S S' w:=⟨h3.p,λo l h=>h3.maps o l (h1▸h),λq x h=>h3.je q x (h2▸h),h3.mp,h3.it,h3.aeW,h3.aeX,h3.loc,h3.tail⟩
theorem wG {f:FV->FV}{o:Nat}{l':List (AV×FV)}:∀{ms:List (Nat×List (AV×FV))},getM (AD f ms) o=some l'->∃l,getM ms o=some l/\l'=uq f l:=by
 intro ms;induction ms with
 |nil=>intro h;cases h
 |cons p ms ih=>obtain⟨u,i⟩:=p;intro h;simp only[AD,getM]at h⊢;grind
def bf.free (G:bf)(d:Nat):bf:={G with loc:=λo=>if o=d then none else G.loc o,tail:=λt=>if t=d then none else G.tail t,row:=λo=>if o=d then none else G.row o,mp:=λo=>if o=d then none else G.mp o,it:=λo=>if o=d then none else G.it o}
theorem lY.ae1 {G G':bf}{S:aj}{w:World}(d:Nat)(hi:∀b i es k,w.heap[b]?=some (.map es k)->(∃o,G'.mp o=some b)->G'.bk b i->G.bk b i)(hi':∀b,G.bk b 0->G'.bk b 0)(hmp:∀o b,o≠d->G.mp o=some b->G'.mp o=some b)(VM:∀o b,G'.mp o=some b->G.mp o=some b)(hit:∀o b,o≠d->G.it o=some b->G'.it o=some b)(VN:∀o b,G'.it o=some b->G.it o=some b)(hl:∀o b,G'.loc o=some b->G.loc o=some b)(ht:∀q r,G.tail (.inr q)=some r->G'.tail (.inr q)=some r:=by first|exactλ_ _ h=>h|exactλ_ _ h=>(af (λe=>nomatch e)).trans h):lY (FV.kill d) G G' S (S.kill d) w:=by refine⟨λ_=>rfl,λo l' h=>?_,λq x h=>?_,VM,VN,hi,hi',λo b h=>.inl (hl o b h),ht⟩;obtain⟨l,h1,h2⟩:=wG h;obtain⟨h3,h4⟩:=qa h1;simp_all;obtain⟨h1,h2⟩:=qa h;simp_all
theorem lY.kill {G G':bf}{S:aj}{w:World}(d:Nat)(hi:G'.bk=G.bk)(hmp:∀o b,o≠d->G.mp o=some b->G'.mp o=some b)(VM:∀o b,G'.mp o=some b->G.mp o=some b)(hit:∀o b,o≠d->G.it o=some b->G'.it o=some b)(VN:∀o b,G'.it o=some b->G.it o=some b)(hl:∀o b,G'.loc o=some b->G.loc o=some b)(ht:∀q r,G.tail (.inr q)=some r->G'.tail (.inr q)=some r:=by first|exactλ_ _ h=>h|exactλ_ _ h=>(af (λe=>nomatch e)).trans h):lY (FV.kill d) G G' S (S.kill d) w:=.ae1 d (λ_ _ _ _ _ _ h=>hi▸h) (λ_ h=>hi▸h) hmp VM hit VN hl ht
theorem bf.oW {G:bf}{d:Nat}:(∀o b,o≠d->G.mp o=some b->(G.free d).mp o=some b)/\(∀o b,(G.free d).mp o=some b->G.mp o=some b)/\(∀o b,o≠d->G.it o=some b->(G.free d).it o=some b)/\(∀o b,(G.free d).it o=some b->G.it o=some b):=⟨λo b h h'=>by simp only[bf.free];simp_all,λo b h=>by simp only[bf.free]at h;simp_all,λo b h h'=>by simp only[bf.free];simp_all,λo b h=>by simp only[bf.free]at h;simp_all⟩
def lG (S:aj)(o:Nat)(t:Nm)(s:Nat):Prop:=t=o/\lT S.cT o=none/\∀cells,Qv.getObj S.aI o=some cells->cells.length=s
theorem lG.mono {S S':aj}{o:Nat}{t:Nm}{s:Nat}(h:lG S o t s)(hb:∀bs,lT S'.cT o=some bs->∃bs,lT S.cT o=some bs)(ho:∀cells,Qv.getObj S'.aI o=some cells->∃cs,Qv.getObj S.aI o=some cs/\cells.length=cs.length):lG S' o t s:=by
 obtain⟨h1,h2,h3⟩:=h;refine⟨h1,?_,λcells hc=>?_⟩;cases hq:lT S'.cT o with
 |none=>rfl
 |some bs=>simp_all
 grind
theorem lG.kill {S:aj}{o:Nat}{t:Nm}{s:Nat}(h:lG S o t s)(d:Nat):lG (S.kill d) o t s:=h.mono (λbs q=>⟨bs,(kr q).2⟩) λcells q=>by obtain⟨-,cs,h1,rfl⟩:=kR q;exact⟨cs,h1,by rw[FV.fB,ah]⟩
theorem bt.ae2 (hs:bt E G S a w)(d:Nat){G':bf}(hi:G'.bk=G.bk)(hl:∀o b,o≠d->G.loc o=some b->G'.loc o=some b)(ht:∀(t:Nm) r,t≠d->G.tail t=some r->G'.tail t=some r)(hl':∀o b,G'.loc o=some b->G.loc o=some b)(ht':∀t r,G'.tail t=some r->G.tail t=some r)(hrw:∀o,o≠d->G'.row o=G.row o)(ajT:∀o r,G'.row o=some r->G.row o=some r)(hy:∀l k,l≠d->G.yl l=some k->G'.yl l=some k:=by intro _ _ _ h;exact h)(hy':∀l k,G'.yl l=some k->G.yl l=some k:=by intro _ _ h;exact h)(hmp:∀o b,o≠d->G.mp o=some b->G'.mp o=some b:=by intro _ _ _ h;exact h)(VM:∀o b,G'.mp o=some b->G.mp o=some b:=by intro _ _ h;exact h)(hit:∀o b,o≠d->G.it o=some b->G'.it o=some b:=by intro _ _ _ h;exact h)(VN:∀o b,G'.it o=some b->G.it o=some b:=by intro _ _ h;exact h):bt E G' (S.kill d) a w:=by
 refine⟨hs.kept,hs.size,hs.ext'.move (FV.kill d) rfl rfl rfl (λv x h=>h.kill d hi hl (λt r h=>ht t r (Yb h)) hy hmp hit) (.refl _) (.kill d hi hmp VM hit VN hl' λq r h=>ht _ _ (λe=>nomatch e) h) hy',?_,hi▸hs.nN,hi▸hs.fh,λi hi'=>(hs.tmps i hi').kill d hi hl (λt r h=>ht t r (Yb h)) hy hmp hit,λo cells ho=>?_,λo b ho=>hi▸hs.gG o b (hl' o b ho),λo o' b h h'=>hs.eY o o' b (hl' _ _ h) (hl' _ _ h'),λo t b r h h'=>lG.kill (hs.cz o t b r (hl' _ _ h) (ht' _ _ h')) d,λt b s e T h=>hi▸hs.fQ t b s e T (ht' _ _ h),λt t' b r r' h h'=>hs.er t t' b r r' (ht' _ _ h) (ht' _ _ h')⟩;refine hs.iX.keep rfl rfl (λo bs q=>?_) (λo _ _ q=>oV q) ajT (aA _) (λ_ _ _ _ _ _=>rfl) (λ_ _ _=>rfl) (λ_ _ _ _ q=>hi▸q) (λ_ _ _ _ q=>hl' _ _ q) (λ_ _ t q _ e=>⟨t,q,ht' _ _ e⟩);obtain⟨q1,q2⟩:=kr q;obtain⟨-,b,q3,-⟩:=hs.iX.at_ o bs q2;simp_all;obtain⟨h1,cs,h2,rfl⟩:=kR ho;obtain⟨b,h3,h4⟩:=hs.aI o cs h2;refine⟨b,hl o b h1 h3,λi x hx=>?_⟩;rw[FV.fB,aN]at hx;cases hc:cs[i]?with
 |none=>simp_all
 |some y=>simp[hc]at hx;subst hx;obtain⟨c,h5,h6⟩:=h4 i y hc;exact⟨c,h5,h6.kill d hi hl (λt r h=>ht t r (Yb h)) hy hmp hit⟩
theorem bt.kill (hs:bt E G S a w)(d:Nat):bt E (G.free d) (S.kill d) a w:=hs.ae2 d rfl (λo b h h'=>by simp only[bf.free];simp_all) (λt r h h'=>by simp only[bf.free];simp_all) (λo b h=>by simp only[bf.free]at h;simp_all) (λt r h=>by simp only[bf.free]at h;simp_all) (λo h=>by simp only[bf.free];simp_all) (λo r h=>by simp only[bf.free]at h;simp_all) (hmp:=λo b h h'=>by simp only[bf.free];simp_all) (VM:=λo b h=>by simp only[bf.free]at h;simp_all) (hit:=λo b h h'=>by simp only[bf.free];simp_all) (VN:=λo b h=>by simp only[bf.free]at h;simp_all)
theorem uD (hs:bt E G S a w)(d:Nat)(hdn:iw d=false)(cs:List Value)(xs:List FV)(t:TypeId)(hr:∀(i:Nat)(x:FV),xs[i]?=some x->∃c,cs[i]?=some c/\aT G w c x):∃G',bt E G' {S.kill d with aI:=(d,FV.eD d xs)::eA d S.aI} a (w.alloc (.cells cs.toArray t))/\G'.loc d=some w.heap.size/\G'.row d=none/\G'.tail d=none/\(∀t r,G'.tail t≠some (w.heap.size,r))/\(∀o,o≠d->G'.loc o≠some w.heap.size)/\(∀o,G'.row o≠some w.heap.size)/\(∀i,¬G'.bk w.heap.size i):=by
 have hb:Below w.heap.size w (w.alloc (.cells cs.toArray t)):=(Below.refl _ _).alloc (aA _) _;have h1:=(hs.OE hb λ_ _=>False).kill d;have keep:∀v x,aT G w v x->aT (bf.free {G with bk:=λb o=>G.bk b o\/(w.heap.size<=b/\b<(w.alloc (.cells cs.toArray t)).heap.size/\False)} d) (w.alloc (.cells cs.toArray t)) v (x.kill d):=λv x hv=>by refine aT.kill (G:={G with bk:=λb o=>G.bk b o\/(w.heap.size<=b/\b<(w.alloc (.cells cs.toArray t)).heap.size/\False)}) d ?_ rfl (λo b h h'=>by simp only[bf.free];simp_all) (λt r h h'=>by simp only[bf.free];simp_all) (hmp:=λo b h h'=>by simp only[bf.free];simp_all) (hit:=λo b h h'=>by simp only[bf.free];simp_all);exact hv.keep (λb o h=>.inl h) (λb o c hi hc=>by rw[World.cell?_alloc_lt _ _ _ (hs.fh b o hi)];omega) (Ct _ _ _) (λ_ _ h=>h) (λ_ _ h=>h)
 have hlt:∀o b,(if o=d then none else G.loc o)=some b->b<w.heap.size:=λo b h=>by split at h;grind;exact(hs.gG o b h).1
 have RZ:∀(t:Nm) b r,(if t=d then none else G.tail t)=some (b,r)->b<w.heap.size:=λt b r h=>by split at h;grind;obtain⟨s,e,T⟩:=r;exact(hs.fQ t b s e T h).1
 let G2:bf:={bk:=λb o=>G.bk b o\/(w.heap.size<=b/\b<(w.alloc (.cells cs.toArray t)).heap.size/\False),loc:=λo=>if o=d then some w.heap.size else G.loc o,tail:=λt=>if t=d then none else G.tail t,yl:=G.yl,row:=λo=>if o=d then none else G.row o,mp:=λo=>if o=d then none else G.mp o,it:=λo=>if o=d then none else G.it o};have up:∀{W:World}{v:Value}{x:FV},aT (bf.free {G with bk:=λb o=>G.bk b o\/(w.heap.size<=b/\b<(w.alloc (.cells cs.toArray t)).heap.size/\False)} d) W v x->aT G2 W v x:=λh=>h.keep (λ_ _ h=>h) (λ_ _ _ _ h=>h) (.refl _ _) (λo b h=>by simp only[bf.free]at h;grind) (λ_ _ h=>h);have hnew:∀b i,G.bk b i\/(w.heap.size<=b/\b<(w.alloc (.cells cs.toArray t)).heap.size/\False)->b≠w.heap.size:=λb i h e=>by rcases h with h|⟨_,_,h⟩;have :=hs.fh b i h;omega;omega
 have hsz:(w.alloc (.cells cs.toArray t)).heap.size=w.heap.size+1:=World.size_alloc w _;have HB:lY (λx=>x) (bf.free {G with bk:=λb o=>G.bk b o\/(w.heap.size<=b/\b<(w.alloc (.cells cs.toArray t)).heap.size/\False)} d) G2 (S.kill d) {S.kill d with aI:=(d,FV.eD d xs)::eA d S.aI} (w.alloc (.cells cs.toArray t)):=by refine .more rfl rfl rfl rfl (λb i h=>.inl h) (λb h=>h) λo b h=>?_;simp only[G2]at h;split at h;obtain rfl:=au h;refine .inr λes k e=>?_;rw[World.alloc_heap_new]at e;grind;rename_i hne;refine .inl ?_;simp only[bf.free];simp_all
 have base:bt E G2 {S.kill d with aI:=(d,FV.eD d xs)::eA d S.aI} a (w.alloc (.cells cs.toArray t)):=by
  refine⟨h1.kept,h1.size,h1.ext'.keep rfl rfl rfl (λv x h=>up h) (.refl _) (HB:=HB),?_,h1.nN,h1.fh,λi hi=>up (h1.tmps i hi),λo cells ho=>?_,λo b ho=>?_,λo o' b h h'=>?_,λo t b r h h'=>?_,λt b s e T h=>h1.fQ t b s e T h,h1.er⟩;refine h1.iX.keep rfl rfl (λo bs q=>?_) (λo bs q0 q=>?_) (λ_ _ e=>e) (aA _) (λ_ _ _ _ _ _=>rfl) (λ_ _ _=>rfl) (λ_ _ _ _ e=>e) (λo r o' e q=>?_) (λ_ _ t q _ e=>⟨t,q,e⟩);obtain⟨q1,q2⟩:=kr (l:=S.cT) q;refine⟨q,?_,rfl⟩;simp only[G2,bf.free];simp_all;simp only[Qv.getObj];split;rename_i OX;obtain rfl:=aM OX;exact absurd rfl (kr (l:=S.cT) q0).1;exact q;simp only[G2]at q;split at q;have :=(h1.iX.row o r e).2.1;have hlt:=(hs.iX.row o r (by simp only[bf.free]at e;simp_all)).2.1;simp_all;rename_i hne;simp only[bf.free];simp_all;simp only[Qv.getObj]at ho;split at ho;rename_i OX;obtain rfl:=aM OX;obtain rfl:=au ho;refine⟨w.heap.size,by grind,λi x hx=>?_⟩;rw[FV.fB,aN]at hx;cases hy:xs[i]?with
  |none=>simp_all
  |some y=>simp[hy]at hx;subst hx;obtain⟨c,hc1,hc2⟩:=hr i y hy;simp_all
  rename_i OX;have hne:o≠d:=λe=>by simp_all
  obtain⟨b,h2,h3⟩:=h1.aI o cells ho;refine⟨b,?_,λi x hx=>let⟨c,h4,h5⟩:=h3 i x hx;⟨c,h4,up h5⟩⟩;simp only[bf.free]at h2;grind;simp only[G2]at ho;split at ho;obtain rfl:=au ho;refine⟨oO,.inl ⟨hs.kept.size,by simp_all⟩,λi=>⟨λh=>hnew _ _ h rfl,?_⟩⟩;simp_all;rename_i hne;exact h1.gG o b (by simp only[bf.free];simp_all);simp only[G2]at h h';split at h<;>split at h';omega;grind;grind;rename_i h2 h3;exact h1.eY o o' b (by simp only[bf.free];simp_all) (by simp only[bf.free];simp_all);simp only[G2]at h h';split at h;grind;rename_i hne;exact lG.mono (h1.cz o t b r (by simp only[bf.free];simp_all) h') (λbs q=>⟨bs,q⟩) λcells q=>by simp only[Qv.getObj]at q;split at q;simp_all;exact⟨cells,q,rfl⟩
 refine⟨G2,base,by grind,by grind,by grind,λt r h=>?_,λo hne h=>?_,λo h=>?_,λi h=>hnew _ _ h rfl⟩;grind;grind;simp only[G2]at h;split at h;grind;have :=(hs.iX.row o _ h).2.1;omega
theorem CO (hs:bt E G S a w)(q:Nat)(hdn:iw (S.off+q)=false)(cs:List Value)(xs:List FV)(t:TypeId)(hr:yG G w cs xs):∃G',bt E G' (newObj S q xs) (a.put (some q) (.pointer (some ⟨w.heap.size,0,none⟩))) (w.alloc (.cells cs.toArray t))/\G'.loc (S.off+q)=some w.heap.size/\G'.row (S.off+q)=none/\∀t r,G'.tail t≠some (w.heap.size,r):=by
 obtain⟨G',h1,h2,h3,-,h5,-⟩:=uD hs (S.off+q) hdn cs xs t λi x hx=>by
  have hl:i<cs.length:=by rw[hr.1];exact(aJ.1 hx).1
  exact⟨cs[i],av hl,hr.2 i _ x (av hl) hx⟩
 exact⟨G',h1.put (some q) (v:=.pointer (some ⟨w.heap.size,0,none⟩)) (x:=.ptr (S.off+q) 0) (.ptr _ 0 _ h2),h2,h3,h5⟩
theorem bt.ahy {d b:Nat}{cells:List FV}{rest:List (Nat×List FV)}(hs:bt E G S a w)(ho:S.aI=(d,cells)::eA d rest)(hl:G.loc d=some b)(hr:G.row d=none)(htd:∀t r,G.tail t≠some (b,r))(hw:w.heap[b]?=some (.cells #[.pointer none,.slice none 0 0] E.C.bT (0,0))):bt E G {S with aI:=eA d rest,cT:=(d,[])::S.cT} a w:=by
 have hout:∀o,o≠d->Qv.getObj S.aI o=Qv.getObj (eA d rest) o:=λo hne=>by rw[ho];simp only[Qv.getObj];split;simp_all;rfl
 have hd:Qv.getObj (eA d rest) d=none:=by
  cases h':Qv.getObj (eA d rest) d with
  |none=>rfl
  |some cs=>exact absurd rfl (kR h').1
 refine⟨hs.kept,hs.size,hs.ext'.keep rfl rfl rfl (λ_ _ h=>h) (.refl _),⟨λo bs q=>?_,hs.iX.row,hs.iX.di⟩,hs.nN,hs.fh,hs.tmps,λo cs q=>?_,hs.gG,hs.eY,λo t b' r q1 q2=>?_,hs.fQ,hs.er⟩;simp only[lT]at q;split at q;rename_i OX;obtain rfl:=aM OX;obtain rfl:=au q;refine⟨hd,b,hl,?_⟩;rw[hr];exact⟨none,.slice none 0 0,.inl rfl,hw,rfl,rfl⟩;rename_i OX;obtain⟨q1,q2⟩:=hs.iX.at_ o bs q;grind;refine hs.aI o cs ?_;grind;have hne:o≠d:=λe=>by simp_all
 refine lG.mono (hs.cz o t b' r q1 q2) (λbs q=>?_) λcells q=>⟨cells,by simp_all,rfl⟩;simp only[lT]at q;split at q;simp_all;simp_all
theorem bt.Ul {o b:Nat}{bs:List UInt8}{row':Option Nat}{Um:List (Nat×List UInt8)}{w':World}(hs:bt E G S a w)(ho:lT S.cT o=some bs)(hl:G.loc o=some b)(hfz:∃p v,w'.heap[b]?=some (.cells #[p,v] E.C.bT (0,0)))(hrow:row'=G.row o\/row'=none\/∃x,row'=some x/\w.heap.size<=x/\x<w'.heap.size)(alu:∀r,row'=some r->∃cs T fr,w'.heap[r]?=some (.cells cs T fr))(hos:w'.os=w.os)(OY:w'.tape=w.tape)(hout:w'.output=w.output)(hsz:w.heap.size<=w'.heap.size)(hblk:∀k,k<w.heap.size->k≠b->G.row o≠some k->w'.heap[k]?=w.heap[k]?)(hbl:∀q bs',lT Um q=some bs'->(q=o/\yh E.C w' b row' bs')\/(q≠o/\lT S.cT q=some bs')):bt E {G with row:=λq=>if q=o then row' else G.row q} {S with cT:=Um} a w'/\∀v x,aT G w v x->aT {G with row:=λq=>if q=o then row' else G.row q} w' v x:=by
 obtain⟨OZ,b0,hl0,rQ⟩:=hs.iX.at_ o bs ho;rw[hl]at hl0;obtain rfl:=au hl0;obtain⟨l1,l2,l3⟩:=hs.gG o b hl;have Bi:∀k i,G.bk k i->w'.heap[k]?=w.heap[k]?:=λk i h=>hblk k (hs.fh k i h) (λe=>(l3 i).1 (e▸h)) (λe=>(hs.iX.row o k e).2.2.1 i h);have fF:∀q k,q≠o->G.loc q=some k->w'.heap[k]?=w.heap[k]?:=λq k hne h=>hblk k (hs.gG q k h).1 (λe=>hne (hs.eY q o k h (e▸hl))) (λe=>(hs.iX.row o k e).2.2.2.1 q h);have ahp:∀t k r,G.tail t=some (k,r)->w'.heap[k]?=w.heap[k]?:=λt k r h=>hblk k (hs.fQ t k r.1 r.2.1 r.2.2 h).1 (λe=>by have :=(hs.cz o t b r hl (e▸h)).2.1;simp_all) (λe=>(hs.iX.row o k e).2.2.2.2.1 t r h);have hrows:∀q k,q≠o->G.row q=some k->w'.heap[k]?=w.heap[k]?:=λq k hne h=>hblk k (hs.iX.row q k h).2.1 (λe=>(hs.iX.row q k h).2.2.2.1 o (e▸hl)) (λe=>hne ((hs.iX.row o k e).2.2.2.2.2 q h));have cell:∀k i,w'.heap[k]?=w.heap[k]?->w'.cell? ⟨k,i,none⟩=w.cell? ⟨k,i,none⟩:=λk i h=>by unfold World.cell?;simp_all
 have amv:∀k i,w'.heap[k]?=w.heap[k]?->w'.frozen? ⟨k,i,none⟩=w.frozen? ⟨k,i,none⟩:=λk i h=>by unfold World.frozen?;simp_all
 have keep:∀v x,aT G w v x->aT {G with row:=λq=>if q=o then row' else G.row q} w' v x:=λv x h=>h.keep (λ_ _ h=>h) (λk i c hi hc=>by grind) (λk es n hi hb=>by grind) (λ_ _ h=>h) (λ_ _ h=>h);have others:fV w w':=λk ob hk hc=>by rw[hblk k (bq.1 hk).1 (λe=>?_) (λe=>?_)];omega;subst e;obtain⟨p,v,-,h2,-⟩:=rQ;rw[h2]at hk;obtain rfl:=au hk;simp[Obj.isCells]at hc;obtain⟨p,v,-,-,h3⟩:=rQ;rw[e]at h3;obtain⟨-,cap,cur,-,h4,-⟩:=h3;rw[h4]at hk;obtain rfl:=au hk;simp[Obj.isCells]at hc
 refine⟨⟨⟨hos.trans hs.kept.os,OY.trans hs.kept.tape,hout.trans hs.kept.output,ck hs.kept.size hsz,λk hk hk'=>?_,λk cs T fr hk q=>?_⟩,hs.size,hs.ext'.keep rfl rfl rfl keep others,⟨λq bs' hq=>?_,λq r hq=>?_,λq r hq=>?_⟩,hs.nN,λk i h=>dW (hs.fh k i h) hsz,λi hi=>keep _ _ (hs.tmps i hi),λq cs hq=>?_,λq k hq=>?_,hs.eY,λq t k r q1 q2=>?_,λt k s e T h=>?_,hs.er⟩,keep⟩;rw[hblk k (dW hk hs.kept.size) (λe=>E.Mv l2 hk hk' e) (λe=>by rcases(hs.iX.row o k e).1 with h|h;omega;exact hk' (E.hrows _ h.2))];exact hs.kept.block k hk hk';obtain⟨cs',q1,q2⟩:=hs.kept.shape k cs T fr hk q;by_cases hkb:k=b;subst hkb;obtain⟨p,v,-,q3,-⟩:=rQ;grind;have hne:G.row o≠some k:=λe=>by obtain⟨o2,hk⟩:=hk;have hko:=E.Co _ hk;rcases(hs.iX.row o k e).1 with h|h;have :=(E.hown _ hko.1).2.1;simp only at this;omega;exact hko.2 h.2
 grind;rcases hbl q bs' hq with⟨rfl,h⟩|⟨hne,h⟩;simp_all;obtain⟨h1,k,h2,h3⟩:=hs.iX.at_ q bs' h;refine⟨h1,k,h2,?_⟩;simp only[af hne];exact h3.keep (fF q k hne h2) (λr e=>hrows q r hne e);simp only at hq;have old:∀q r,G.row q=some r->(q=o\/q≠o)->(E.w0.heap.size<=r\/(q=999999/\r∈E.rows))/\r<w'.heap.size/\(∀i,¬G.bk r i)/\(∀o',G.loc o'≠some r)/\(∀t q,G.tail t≠some (r,q)):=λq r h _=>by obtain⟨h1,h2,h3,h4,h5,-⟩:=hs.iX.row q r h;grind
 by_cases hqo:q=o;subst hqo;rw[ag rfl]at hq;rcases hrow with h|h|⟨x,h,hx,hx'⟩;obtain⟨h1,h2,h3,h4,h5⟩:=old q r (h▸hq) (.inl rfl);refine⟨h1,h2,h3,h4,h5,λo' ho'=>?_⟩;simp only at ho';split at ho';omega;exact(hs.iX.row q r (h▸hq)).2.2.2.2.2 o' ho';simp_all;rw[h]at hq;obtain rfl:=au hq;refine⟨.inl (ck hs.kept.size hx),hx',λi hi=>by grind,λo' e=>by grind,λt q e=>by grind,λo' ho'=>?_⟩;grind;rw[af hqo]at hq;obtain⟨h1,h2,h3,h4,h5⟩:=old q r hq (.inr hqo);refine⟨h1,h2,h3,h4,h5,λo' ho'=>?_⟩;simp only at ho';split at ho';rename_i e;rcases hrow with h|h|⟨x,h,hx,hx'⟩;rw[e];exact((hs.iX.row q r hq).2.2.2.2.2 o (h▸ho'));grind;grind;exact(hs.iX.row q r hq).2.2.2.2.2 o' ho';simp only at hq;split at hq;simp_all;rename_i hne;rw[hrows q r hne hq];exact hs.iX.di q r hq;obtain⟨k,h1,h2⟩:=hs.aI q cs hq;grind;obtain⟨h1,h2,h3⟩:=hs.gG q k hq;refine⟨dW h1 hsz,h2,λi=>⟨(h3 i).1,?_⟩⟩;by_cases hne:q=o;subst hne;rw[hl]at hq;obtain rfl:=au hq;obtain⟨p,v,hb⟩:=hfz;simp[World.frozen?,hb];grind;have hq:=hs.cz q t k r q1 q2;refine lG.mono hq (λbs q3=>?_) λcells q3=>⟨cells,q3,rfl⟩;grind;obtain⟨h1,h2,⟨cs,fr,h3,hu⟩,h4⟩:=hs.fQ t k s e T h;grind
theorem YD {ob o:Nat}{c bs:List UInt8}:∀{l:List (Nat×List UInt8)},lT (Yd l ob c) o=some bs->(o=ob/\bs=c)\/(o≠ob/\lT l o=some bs):=by
 intro l;induction l with
 |nil=>intro h;cases h
 |cons p l ih=>obtain⟨u,i⟩:=p;intro h;simp only[Yd]at h;split at h;rename_i hb;obtain rfl:=aM hb;simp only[lT]at h⊢;split at h;simp_all;grind;rename_i hb;simp only[lT]at h⊢;grind
theorem fT (b:Nat):∀(vs:List Value)(i:Nat)(w:World)(k:Nat),k≠b->(w.setCells b i vs).heap[k]?=w.heap[k]?|[],_,_,_,_=>rfl|v::r,i,w,k,h=>by rw[World.setCells,fT b r _ _ k h];exact Below.heap_setCell _ _ _ _ h
theorem gW (b:Nat):∀(vs:List Value)(i:Nat)(w:World),(w.setCells b i vs).heap.size=w.heap.size|[],_,_=>rfl|v::r,i,w=>by rw[World.setCells,gW b r];simp
theorem jt (b:Nat):∀(vs:List Value)(i:Nat)(w:World),(w.setCells b i vs).os=w.os/\(w.setCells b i vs).tape=w.tape/\(w.setCells b i vs).output=w.output|[],_,_=>⟨rfl,rfl,rfl⟩|v::r,i,w=>by rw[World.setCells];exact jt b r _ _
theorem nC (b:Nat):∀(vs:List Value)(i:Nat)(w:World)(k:Nat)(cs:Array Value)(T:TypeId)(fr:Nat×Nat),w.heap[k]?=some (.cells cs T fr)->∃cs',(w.setCells b i vs).heap[k]?=some (.cells cs' T fr)/\cs'.size=cs.size
 |[],_,_,_,cs,_,_,h=>⟨cs,h,rfl⟩
 |v::r,i,w,k,cs,T,fr,h=>by
  rw[World.setCells];by_cases hk:k=b;subst hk;have :∃cs',(w.setCell ⟨k,i,none⟩ v).heap[k]?=some (.cells cs' T fr)/\cs'.size=cs.size:=by simp only[World.setCell,iL,h];simp
  obtain⟨c1,h1,h2⟩:=this;obtain⟨c2,h3,h4⟩:=nC k r _ _ k c1 T fr h1;exact⟨c2,h3,h4.trans h2⟩;exact nC b r _ _ k cs T fr (by rw[Below.heap_setCell _ _ _ _ hk];omega)
theorem Kept.setCells {own:List Nat}{rP:List (Nat×Nat)}{w0 w:World}(h:Kept own rP w0 w){b:Nat}(hb:w0.heap.size<=b\/b∈own)(i:Nat)(vs:List Value):Kept own rP w0 (w.setCells b i vs):=by obtain⟨h1,h2,h3⟩:=jt b vs i w;refine⟨h1.trans h.os,h2.trans h.tape,h3.trans h.output,by rw[gW];exact h.size,λk hk hk'=>?_,λk cs T fr hk q=>?_⟩;rw[fT b vs i w k (λe=>by grind)];exact h.block k hk hk';obtain⟨cs',q1,q2⟩:=h.shape k cs T fr hk q;obtain⟨cs2,q3,q4⟩:=nC b vs i w k cs' T fr q1;simp_all
theorem fV.setCells (b:Nat):∀(vs:List Value)(i:Nat)(w:World),fV w (w.setCells b i vs)|[],_,w=>.refl w|v::r,i,w=>by rw[World.setCells];refine fV.trans (λk o hk ho=>?_) (fV.setCells b r _ _);exact(KeepsOthers.setCell w _ v).same k o hk ho
theorem jv {p:Nat×Nat->Prop}(b:Nat):∀(vs:List Value)(i:Nat)(w:World)(k:Nat)(T:TypeId),(∃cs fr,w.heap[k]?=some (.cells cs T fr)/\p fr)->∃cs fr,(w.setCells b i vs).heap[k]?=some (.cells cs T fr)/\p fr|[],_,_,_,_,h=>h|v::r,i,w,k,T,h=>by rw[World.setCells];refine jv b r _ _ k T ?_;obtain⟨cs,fr,h,hp⟩:=h;by_cases hk:k=b;subst hk;refine⟨cs.setIfInBounds i v,fr,?_,hp⟩;simp only[World.setCell,iL,h];simp;exact⟨cs,fr,by rw[Below.heap_setCell _ _ _ _ hk];omega,hp⟩
theorem qQ {ob o:Nat}{cs cells:List FV}:∀{l:List (Nat×List FV)},Qv.getObj (setObj l ob cs) o=some cells->(o=ob/\cells=cs)\/(o≠ob/\Qv.getObj l o=some cells):=by
 intro l;induction l with
 |nil=>intro h;cases h
 |cons p l ih=>obtain⟨u,i⟩:=p;intro h;simp only[setObj]at h;split at h;rename_i hb;obtain rfl:=aM hb;simp only[Qv.getObj]at h⊢;split at h;simp_all;grind;rename_i hb;simp only[Qv.getObj]at h⊢;grind
theorem yI (hs:bt E G S a w){ob off b:Nat}{cells zs:List FV}{x:FV}{v:Value}(vj:Qv.getObj S.aI ob=some cells)(fF:G.loc ob=some b)(hv:aT G w v x)(h1:jG x.cells=true)(Bk:gI cells off x.cells=some zs):bt E G {S with aI:=setObj S.aI ob zs} a (w.setCells b off v.cells.toList)/\(storeCells ⟨b,off,none⟩ v.cells.toList 0).run E.C.P w=.ok () (w.setCells b off v.cells.toList):=by
 obtain⟨OV,hco⟩:=qP hv h1;obtain⟨g1,g2,g3⟩:=rG Bk;obtain⟨b',hb',hc⟩:=hs.aI ob cells vj;obtain rfl:b'=b:=by simp_all
 obtain⟨l1,l2,l3⟩:=hs.gG ob b' fF;have hin:∀j,j<v.cells.toList.length->(w.cell? ⟨b',off+j,none⟩).isSome=true:=λj hj=>by
  rw[OV.1]at hj;have hne:x.cells≠[]:=λe=>by simp_all
  have :=g2 hne;have hl:off+j<cells.length:=oO
  obtain⟨c,h2,-⟩:=hc (off+j) _ (av hl);simp_all
 have hrun:=run_storeCells_cells (P:=E.C.P) b' off v.cells.toList 0 w oO (λj _=>(l3 _).2) hco;simp only[wC]at hrun;refine⟨?_,hrun⟩;have hout:∀b2 i,b2≠b'->(w.setCells b' off v.cells.toList).cell? ⟨b2,i,none⟩=w.cell? ⟨b2,i,none⟩:=λb2 i hne=>World.cell?_setCells_out b' _ off w ⟨b2,i,none⟩ (λe=>absurd e hne);have keep:∀u y,aT G w u y->aT G (w.setCells b' off v.cells.toList) u y:=λu y hu=>by refine hu.keep (λ_ _ h=>h) (λb2 i c hi hc=>?_) ((fV.setCells b' _ _ _).pY _) (λ_ _ h=>h) (λ_ _ h=>h);grind
 have hsz:=gW b' v.cells.toList off w;have hfz:∀x,(w.setCells b' off v.cells.toList).frozen? x=w.frozen? x:=λx=>World.frozen?_setCells b' _ off w x;refine⟨hs.kept.setCells (E.Cp l2) _ _,hs.size,hs.ext'.keep rfl rfl rfl keep (.setCells b' _ _ _),?_,hs.nN,λb o h=>by rw[hsz];exact hs.fh b o h,λi hi=>keep _ _ (hs.tmps i hi),λo cs ho=>?_,λo b ho=>?_,hs.eY,λo t b r q1 q2=>?_,λt b s e T h=>?_,hs.er⟩;refine hs.iX.keep rfl rfl (λo bs q=>⟨q,rfl,rfl⟩) (λo bs _ q=>?_) (λ_ _ e=>e) oO (λo bs b q q2 e=>fT _ _ _ _ _ (λe2=>?_)) (λo r e=>fT _ _ _ _ _ (λe2=>(hs.iX.row o r e).2.2.2.1 ob (e2▸fF))) (λ_ _ _ _ e=>e) (λ_ _ _ _ e=>e) (λ_ _ t q _ e=>⟨t,q,e⟩);cases h':Qv.getObj (setObj S.aI ob zs) o with
 |none=>rfl
 |some cs=>rcases qQ h' with⟨rfl,-⟩|⟨-,h2⟩;simp_all;simp_all
 have :=hs.eY o ob b e (e2▸fF);simp_all;rcases qQ ho with⟨rfl,rfl⟩|⟨hne,ho⟩;refine⟨b',fF,λi y hy=>?_⟩;rw[g3 i]at hy;by_cases hi:off<=i/\i<off+x.cells.length;rw[ag hi]at hy;have hj:i-off<v.cells.toList.length:=by rw[OV.1];omega
 have h2:=World.cell?_setCells_in b' v.cells.toList off w hin (i-off) hj;rw[show off+(i-off)=i from oO]at h2;exact⟨_,h2,keep _ _ (OV.2 (i-off) _ y (av hj) hy)⟩;rw[af hi]at hy;obtain⟨c,h2,h3⟩:=hc i y hy;refine⟨c,?_,keep _ _ h3⟩;rw[World.cell?_setCells_out b' _ off w ⟨b',i,none⟩ (λ_ _=>by rw[OV.1];grind)];omega;obtain⟨b2,h2,h3⟩:=hs.aI o cs ho;have Cg:b2≠b':=λe=>hne (hs.eY o ob b2 h2 (e▸fF));grind;obtain⟨k1,k2,k3⟩:=hs.gG o b ho;simp_all;refine lG.mono (hs.cz o t b r q1 q2) (λbs q=>⟨bs,q⟩) λcs q=>?_;rcases qQ q with⟨rfl,rfl⟩|⟨-,q⟩;simp_all;simp_all;obtain⟨k1,k2,kt,k3⟩:=hs.fQ t b s e T h;refine⟨oO,k2,jv _ _ _ _ _ _ kt,λi hi hi'=>?_⟩;obtain⟨⟨c,k4⟩,k5,k6⟩:=k3 i hi hi';refine⟨?_,by simp_all,k6⟩;by_cases Cg:b=b'/\off<=i/\i<off+v.cells.toList.length;obtain⟨rfl,h5,h6⟩:=Cg;have h7:=World.cell?_setCells_in b v.cells.toList off w hin (i-off) oO;simp_all;refine⟨c,?_⟩;rw[World.cell?_setCells_out b' _ off w ⟨b,i,none⟩ (λe1 e2=>by grind)];omega
end
section
variable {E:Env}{G:bf}{S:aj}{a:Act}{w:World}{o:Oper}
structure Flat (bk:Nat->Nat->Prop)(w:World)(e:Nat)(ys:List (List AV))(news:List Value):Prop where
 len:news.length=ys.length*e
 one:∀u,u∈news->u.oneCell'=true
 at_:∀(i:Nat)(zs:List AV)(j:Nat)(z:AV),ys[i]?=some zs->zs[j]?=some z->∃u,news[i*e+j]?=some u/\dA bk w u z/\z.one=true
theorem wH {P:Program}{bk:Nat->Nat->Prop}{ys:List (List AV)}{v:Value}{e:Nat}(h:dA bk w v (.sl ys))(he:∀zs,zs∈ys->zs.length=e):∃news,Flat bk w e ys news/\(Builtin.lenOf v).run P w=.ok ys.length w/\∀w',(∀b o,w'.cell? ⟨b,o,none⟩=w.cell? ⟨b,o,none⟩)->(Builtin.firstCells e ys.length v).run P w'=.ok news.toArray w':=by
 obtain⟨ad,c,rfl,hc,hne⟩:=h.mq;by_cases h0:ys=[];subst h0;refine⟨[],⟨by simp,by simp,by simp⟩,by rfl,λw' _=>?_⟩;cases ad<;>simp[Builtin.firstCells,loadCells,loadCellsFrom];obtain⟨b,off,bM,cell,rfl,g1,g2⟩:=hne h0;have hpos:0<ys.length:=nR.2 h0;obtain rfl:bM=e:=(g1 0 _ (av hpos)).symm.trans (he _ (aO hpos));let f:Nat->Value:=λq=>(w.cell? ⟨b,off+q,none⟩).getD undef;have hq:∀q,q<ys.length*bM->∃zs z,ys[q/bM]?=some zs/\zs[q%bM]?=some z/\z.one=true/\w.cell? ⟨b,off+q,none⟩=some (f q)/\dA bk w (f q) z:=λq hq=>by
  have hep:0<bM:=by rcases Nat.eq_zero_or_pos bM with h|h;simp_all;omega
  have hi:q/bM<ys.length:=CP (by grind);have hzs:=av hi;have hl:=g1 _ _ hzs;have hj:q%bM<(ys[q/bM]).length:=by rw[hl];exact jh _ hep
  obtain⟨k1,k2,k3,k4⟩:=g2 _ _ _ _ hzs (av hj);have hqe:off+q/bM*bM+q%bM=off+q:=by have :=Nat.div_add_mod q bM;rw[wJ]at this;omega
  rw[hqe]at k2;have hf:f q=cell (q/bM) (q%bM):=by simp only[f,k2,wK]
  exact⟨_,_,hzs,av hj,k1,by simp_all,by simp_all⟩
 refine⟨(List.range (ys.length*bM)).map f,⟨by simp,λu hu=>?_,λi zs j z hi hj=>?_⟩,by rfl,λw' hw=>?_⟩;obtain⟨q,MF,rfl⟩:=aC.1 hu;obtain⟨zs,z,-,-,k1,-,k2⟩:=hq q (hU.1 MF);exact k2.VH k1;have Eb:=(aJ.1 hi).1;have hjl:=(aJ.1 hj).1;rw[g1 i zs hi]at hjl;have hlt:i*bM+j<ys.length*bM:=by have :(i+1)*bM<=ys.length*bM:=ew _ Eb;rw[bw]at this;omega
 obtain⟨k1,k2,k3,k4⟩:=g2 _ _ _ _ hi hj;have hf:f (i*bM+j)=cell i j:=by simp only[f,<-fH,k2,wK]
 simp_all;have :=run_loadCells (P:=P) w' ⟨b,off,none⟩ (ys.length*bM) f (λq MF=>by rw[Addr.add_lit,hw];grind);simpa[Builtin.firstCells]using this
theorem Fq {P:Program}{bk:Nat->Nat->Prop}{s:List UInt8}{e:Nat}(he:∀zs,zs∈(s.map λ(b:UInt8)=>[AV.int .u8 (b.toNat:Int)])->zs.length=e):∃news,Flat bk w e (s.map λ(b:UInt8)=>[AV.int .u8 (b.toNat:Int)]) news/\(Builtin.lenOf (.string ⟨s.toArray⟩)).run P w=.ok (s.map λ(b:UInt8)=>[AV.int .u8 (b.toNat:Int)]).length w/\∀w',(Builtin.firstCells e (s.map λ(b:UInt8)=>[AV.int .u8 (b.toNat:Int)]).length (.string ⟨s.toArray⟩)).run P w'=.ok news.toArray w':=by
 have he1:s≠[]->e=1:=λh=>by
  cases s with
  |nil=>simp_all
  |cons b s=>simp_all
 have hsz:(⟨s.toArray⟩:ByteArray).size=s.length:=by simp[ByteArray.size]
 refine⟨s.map λb=>.int .u8 b.toNat,⟨?_,λu hu=>?_,λi zs j z hi hj=>?_⟩,by simp[Builtin.lenOf,hsz],λw'=>?_⟩;by_cases h0:s=[];grind;simp_all;obtain⟨b,-,rfl⟩:=aC.1 hu;rfl;rw[aN]at hi;cases hb:s[i]?with
 |none=>simp_all
 |some b=>
  simp[hb]at hi;subst hi;have hne:s≠[]:=λe=>by simp_all
  cases j with
  |succ j=>simp_all
  |zero=>simp at hj;subst hj;refine⟨.int .u8 b.toNat,?_,.int _ _,rfl⟩;simp_all
 have hx:(⟨s.toArray⟩:ByteArray).extract 0 s.length=⟨s.toArray⟩:=by rw[AK s 0 s.length (aA _)];simp
 simp[Builtin.firstCells,hx]
section
variable {P:Program}
theorem mP {t u elem ty:TypeId}{d:TypeDesc}{n c:Nat}{base:Option Addr}{yv:Value}{i:jF}(ht:P.underlying t=some (.slice elem))(hu:P.underlying u=some d)(hd:∀k,d≠.int k)(hi:fN P elem i)(hl:(Builtin.lenOf yv).run P w=.ok 0 w)(hf:(Builtin.firstCells i.size 0 yv).run P w=.ok #[] w)(hc:n<=c):(Builtin.append_ #[t,u] ty #[.slice base n c,yv]).run P w=.ok (.slice base n c) w:=by
 have hd':(match d with|.int _=>true|_=>false)=false:=by cases d<;>first|rfl|grind
 cases base<;>simp[Builtin.append_,run_underlying ht,run_underlying hu,hi.sizeOf,hd',hl,hf,hc,storeCells]
theorem nZ {t u elem ty:TypeId}{d:TypeDesc}{n c m b off:Nat}{yv:Value}{i:jF}{news:List Value}(ht:P.underlying t=some (.slice elem))(hu:P.underlying u=some d)(hd:∀k,d≠.int k)(hi:fN P elem i)(hl:(Builtin.lenOf yv).run P w=.ok m w)(hf:(Builtin.firstCells i.size m yv).run P w=.ok news.toArray w)(hc:n+m<=c)(hcell:∀j,j<news.length->(w.cell? ⟨b,off+n*i.size+j,none⟩).isSome=true)(hfz:∀j,j<news.length->w.frozen? ⟨b,off+n*i.size+j,none⟩=false)(h1:∀u,u∈news->u.oneCell'=true):(Builtin.append_ #[t,u] ty #[.slice (some ⟨b,off,none⟩) n c,yv]).run P w=.ok (.slice (some ⟨b,off,none⟩) (n+m) c) (w.setCells b (off+n*i.size) news):=by
 have hd':(match d with|.int _=>true|_=>false)=false:=by cases d<;>first|rfl|grind
 have hst:=run_storeCells_cells (P:=P) b (off+n*i.size) news 0 w oO oO h1;simp only[wC]at hst;simp[Builtin.append_,run_underlying ht,run_underlying hu,hi.sizeOf,hd',hl,hf,hc,Addr.add_lit,hst]
theorem iM {t u elem ty:TypeId}{d:TypeDesc}{n c m:Nat}{base:Option Addr}{yv:Value}{i:jF}{olds news:List Value}(ht:P.underlying t=some (.slice elem))(hu:P.underlying u=some d)(hd:∀k,d≠.int k)(hi:fN P elem i)(hl:(Builtin.lenOf yv).run P w=.ok m w)(hf:∀w',(∀b o,w'.cell? ⟨b,o,none⟩=w.cell? ⟨b,o,none⟩)->(Builtin.firstCells i.size m yv).run P w'=.ok news.toArray w')(ho:∀w',(∀b o,w'.cell? ⟨b,o,none⟩=w.cell? ⟨b,o,none⟩)->(Builtin.firstCells i.size n (.slice base n c)).run P w'=.ok olds.toArray w')(hc:¬n+m<=c)(hb:(n+m)*i.bytes<=2^47)(hb0:i.bytes≠0):∃rest z,z.size=i.size/\rest=Builtin.zeroCells z (grownCap w (n+m) c elem-(n+m))/\(Builtin.append_ #[t,u] ty #[.slice base n c,yv]).run P w=.ok (.slice (some ⟨w.heap.size,0,none⟩) (n+m) (grownCap w (n+m) c elem)) (w.drew.alloc (.cells (olds.toArray++news.toArray++rest) elem)):=by
 have hd':(match d with|.int _=>true|_=>false)=false:=by cases d<;>first|rfl|grind
 obtain⟨inf,z,CK,hsz,hby,hz,Cf⟩:=hi.info';refine⟨_,z.cells,by rw[<-jg,Cf,hi.len],rfl,?_⟩;have hfit:=growslice_fits (need:=n+m) (old:=c) (bytes:=i.bytes) oO oO;have Un:n+m<=2^47:=ck (Nat.le_mul_of_pos_right _ (wL hb0)) hb;have amx:¬(((n+m:Nat):Int)>IntKind.i64.max):=by simp only[IntKind.max,IntKind.signed,IntKind.bits,if_true];omega
 have h48:¬Builtin.nextslicecap (n+m) c*i.bytes>2^48:=oO
 have hfw:=hf w.drew (λ_ _=>rfl);have how:=ho w.drew (λ_ _=>rfl);have Uj:∀w',(typeInfo elem).run P w'=.ok inf w':=λw'=>run_typeInfo w' CK;have hzv:∀w',(zeroValue elem).run P w'=.ok z w':=λw'=>by simp[zeroValue,Uj w',hz]
 have hso:∀w',(Go.sizeOf elem).run P w'=.ok i.size w':=λw'=>hi.sizeOf w';have ajV:¬(281474976710656<Builtin.nextslicecap (n+m) c*i.bytes):=oO
 simp[Builtin.append_,run_underlying ht,run_underlying hu,hso,hd',hl,hc,Uj,hby,hb0,ajV,Question.forced,how,hfw,hzv,newRow,grownCap];grind
end
theorem aT.items {y:FV}{v:Value}{ys:List (List AV)}{P:Program}{e:Nat}(hy:y.items=some ys)(h:aT G w v y)(he:∀zs,zs∈ys->zs.length=e):∃news,Flat G.bk w e ys news/\(Builtin.lenOf v).run P w=.ok ys.length w/\∀w',(∀b o,w'.cell? ⟨b,o,none⟩=w.cell? ⟨b,o,none⟩)->(Builtin.firstCells e ys.length v).run P w'=.ok news.toArray w':=by
 cases y with
 |p x=>
  cases x with
  |str s=>
   have hys:(s.map λ(b:UInt8)=>[AV.int .u8 (b.toNat:Int)])=ys:=by simpa[FV.items]using hy
   subst hys;obtain rfl:=h.jP;obtain⟨news,h1,h2,h3⟩:=Fq (P:=P) (w:=w) (bk:=G.bk) he;grind
  |_=>exact wH (h.elems (by simpa[FV.items]using hy)) he
 |_=>exact wH (h.elems (by simpa[FV.items]using hy)) he
theorem bt.yJ (hs:bt E G S a w){t:Nm}{B s e:Nat}{T:TypeId}(h0:G.tail t=none)(h1:B<w.heap.size)(h2:E.w0.heap.size<=B)(hty:∃cs fr,w.heap[B]?=some (.cells cs T fr)/\acD t fr)(h3:∀o,G.loc o=some B->lG S o t s)(h4:∀t' r,G.tail t'≠some (B,r))(h6:∀o,G.row o≠some B)(h5:∀i,s<=i->i<e->(∃c,w.cell? ⟨B,i,none⟩=some c)/\w.frozen? ⟨B,i,none⟩=false/\¬G.bk B i):bt E {G with tail:=λt'=>if t'=t then some (B,s,e,T)else G.tail t'} S a w:=by
 have up:∀v x,aT G w v x->aT {G with tail:=λt'=>if t'=t then some (B,s,e,T)else G.tail t'} w v x:=λv x h=>h.keep (λ_ _ h=>h) (λ_ _ _ _ h=>h) (.refl _ _) (λ_ _ h=>h) (λt' r h=>by grind);have HB:lY (λx=>x) G {G with tail:=λt'=>if t'=t then some (B,s,e,T)else G.tail t'} S S w:=lY.same rfl rfl rfl rfl rfl rfl λq r h=>by grind
 refine⟨hs.kept,hs.size,hs.ext'.keep rfl rfl rfl up (.refl _) (HB:=HB),hs.iX.keep rfl rfl (λo bs q=>⟨q,rfl,rfl⟩) (λ_ _ _ q=>q) (λ_ _ e=>e) (aA _) (λ_ _ _ _ _ _=>rfl) (λ_ _ _=>rfl) (λ_ _ _ _ e=>e) (λ_ _ _ _ e=>e) (λo r t' q e e'=>?_),hs.nN,hs.fh,λi hi=>up _ _ (hs.tmps i hi),λo cells ho=>?_,hs.gG,hs.eY,λo t' b r h h'=>?_,λt' b s' e' T' h=>?_,λt1 t2 b r1 r2 h h'=>?_⟩;grind;obtain⟨b,k1,k2⟩:=hs.aI o cells ho;grind;simp only at h';split at h';rename_i ht;have :=au h';injection this with q1 q2;subst q1;subst q2;subst ht;exact h3 o h;exact hs.cz o t' b r h h';simp only at h;split at h;simp_all;exact hs.fQ t' b s' e' T' h;simp only at h h';split at h<;>split at h';simp_all;simp_all;simp_all;exact hs.er t1 t2 b r1 r2 h h'
theorem bt.Aa (hs:bt E G S a w){t:Nm}{B s e:Nat}{T:TypeId}(h0:G.tail t=none)(h1:B<w.heap.size)(h2:E.w0.heap.size<=B)(hty:∃cs fr,w.heap[B]?=some (.cells cs T fr)/\acD t fr)(h3:∀o,G.loc o≠some B)(h4:∀t' r,G.tail t'≠some (B,r))(h6:∀o,G.row o≠some B)(h5:∀i,s<=i->i<e->(∃c,w.cell? ⟨B,i,none⟩=some c)/\w.frozen? ⟨B,i,none⟩=false/\¬G.bk B i):bt E {G with tail:=λt'=>if t'=t then some (B,s,e,T)else G.tail t'} S a w:=hs.yJ h0 h1 h2 hty (λo h=>(h3 o h).elim) h4 h6 h5
theorem bt.YE (hs:bt E G S a w){k b s0 e0:Nat}{T:TypeId}{news:List Value}(ht:G.tail k=some (b,s0,e0,T))(hn:s0+news.length<=e0):bt E {(G.free k)with bk:=λb' o=>G.bk b' o\/(b'=b/\s0<=o/\o<s0+news.length)} (S.kill k) a (w.setCells b s0 news)/\(∀v x,aT G w v x->aT {(G.free k)with bk:=λb' o=>G.bk b' o\/(b'=b/\s0<=o/\o<s0+news.length)} (w.setCells b s0 news) v (x.kill k))/\(∀b' i c,G.bk b' i->w.cell? ⟨b',i,none⟩=some c->(w.setCells b s0 news).cell? ⟨b',i,none⟩=some c):=by
 obtain⟨t1,t2,⟨tcs,tfr,tty,ttu⟩,t3⟩:=hs.fQ k b s0 e0 T ht;have hcell:∀b' i c,G.bk b' i->w.cell? ⟨b',i,none⟩=some c->(w.setCells b s0 news).cell? ⟨b',i,none⟩=some c:=λb' i c hi hc=>by rw[World.cell?_setCells_out b news s0 w ⟨b',i,none⟩ (λe _=>by grind)];omega
 have hout:∀b2 i,b2≠b->(w.setCells b s0 news).cell? ⟨b2,i,none⟩=w.cell? ⟨b2,i,none⟩:=λb2 i hne=>World.cell?_setCells_out b _ s0 w ⟨b2,i,none⟩ (λe=>absurd e hne);have hfz:∀x,(w.setCells b s0 news).frozen? x=w.frozen? x:=λx=>World.frozen?_setCells b _ s0 w x;have hsz:=gW b news s0 w;have up:∀v x,aT G w v x->aT {(G.free k)with bk:=λb' o=>G.bk b' o\/(b'=b/\s0<=o/\o<s0+news.length)} (w.setCells b s0 news) v (x.kill k):=λv x hv=>by refine aT.kill (G:={G with bk:=λb' o=>G.bk b' o\/(b'=b/\s0<=o/\o<s0+news.length)}) k ?_ rfl (λo b h h'=>by simp only[bf.free];simp_all) (λt r h h'=>by simp only[bf.free];simp_all) (hmp:=bf.oW.1) (hit:=bf.oW.2.2.1);exact hv.keep (λ_ _ h=>.inl h) hcell ((fV.setCells b _ _ _).pY _) (λ_ _ h=>h) (λ_ _ h=>h)
 have vr:∀o b',(G.free k).loc o=some b'->o≠k/\G.loc o=some b':=λo b' h=>by simp only[bf.free]at h;simp_all
 have Pa:∀t r,(G.free k).tail t=some r->t≠k/\G.tail t=some r:=λt r h=>by simp only[bf.free]at h;simp_all
 have HB:lY (FV.kill k) G {(G.free k)with bk:=λb' o=>G.bk b' o\/(b'=b/\s0<=o/\o<s0+news.length)} S (S.kill k) w:=.ae1 k (λb' i es n hb _ h=>h.elim id λh=>by simp_all) (λ_ h=>.inl h) bf.oW.1 bf.oW.2.1 bf.oW.2.2.1 bf.oW.2.2.2 (λo b h=>(vr o b h).2);refine⟨⟨hs.kept.setCells (.inl t2) _ _,hs.size,hs.ext'.move (S':=S.kill k) (FV.kill k) rfl rfl rfl up (.setCells _ _ _ _) HB,?_,?_,?_,λi hi=>up _ _ (hs.tmps i hi),λo cells ho=>?_,λo b' ho=>?_,λo o' b' h h'=>hs.eY o o' b' (vr _ _ h).2 (vr _ _ h').2,λo t b' r h h'=>lG.kill (hs.cz o t b' r (vr _ _ h).2 (Pa _ _ h').2) k,λt b' s e T' h=>?_,λt t' b' r r' h h'=>hs.er t t' b' r r' (Pa _ _ h).2 (Pa _ _ h').2⟩,up,hcell⟩;refine hs.iX.keep rfl rfl (λo bs q=>?_) (λo _ _ q=>oV q) (λo r e=>?_) oO (λo bs b2 q q2 e=>fT _ _ _ _ _ (λe2=>by have :=(hs.cz o k b _ (e2▸e) ht).2.1;simp_all)) (λo r e=>fT _ _ _ _ _ (λe2=>(hs.iX.row o r e).2.2.2.2.1 k _ (e2▸ht))) (λo r i e hi=>?_) (λ_ _ o' _ e=>(vr o' _ e).2) (λ_ _ t q _ e=>⟨t,q,(Pa t _ e).2⟩);obtain⟨q1,q2⟩:=kr q;refine⟨q2,?_,?_⟩;simp only[bf.free];simp_all;simp only[bf.free];simp_all;simp only[bf.free]at e;simp_all;rcases hi with hi|⟨rfl,-,-⟩;omega;exact absurd ht ((hs.iX.row o _ e).2.2.2.2.1 k _);rintro b' o (hi|⟨rfl,-,-⟩);exact hs.nN b' o hi;omega;rintro b' o (hi|⟨rfl,-,-⟩);rw[hsz];exact hs.fh b' o hi;omega;obtain⟨hne,cs,h2,rfl⟩:=kR ho;obtain⟨b',h3,h4⟩:=hs.aI o cs h2;refine⟨b',by simp only[bf.free];simp_all,λi x hx=>?_⟩;rw[FV.fB,aN]at hx;cases hc:cs[i]?with
 |none=>simp_all
 |some y=>simp[hc]at hx;subst hx;obtain⟨c,h5,h6⟩:=h4 i y hc;have hb:b'≠b:=λe=>hne (vW (hs.cz o k b _ (e▸h3) ht).1.symm);simp_all
 obtain⟨hne,ho⟩:=vr o b' ho;obtain⟨k1,k2,k3⟩:=hs.gG o b' ho;have hb:b'≠b:=λe=>hne (vW (hs.cz o k b _ (e▸ho) ht).1.symm);simp_all;obtain⟨hne,h⟩:=Pa t _ h;obtain⟨k1,k2,kt,k3⟩:=hs.fQ t b' s e T' h;have hb:b'≠b:=λe'=>hne (hs.er t k b _ _ (e'▸h) ht);refine⟨oO,k2,jv _ _ _ _ _ _ kt,λi hi hi'=>?_⟩;simp_all
theorem vu (G:bf)(k:Nat):(G.free k).tail k=none:=by simp[bf.free]
theorem yK {bk:Nat->Nat->Prop}{W:World}{b off e c:Nat}{xs:List (List AV)}(hc:xs.length<=c)(hl:∀zs,zs∈xs->zs.length=e)(h:∀(i:Nat)(zs:List AV)(j:Nat)(z:AV),xs[i]?=some zs->zs[j]?=some z->∃u,z.one=true/\W.cell? ⟨b,off+(i*e+j),none⟩=some u/\bk b (off+(i*e+j))/\dA bk W u z):dA bk W (.slice (some ⟨b,off,none⟩) xs.length c) (.sl xs):=dA.OJ hc (λi ys hys=>hl _ (bU hys)) λi ys j y h1 h2=>by grind
theorem Pb (hs:bt E G S a w){k:Nat}{xs ys:List (List AV)}{ad:Option Addr}{c:Nat}{yv:Value}{t u elem ty:TypeId}{dd:TypeDesc}{i:jF}{news:List Value}(ht:E.C.P.underlying t=some (.slice elem))(hu:E.C.P.underlying u=some dd)(hd:∀k,dd≠.int k)(hi:fN E.C.P elem i)(hx:dA G.bk w (.slice ad xs.length c) (.sl xs))(JY:∀zs,zs∈xs->zs.length=i.size)(yL:∀zs,zs∈ys->zs.length=i.size)(hle:xs.length<=c)(hroom:(xs=[]/\c=0)\/(ys≠[]/\c=xs.length)\/∃b off,ad=some ⟨b,off,none⟩/\G.tail k=some (b,off+xs.length*i.size,off+c*i.size,elem))(hn:Flat G.bk w i.size ys news)(hl:(Builtin.lenOf yv).run E.C.P w=.ok ys.length w)(hf:∀w',(∀b o,w'.cell? ⟨b,o,none⟩=w.cell? ⟨b,o,none⟩)->(Builtin.firstCells i.size ys.length yv).run E.C.P w'=.ok news.toArray w')(hb:(xs.length+ys.length)*i.bytes<=2^47)(hb0:i.bytes≠0):∃v' w' G',(Builtin.append_ #[t,u] ty #[.slice ad xs.length c,yv]).run E.C.P w=.ok v' w'/\bt E G' (S.kill k) a w'/\aT G' w' v' (.fM k elem i.size (xs++ys)):=by
 by_cases h0:ys=[];subst h0;have hnews:news=[]:=bQ.1 (by rw[hn.len];simp);subst hnews;refine⟨_,w,G,mP ht hu hd hi hl (hf w λ_ _=>rfl) hle,hs.ae2 k rfl (λ_ _ _ h=>h) (λ_ _ _ h=>h) (λ_ _ h=>h) (λ_ _ h=>h) (λ_ _=>rfl) (λ_ _ h=>h),?_⟩;have :=aT.fM (G:=G) (w:=w) k elem i.size xs ad c hx (hroom.imp id λh=>by simp_all);simp_all;have hm:0<ys.length:=nR.2 h0;by_cases hc:xs.length+ys.length<=c;rcases hroom with hroom|hroom|⟨b,off,rfl,RZ⟩;omega;omega;obtain⟨t1,t2,tt,t3⟩:=hs.fQ _ _ _ _ _ RZ;have hq:off+xs.length*i.size+news.length<=off+c*i.size:=by have :=ew i.size hc;rw[bw]at this;rw[hn.len];omega
 have hrun:=nZ (P:=E.C.P) (w:=w) (ty:=ty) (b:=b) (off:=off) ht hu hd hi hl (hf w λ_ _=>rfl) hc (λj hj=>by obtain⟨⟨u,hu⟩,-,-⟩:=t3 (off+xs.length*i.size+j) oO oO;simp_all) (λj hj=>(t3 (off+xs.length*i.size+j) oO oO).2.1) hn.one;obtain⟨f1,f2,f3⟩:=hs.YE (news:=news) RZ hq;have hg:=f1.Aa (t:=k) (B:=b) (s:=off+xs.length*i.size+news.length) (e:=off+c*i.size) (T:=elem) (vu G k) (by rw[gW];omega) t2 (jv _ _ _ _ _ _ tt) (λo h=>by simp only[bf.free]at h;split at h;cases h;rename_i hne;exact hne (vW (hs.cz o k b _ h RZ).1.symm)) (λt' r h=>by simp only[bf.free]at h;split at h;grind;rename_i hne;exact hne (hs.er t' k b _ _ h RZ)) (λo h=>by simp only[bf.free]at h;split at h;cases h;exact(hs.iX.row o b h).2.2.2.2.1 k _ RZ) (λj hj hj'=>by obtain⟨⟨u,hu⟩,g2,g3⟩:=t3 j oO oO;refine⟨⟨u,?_⟩,by rw[World.frozen?_setCells];omega,?_⟩;rw[World.cell?_setCells_out b news _ w ⟨b,j,none⟩ (λ_ _=>by simp_all)];omega;simp_all);refine⟨_,_,_,hrun,hg,?_⟩;have hlen:(xs++ys).length=xs.length+ys.length:=ay;suffices h:aT _ (w.setCells b (off+xs.length*i.size) news) (.slice (some ⟨b,off,none⟩) (xs++ys).length c) (.fM k elem i.size (xs++ys))by rw[hlen]at h;exact h
 refine .fM k elem i.size (xs++ys) _ c ?_ (.inr ⟨b,off,rfl,λzs hz=>(aZ.1 hz).elim (JY zs) (yL zs),?_⟩);refine yK oO (λzs hz=>(aZ.1 hz).elim (JY zs) (yL zs)) λp zs j z hp hj=>?_;have hjl:j<i.size:=by have h1:=(aJ.1 hj).1;have h2:zs∈xs++ys:=bU hp;rw[(aZ.1 h2).elim (JY zs) (yL zs)]at h1;exact h1
 rw[wM]at hp;by_cases XV:p<xs.length;rw[ag XV]at hp;obtain⟨_,_,hv,-,hne⟩:=hx.mq;obtain⟨b2,off2,bM,cell,rfl,g1,g2⟩:=hne (λe=>by simp_all);injection hv with e1 e2 e3;have e1:=au e1;injection e1 with q1 q2;subst q1;subst q2;obtain rfl:bM=i.size:=(g1 p _ hp).symm.trans (JY _ (bU hp));obtain⟨k1,k2,k3,k4⟩:=g2 _ _ _ _ hp hj;rw[fH]at k2 k3;exact⟨_,k1,f3 _ _ _ k3 k2,.inl k3,k4.keep (λ_ _ h=>.inl h) f3 ((fV.setCells b _ _ _).pY _)⟩;rw[af XV]at hp;obtain⟨u,k1,k2,k3⟩:=hn.at_ _ _ _ _ hp hj;have XW:(p-xs.length)*i.size+j<news.length:=(aJ.1 k1).1;have YG:off+(p*i.size+j)=off+xs.length*i.size+((p-xs.length)*i.size+j):=by
  have :p=xs.length+(p-xs.length):=oO
  have h2:p*i.size=xs.length*i.size+(p-xs.length)*i.size:=by rw[<-bw,<-this]
  omega
 have hin:=World.cell?_setCells_in b news (off+xs.length*i.size) w (λq MF=>by obtain⟨⟨u,hu⟩,-,-⟩:=t3 (off+xs.length*i.size+q) oO oO;simp_all) _ XW;refine⟨u,k3,?_,.inr ⟨rfl,oO,oO⟩,k2.keep (λ_ _ h=>.inl h) f3 ((fV.setCells b _ _ _).pY _)⟩;simp_all;simp only[if_true];rw[hn.len,hlen,bw,fH];obtain⟨olds,KP,-,YH⟩:=wH (P:=E.C.P) hx JY;obtain⟨rest,z,hz,qF,hrun⟩:=iM (P:=E.C.P) (w:=w) (ty:=ty) (base:=ad) (news:=news) (olds:=olds) ht hu hd hi hl hf YH hc hb hb0;have hcap:xs.length+ys.length<=grownCap w (xs.length+ys.length) c elem:=grownCap_ge w _ _ _;generalize hcg:grownCap w (xs.length+ys.length) c elem=cap at*;generalize hW:w.drew.alloc (.cells (olds.toArray++news.toArray++rest) elem)=W at*;have Gn:Below w.drew.heap.size w.drew W:=by rw[<-hW];exact(Below.refl _ _).alloc (aA _) _
 have hWs:W.heap.size=w.heap.size+1:=by rw[<-hW];simp
 have hrl:rest.size=(cap-(xs.length+ys.length))*i.size:=by rw[qF,size_zeroCells,hz]
 have hcell:∀q,W.cell? ⟨w.heap.size,q,none⟩=(olds.toArray++news.toArray++rest)[q]?:=λq=>by rw[<-hW];exact World.cell?_alloc_new w.drew _ elem q
 have hfz:∀q,W.frozen? ⟨w.heap.size,q,none⟩=false:=λq=>by rw[<-hW];exact World.frozen?_alloc_new w.drew _ elem q
 have hold:∀b q,b<w.heap.size->W.cell? ⟨b,q,none⟩=w.cell? ⟨b,q,none⟩:=λb q hlt=>by rw[<-hW];exact World.cell?_alloc_lt w.drew _ ⟨b,q,none⟩ hlt
 have h1:=(hs.drew.OE (w':=W) Gn (λb q=>b=w.heap.size/\q<(xs.length+ys.length)*i.size)).kill k;have hg:=h1.Aa (t:=k) (B:=w.heap.size) (s:=(xs.length+ys.length)*i.size) (e:=cap*i.size) (T:=elem) (vu _ k) oO hs.kept.size (by rw[<-hW];exact⟨_,_,World.alloc_heap_new w.drew _,trivial⟩) (λo h=>by simp only[bf.free]at h;split at h;grind;have :=(hs.gG o _ h).1;omega) (λt' r h=>by simp only[bf.free]at h;split at h;grind;have :=(hs.fQ t' _ r.1 r.2.1 r.2.2 h).1;omega) (λo h=>by simp only[bf.free]at h;split at h;grind;have :=(hs.iX.row o _ h).2.1;omega) (λq hq MF=>by
  refine⟨?_,hfz q,?_⟩;rw[hcell q];have :q<(olds.toArray++news.toArray++rest).size:=by simp only[Array.size_append,List.size_toArray,KP.len,hn.len,hrl,<-bw];rw[show xs.length+ys.length+(cap-(xs.length+ys.length))=cap from oO];exact MF
  simp_all;rintro(h|⟨-,-,-,h⟩);have :=hs.fh _ _ h;omega;omega);refine⟨_,W,_,hrun,hg,?_⟩;have hlen:(xs++ys).length=xs.length+ys.length:=ay;suffices h:aT _ W (.slice (some ⟨w.heap.size,0,none⟩) (xs++ys).length cap) (.fM k elem i.size (xs++ys))by rw[hlen]at h;exact h
 have hkeep:∀{u:Value}{z:AV},dA G.bk w u z->dA (λb o=>G.bk b o\/(w.drew.heap.size<=b/\b<W.heap.size/\b=w.heap.size/\o<(xs.length+ys.length)*i.size)) W u z:=λh=>h.keep (λ_ _ h=>.inl h) (λb o c hi hc=>by rw[hold b o (hs.fh b o hi)];omega) (λb es n hi hb=>(Gn.block b (hs.fh b 0 hi)).trans hb);refine .fM k elem i.size (xs++ys) _ cap ?_ (.inr ⟨w.heap.size,0,rfl,λzs hz=>(aZ.1 hz).elim (JY zs) (yL zs),?_⟩);refine yK oO (λzs hz=>(aZ.1 hz).elim (JY zs) (yL zs)) λp zs j z hp hj=>?_;have hjl:j<i.size:=by have h1:=(aJ.1 hj).1;have h2:zs∈xs++ys:=bU hp;rw[(aZ.1 h2).elim (JY zs) (yL zs)]at h1;exact h1
 have XV:p<xs.length+ys.length:=by rw[<-hlen];exact(aJ.1 hp).1
 have afP:p*i.size+j<(xs.length+ys.length)*i.size:=by have :(p+1)*i.size<=(xs.length+ys.length)*i.size:=ew _ XV;rw[bw]at this;omega
 rw[de];have Bi:(λb o=>G.bk b o\/(w.drew.heap.size<=b/\b<W.heap.size/\b=w.heap.size/\o<(xs.length+ys.length)*i.size)) w.heap.size (p*i.size+j):=.inr ⟨aA _,oO,rfl,afP⟩;rw[wM]at hp;by_cases YI:p<xs.length;rw[ag YI]at hp;obtain⟨u,k1,k2,k3⟩:=KP.at_ _ _ _ _ hp hj;have XW:=(aJ.1 k1).1;refine⟨u,k3,?_,Bi,hkeep k2⟩;grind;rw[af YI]at hp;obtain⟨u,k1,k2,k3⟩:=hn.at_ _ _ _ _ hp hj;have XW:=(aJ.1 k1).1;have YG:p*i.size+j=olds.length+((p-xs.length)*i.size+j):=by
  have :p=xs.length+(p-xs.length):=oO
  have h2:p*i.size=xs.length*i.size+(p-xs.length)*i.size:=by rw[<-bw,<-this]
  rw[KP.len];omega
 refine⟨u,k3,?_,Bi,hkeep k2⟩;rw[hcell,sI (by simp_all),MG (by simp_all),YG];simp[k1];simp_all
theorem bt.afQ (h1:bt E G S a w){d b:Nat}(hdn:iw d=false){cells:List FV}(hl:G.loc d=none)(hb0:lT S.cT d=none)(hno:∀o,G.loc o≠some b)(RZ:∀t r,G.tail t≠some (b,r))(hrow:∀o,G.row o≠some b)(hmap:∀es k,w.heap[b]?≠some (.map es k))(hlt:b<w.heap.size)(hw0:E.w0.heap.size<=b)(him:∀i,¬G.bk b i/\w.frozen? ⟨b,i,none⟩=false)(hc:∀(i:Nat)(x:FV),cells[i]?=some x->∃c,w.cell? ⟨b,i,none⟩=some c/\aT G w c x):bt E {G with loc:=λo=>if o=d then some b else G.loc o} {S with aI:=(d,cells)::S.aI} a w:=by have up:∀v x,aT G w v x->aT {G with loc:=λo=>if o=d then some b else G.loc o} w v x:=λv x h=>h.keep (λ_ _ h=>h) (λ_ _ _ _ h=>h) (.refl _ _) (λo b' h=>by grind) (λ_ _ h=>h);refine⟨h1.kept,h1.size,h1.ext'.keep rfl rfl rfl up (.refl _) (HB:=.more rfl rfl rfl rfl (λ_ _ h=>.inl h) (λ_ h=>h) λo b' h=>?_),?_,h1.nN,h1.fh,λi hi=>up _ _ (h1.tmps i hi),λo cs ho=>?_,λo b' ho=>?_,λo o' b' h h'=>?_,λo t b' r h h'=>?_,h1.fQ,h1.er⟩;grind;refine h1.iX.keep rfl rfl (λo bs q=>⟨q,?_,rfl⟩) (λo bs q0 q=>?_) (λ_ _ e=>e) (aA _) (λ_ _ _ _ _ _=>rfl) (λ_ _ _=>rfl) (λ_ _ _ _ e=>e) (λo r o' e q=>?_) (λ_ _ t q _ e=>⟨t,q,e⟩);grind;simp only[Qv.getObj];split;simp_all;omega;grind;simp only[Qv.getObj]at ho;split at ho;rename_i OX;obtain rfl:=aM OX;grind;rename_i OX;have hne:o≠d:=eu (bD OX);obtain⟨b',h2,h3⟩:=h1.aI o cs ho;grind;simp only at ho;split at ho;rename_i e;obtain rfl:=au ho;exact⟨hlt,.inl ⟨hw0,by simp_all⟩,him⟩;exact h1.gG o b' ho;simp only at h h';split at h<;>split at h';omega;simp_all;simp_all;exact h1.eY o o' b' h h';simp only at h h';split at h;simp_all;rename_i hne;refine lG.mono (h1.cz o t b' r h h') (λbs q=>⟨bs,q⟩) λcs q=>?_;simp only[Qv.getObj]at q;split at q;simp_all;simp_all
theorem iR:∀l:List AV,(aG l).length=l.length|[]=>rfl|_::l=>by simp[aG,iR l]
theorem vw:∀(l:List AV)(i:Nat),(aG l)[i]?=(l[i]?).map FV.p
 |[],i=>by rfl
 |x::l,0=>rfl
 |x::l,i+1=>by simpa[aG]using vw l i
theorem fR {α:Type}{e:Nat}:∀{l:List (List α)},(∀zs,zs∈l->zs.length=e)->l.flatten.length=l.length*e
 |[],_=>by simp
 |x::l,h=>by rw[nP,ay,h x (by simp),fR (λzs hz=>h zs (by grind)),aR,bw];omega
theorem kS (d:Nat)(l:List (Nat×List UInt8)):lT (Ch d l) d=none:=by
 cases h:lT (Ch d l) d with
 |none=>rfl
 |some bs=>exact absurd rfl (kr h).1
end
section
variable {E:Env}{G:bf}{S:aj}{a:Act}{w:World}{o:Oper}
theorem acI {α:Type}{xs:List α}{n:Nat}{y:α}(h:n<xs.length):JP xs n y=some (xs.set n y):=by
 induction xs generalizing n with
 |nil=>grind
 |cons x xs ih=>
  cases n with
  |zero=>rfl
  |succ n=>simp only[JP,ih (by simpa using h),List.set_cons_succ]
theorem CQ {α:Type}{A B:List α}{base:Nat}(hA:A.length=base):∀{cs ys zs:List α}{off:Nat},gI ys off cs=some zs->gI (A++(ys++B)) (base+off) cs=some (A++(zs++B))
 |[],ys,zs,off,h=>by simp only[gI,bN]at h⊢;rw[h]
 |c::cs,ys,zs,off,h=>by simp only[gI]at h⊢;split at h;rename_i us Yz;obtain⟨h1,rfl⟩:=KN Yz;rw[acI (by grind)];simp only;rw[List.set_append_right _ _ oO,hA,show base+off-base=off by omega,List.set_append_left _ _ h1];exact CQ hA h;simp_all
theorem HO (hs:bt E G S a w){t e:TypeId}{len:Nat}{parts:Array (Nat×Operand)}{j:jF}{cs:List FV}{sa sb:Nat}{sz:List Value}(ho:o.op=.buildSlice t len parts)(ht:bO E.C.iZ t=some ⟨sa,sb,.slice e,sz⟩)(hj:bO E.C.iZ e=some j)(hle':len*j.size<=1000000)(hcs:fP j.size S parts.toList (kZ len (j.zero.map FV.gv))=some cs):∃us:Array Value,(execOp a.eval o).run E.C.P w=.ok (.value (.slice (some ⟨w.heap.size,0,none⟩) len len)) (w.alloc (.cells us e))/\yG G w us.toList cs/\us.size=len*j.size:=by
 have hu:=(E.C.ok ht).slice;have hok:=E.C.ok hj;obtain⟨z,hzr,Cf⟩:=hok.zeroV w;have ajQ:z.cells.size=j.size:=by rw[<-jg,Cf,hok.len]
 have hbase:∀zz:Array Value,(len*j.size=0\/zz=z.cells)->((Array.range (len*j.size)).map (zz[·%zz.size]!)).toList=kZ len j.zero:=λzz hzz=>by obtain⟨r1,r2⟩:=lF j.zero len;rw[hok.len]at r1 r2;apply fZ;grind
 have hrl:∀zz:Array Value,(len*j.size=0\/zz=z.cells)->yG G w ((Array.range (len*j.size)).map (zz[·%zz.size]!)).toList (kZ len (j.zero.map FV.gv)):=λzz hzz=>by rw[hbase zz hzz,HM];exact pL _
 obtain⟨us,Yz,oC⟩:∃us,(∀zz:Array Value,(len*j.size=0\/zz=z.cells)->Instr.fill (λi=>some (i*j.size,j.size)) ((Array.range (len*j.size)).map (zz[·%zz.size]!)) (parts.toList.map λ(i,x)=>(i,a.eval x))=some us)/\yG G w us.toList cs:=by obtain⟨us,h3,h4⟩:=si hs parts.toList _ _ _ (hrl z.cells (.inr rfl)) hcs;grind
 have YA:¬len*j.size>2^24:=oO
 have hrun:(execOp a.eval o).run E.C.P w=.ok (.value (.slice (some ⟨w.heap.size,0,none⟩) len len)) (w.alloc (.cells us e)):=by
  by_cases h0:len*j.size=0;have h5:=Yz #[] (.inl h0);have h5':Instr.fill (λi=>some (i*j.size,j.size)) #[] (List.map (λx=>(x.1,a.eval x.2)) parts.toList)=some us:=by
   have h6:(Array.range (len*j.size)).map ((#[]:Array Value)[·%(#[]:Array Value).size]!)=#[]:=by rw[h0];simp
   rw[h6]at h5;exact h5
  have hm0:∀f:Nat->Value,(Array.range 0).map f=#[]:=λf=>by simp
  simp only[execOp,ho,Instr.buildSlice,Sem.run_bind,run_underlying hu,Result.andThen_ok,hok.sizeOf,YA,if_false,h0,if_true,Sem.run_pure,nU];simp only[show¬(0>2^24)from oO,if_false,Sem.run_pure,Result.andThen_ok,hm0,h5'];rfl;have h5:=Yz z.cells (.inr rfl);simp only[execOp,ho,Instr.buildSlice,Sem.run_bind,run_underlying hu,Result.andThen_ok,hok.sizeOf,YA,if_false,h0,Sem.run_pure,hzr,nU];simp only[h5];rfl
 have hlen:us.size=len*j.size:=by
  have h6:us.size=cs.length:=by rw[<-oC.1];simp
  have h7:∀(parts:List (Nat×Operand))(xs zs:List FV),fP j.size S parts xs=some zs->zs.length=xs.length:=by
   intro parts;induction parts with
   |nil=>intro xs zs h;simp only[fP,bN]at h;rw[h]
   |cons p parts ih=>obtain⟨i,x⟩:=p;intro xs zs h;simp only[fP]at h;split at h;split at h;grind;rename_i us Yz;rw[ih _ _ h,(rG Yz).1];simp_all
  rw[h6,h7 _ _ _ hcs,(lF _ _).1];simp[hok.len]
 grind
theorem wN (w:World)(us:Array Value)(e:TypeId){t:Nm}:∃cs fr,(w.alloc (.cells us e)).heap[w.heap.size]?=some (.cells cs e fr)/\acD t fr:=⟨_,_,World.alloc_heap_new w _,by cases t<;>trivial⟩
theorem wp_openSlice (hs:bt E G S a w){t e:TypeId}{len:Nat}{parts:Array (Nat×Operand)}{d0:Nat}{K:aj->Prop}{sa sb:Nat}{sz:List Value}(ho:o.op=.buildSlice t len parts)(VO:o.dst=some d0)(ht:bO E.C.iZ t=some ⟨sa,sb,.slice e,sz⟩)(h:yo E.C S e d0 len parts.toList K){next:Act->World->Prop}{Q:Exit->Act->World->Prop}(hn:∀S' a' w',K S'->nO E S' a' w'->next a' w'):Bl E o a w next Q:=by
 unfold yo Fm at h;split at h;simp_all;rename_i j hj;split at h;rename_i hle h0;have hpos:0<j.size:=wL (bD h0);split at h;rename_i cs hcs;split at h;simp_all;rw[jX,jH]at h;obtain⟨hdn,h⟩:=h;obtain⟨us,hrun,oC,hsz⟩:=HO hs ho ht hj (gZ hle) hcs;generalize hd:S.off+d0=d at h hdn;obtain⟨G2,g1,g2,g3,g4,g5,g6,g7,g8⟩:=uD hs d hdn us.toList cs e λi x hx=>by
  have hl:i<us.toList.length:=by rw[oC.1];exact(aJ.1 hx).1
  exact⟨_,av hl,oC.2 i _ x (av hl) hx⟩
 rw[CR]at g1;have lU:cs.length=len*j.size:=by rw[<-oC.1,jg,hsz]
 have hg:=g1.yJ (t:=d) (B:=w.heap.size) (s:=len*j.size) (e:=len*j.size) (T:=e) g4 (by simp) hs.kept.size (wN w us e) (λo q=>by have :o=d:=ia λhne=>g6 o hne q;subst this;refine⟨rfl,?_,λcells hc=>?_⟩;exact kS _ _;simp only[Qv.getObj,ji]at hc;obtain rfl:=au hc;rw[FV.fB,ah,lU]) (λt' r q=>g5 t' r q) (λo q=>g7 o q) (λi h1 h2=>oO);refine wp_value hrun ?_;rw[VO];exact hn _ _ _ h ⟨_,hg.put (some d0) (x:=.gd d e j.size) (.gd d e j.size len len w.heap.size g2 (by simp) (aA _) hpos)⟩;simp_all;simp_all
theorem Bm {P:Program}(hs:bt E G S a w){k n c b:Nat}{bM:Nat}{T:TypeId}{xs:List FV}(hk:Qv.getObj S.aI k=some xs)(hl:G.loc k=some b)(ht:G.tail k=some (b,n*bM,c*bM,T)):∃news:List Value,news.length=n*bM/\(∀(i:Nat)(x:FV),xs[i]?=some x->∃u,news[i]?=some u/\aT G w u x)/\∀w',(∀b o,w'.cell? ⟨b,o,none⟩=w.cell? ⟨b,o,none⟩)->(Builtin.firstCells bM n (.slice (some ⟨b,0,none⟩) n c)).run P w'=.ok news.toArray w':=by
 have hlen:=(hs.cz k k b _ hl ht).2.2 xs hk;simp only at hlen;obtain⟨b',h1,h2⟩:=hs.aI k xs hk;obtain rfl:b'=b:=by simp_all
 let f:Nat->Value:=λq=>(w.cell? ⟨b',q,none⟩).getD undef;have hf:∀q,q<n*bM->w.cell? ⟨b',q,none⟩=some (f q):=λq hq=>by
  have hql:q<xs.length:=oO
  obtain⟨u,h3,-⟩:=h2 q _ (av hql);grind
 refine⟨(List.range (n*bM)).map f,by simp,λi x hx=>?_,λw' hw=>?_⟩;grind;have :=run_loadCells (P:=P) w' ⟨b',0,none⟩ (n*bM) f (λq MF=>by rw[Addr.add_lit,hw,de];simp_all);simpa[Builtin.firstCells]using this
theorem bt.Pc (hs:bt E G S a w){k b s0 e0:Nat}{T:TypeId}{xs ys:List FV}{news:List Value}(hk:Qv.getObj S.aI k=some xs)(hl:G.loc k=some b)(ht:G.tail k=some (b,s0,e0,T))(hn:s0+news.length<=e0)(hr:∀(i:Nat)(x:FV),ys[i]?=some x->∃u,news[i]?=some u/\aT G w u x)(hlen:ys.length=news.length):bt E {G with tail:=λt=>if t=k then some (b,s0+news.length,e0,T)else G.tail t} {S.kill k with aI:=(k,FV.eD k (xs++ys))::eA k S.aI} a (w.setCells b s0 news):=by
 obtain⟨t1,t2,tt,t3⟩:=hs.fQ k b s0 e0 T ht;obtain⟨-,l2,l3⟩:=hs.gG k b hl;obtain⟨-,hnb,YK⟩:=hs.cz k k b _ hl ht;have hxl:xs.length=s0:=YK xs hk;clear YK;obtain⟨b',hb',hcell⟩:=hs.aI k xs hk;obtain rfl:b'=b:=by simp_all
 have hout:∀b2 i,b2≠b'->(w.setCells b' s0 news).cell? ⟨b2,i,none⟩=w.cell? ⟨b2,i,none⟩:=λb2 i hne=>World.cell?_setCells_out b' _ s0 w ⟨b2,i,none⟩ (λe=>absurd e hne);have hfz:∀x,(w.setCells b' s0 news).frozen? x=w.frozen? x:=λx=>World.frozen?_setCells b' _ s0 w x;have hsz:=gW b' news s0 w;let G':bf:={G with tail:=λt=>if t=k then some (b',s0+news.length,e0,T)else G.tail t};have up:∀v x,aT G w v x->aT G' (w.setCells b' s0 news) v (x.kill k):=λv x hv=>by have h1:aT {G with tail:=λt=>if t=k then none else G.tail t} w v (x.kill k):=hv.kill k rfl (λ_ _ _ h=>h) (λt r hne h=>by simp_all);refine h1.keep (λ_ _ h=>h) (λb2 i c hi hc=>?_) ((fV.setCells b' _ _ _).pY _) (λ_ _ h=>h) (λt r h=>?_);grind;grind
 refine⟨hs.kept.setCells (E.Cp l2) _ _,hs.size,hs.ext'.move (S':={S.kill k with aI:=(k,FV.eD k (xs++ys))::eA k S.aI}) (FV.kill k) rfl rfl rfl up (.setCells b' _ _ _) (.ae0 k rfl rfl (.kill k rfl (λ_ _ _ h=>h) (λ_ _ h=>h) (λ_ _ _ h=>h) (λ_ _ h=>h) λ_ _ h=>h)),?_,hs.nN,λb o h=>by rw[hsz];exact hs.fh b o h,λi hi=>up _ _ (hs.tmps i hi),λo cs ho=>?_,λo b ho=>?_,hs.eY,λo t b r h h'=>?_,λt b s e T' h=>?_,λt t' b r r' h h'=>?_⟩;refine hs.iX.keep rfl rfl (λo bs q=>⟨(kr q).2,rfl,rfl⟩) (λo bs q0 q=>?_) (λ_ _ e=>e) oO (λo bs b q q2 e=>fT _ _ _ _ _ (λe2=>?_)) (λo r e=>fT _ _ _ _ _ (λe2=>(hs.iX.row o r e).2.2.2.1 k (e2▸hl))) (λ_ _ _ _ e=>e) (λ_ _ _ _ e=>e) (λo r t q _ e=>?_);simp only[Qv.getObj];split;simp_all;exact oV q;have :=hs.eY o k b e (e2▸hl);simp_all;grind;simp only[Qv.getObj]at ho;split at ho;rename_i OX;obtain rfl:=aM OX;obtain rfl:=au ho;refine⟨b',hl,λi x hx=>?_⟩;rw[FV.fB,aN]at hx;cases hy:(xs++ys)[i]?with
 |none=>simp_all
 |some y=>rw[hy]at hx;obtain rfl:=au hx;by_cases hi:i<xs.length;rw[cG hi]at hy;obtain⟨c,h2,h3⟩:=hcell i y hy;refine⟨c,?_,up _ _ h3⟩;rw[World.cell?_setCells_out b' _ s0 w ⟨b',i,none⟩ (λ_ _=>by simp_all)];omega;rw[dH oO]at hy;obtain⟨u,h2,h3⟩:=hr _ y hy;have XW:i-xs.length<news.length:=(aJ.1 h2).1;have hin:=World.cell?_setCells_in b' news s0 w (λq MF=>by grind) _ XW;grind
 rename_i OX;obtain⟨hne,cs0,h2,rfl⟩:=kR ho;obtain⟨b2,h3,h4⟩:=hs.aI o cs0 h2;have Cg:b2≠b':=λe=>hne (hs.eY o k b2 h3 (e▸hl));refine⟨b2,h3,λi x hx=>?_⟩;rw[FV.fB,aN]at hx;grind;obtain⟨k1,k2,k3⟩:=hs.gG o b ho;simp_all;simp only at h h';split at h';rename_i htk;have :=au h';injection this with q1 q2;subst q1;subst q2;subst htk;obtain rfl:=hs.eY o k b' h hl;refine⟨rfl,kS _ _,λcells hc=>?_⟩;simp only[Qv.getObj,ji]at hc;obtain rfl:=au hc;rw[FV.fB,ah,ay,hxl,hlen];rename_i hne;have h1:=hs.cz o t b r h h';have hto:=h1.1;refine lG.mono h1 (λbs q=>⟨bs,(kr q).2⟩) λcells q=>?_;simp only[Qv.getObj]at q;split at q;simp_all;obtain⟨-,cs0,h2,rfl⟩:=kR q;exact⟨cs0,h2,by rw[FV.fB,ah]⟩;simp only at h;split at h;rename_i et;have :=au h;injection this with q1 q2;injection q2 with q2 q3;injection q3 with q3 q4;subst q1;subst q2;subst q3;subst q4;subst et;refine⟨oO,t2,jv _ _ _ _ _ _ tt,λi hi hi'=>?_⟩;obtain⟨⟨c,k4⟩,k5,k6⟩:=t3 i oO hi';refine⟨⟨c,?_⟩,by simp_all,k6⟩;rw[World.cell?_setCells_out b' _ s0 w ⟨b',i,none⟩ (λ_ _=>by simp_all)];omega;rename_i hne;obtain⟨k1,k2,kt,k3⟩:=hs.fQ t b s e T' h;have Cg:b≠b':=λe'=>hne (hs.er t k b' _ _ (e'▸h) ht);refine⟨oO,k2,jv _ _ _ _ _ _ kt,λi hi hi'=>?_⟩;simp_all;simp only at h h';split at h<;>split at h';simp_all;obtain⟨rfl,-⟩:=fJ (au h);exact(hs.er _ _ _ _ _ ht h').symm▸oO;obtain⟨rfl,-⟩:=fJ (au h');exact(hs.er _ _ _ _ _ h ht).trans (by grind);exact hs.er t t' b r r' h h'
theorem Ab (hs:bt E G S a w)(d:Nat)(hdn:iw d=false){zs:List FV}{cells:List Value}{s cap:Nat}{e:TypeId}(hlen:zs.length=s)(lU:cells.length=cap)(hr:∀(i:Nat)(x:FV),zs[i]?=some x->∃c,cells[i]?=some c/\aT G w c x):∃G',bt E G' {S.kill d with aI:=(d,FV.eD d zs)::eA d S.aI} a (w.alloc (.cells cells.toArray e))/\G'.loc d=some w.heap.size/\G'.tail d=some (w.heap.size,s,cap,e):=by obtain⟨G2,g1,g2,g3,g4,g5,g6,g7,g8⟩:=uD hs d hdn cells zs e hr;have hg:=g1.yJ (t:=d) (B:=w.heap.size) (s:=s) (e:=cap) (T:=e) g4 (by simp) hs.kept.size (wN w _ e) (λo q=>by have :o=d:=ia λhne=>g6 o hne q;subst this;refine⟨rfl,kS _ _,λcells hc=>?_⟩;simp only[Qv.getObj,ji]at hc;obtain rfl:=au hc;rw[FV.fB,ah,hlen]) (λt' r q=>g5 t' r q) (λo q=>g7 o q) (λi h1 h2=>by simp_all);grind
theorem bt.Uo (hs:bt E G S a w){k b n N bM e0:Nat}{T:TypeId}{xs:List FV}(hk:Qv.getObj S.aI k=some xs)(hl:G.loc k=some b)(ht:G.tail k=some (b,N*bM,e0,T))(hn:n<=N*bM)(hle:N*bM<=e0):bt E {G with tail:=λt=>if t=k then some (b,n,e0,T)else G.tail t} {S.kill k with aI:=(k,FV.eD k (xs.take n))::eA k S.aI} a w:=by
 obtain⟨t1,t2,tt,t3⟩:=hs.fQ k b _ e0 T ht;obtain⟨-,l2,l3⟩:=hs.gG k b hl;obtain⟨-,hnb,YK⟩:=hs.cz k k b _ hl ht;have hxl:xs.length=N*bM:=YK xs hk;clear YK;obtain⟨b',hb',hcell⟩:=hs.aI k xs hk;obtain rfl:b'=b:=by simp_all
 let G':bf:={G with tail:=λt=>if t=k then some (b',n,e0,T)else G.tail t};have up:∀v x,aT G w v x->aT G' w v (x.kill k):=λv x hv=>by have h1:aT {G with tail:=λt=>if t=k then none else G.tail t} w v (x.kill k):=hv.kill k rfl (λ_ _ _ h=>h) (λt r hne h=>by simp_all);refine h1.keep (λ_ _ h=>h) (λb2 i c hi hc=>hc) (vV.refl _ _) (λ_ _ h=>h) (λt r h=>?_);grind
 refine⟨hs.kept,hs.size,hs.ext'.move (S':={S.kill k with aI:=(k,FV.eD k (xs.take n))::eA k S.aI}) (FV.kill k) rfl rfl rfl up (fV.refl w) (.ae0 k rfl rfl (.kill k rfl (λ_ _ _ h=>h) (λ_ _ h=>h) (λ_ _ _ h=>h) (λ_ _ h=>h) λ_ _ h=>h)),?_,hs.nN,hs.fh,λi hi=>up _ _ (hs.tmps i hi),λo cs ho=>?_,hs.gG,hs.eY,λo t b r h h'=>?_,λt b s e T' h=>?_,λt t' b r r' h h'=>?_⟩;refine hs.iX.keep rfl rfl (λo bs q=>⟨(kr q).2,rfl,rfl⟩) (λo bs q0 q=>?_) (λ_ _ e=>e) (aA _) (λo bs b q q2 e=>rfl) (λo r e=>rfl) (λ_ _ _ _ e=>e) (λ_ _ _ _ e=>e) (λo r t q _ e=>?_);simp only[Qv.getObj];split;simp_all;exact oV q;grind;simp only[Qv.getObj]at ho;split at ho;rename_i OX;obtain rfl:=aM OX;obtain rfl:=au ho;refine⟨b',hl,λi x hx=>?_⟩;rw[FV.fB,aN]at hx;grind;rename_i OX;obtain⟨hne,cs0,h2,rfl⟩:=kR ho;obtain⟨b2,h3,h4⟩:=hs.aI o cs0 h2;refine⟨b2,h3,λi x hx=>?_⟩;rw[FV.fB,aN]at hx;grind;simp only at h h';split at h';rename_i htk;have :=au h';injection this with q1 q2;subst q1;subst q2;subst htk;obtain rfl:=hs.eY o k b' h hl;refine⟨rfl,kS _ _,λcells hc=>?_⟩;simp only[Qv.getObj,ji]at hc;obtain rfl:=au hc;rw[FV.fB,ah,aL,hxl];omega;rename_i hne;have h1:=hs.cz o t b r h h';have hto:=h1.1;refine lG.mono h1 (λbs q=>⟨bs,(kr q).2⟩) λcells q=>?_;simp only[Qv.getObj]at q;split at q;simp_all;obtain⟨-,cs0,h2,rfl⟩:=kR q;exact⟨cs0,h2,by rw[FV.fB,ah]⟩;simp only at h;split at h;rename_i et;have :=au h;injection this with q1 q2;injection q2 with q2 q3;injection q3 with q3 q4;subst q1;subst q2;subst q3;subst q4;subst et;refine⟨t1,t2,tt,λi hi hi'=>?_⟩;by_cases hin:i<N*bM;obtain⟨c,h2,-⟩:=hcell i _ (av oO);simp_all;simp_all;exact hs.fQ t b s e T' h;simp only at h h';split at h<;>split at h';simp_all;obtain⟨rfl,-⟩:=fJ (au h);exact(hs.er _ _ _ _ _ ht h').symm▸oO;obtain⟨rfl,-⟩:=fJ (au h');exact(hs.er _ _ _ _ _ h ht).trans (by grind);exact hs.er t t' b r r' h h'
theorem wp_evCutO (hs:bt E G S a w){K:aj->Prop}{x hi:Operand}{t:TypeId}(ho:o.op=.slice t x none (some hi) none){k:Nat}{T:TypeId}{bM:Nat}(hx:S.val x=.gd k T bM)(h:RM E.C t o.dst S k T bM (S.val hi) K){next:Act->World->Prop}{Q:Exit->Act->World->Prop}(hn:∀S' a' w',K S'->nO E S' a' w'->next a' w'):Bl E o a w next Q:=by
 have GG:=aT.val hs x;have hhv:=aT.val hs hi;rw[hx]at GG;generalize S.val hi=vh at h hhv;unfold RM at h;split at h;rename_i d _ _ e _ kk n hd ht;have JZ:=(E.C.ok ht).slice;split at h;simp_all;rename_i j hj;have hjs:=(E.C.ok hj).sizeOf w;split at h;rename_i xs hb hxs;obtain rfl:=aM hb;obtain⟨hkn,hxs⟩:=iW hxs;obtain⟨m,N,rfl,hN,hm,zs,rfl,hK⟩:=h;generalize KQ:a.eval x=vv at GG;cases GG with
 |gd _ _ _ n' c b p1 p2 p3 p4=>
  have hxl:=(hs.cz _ _ _ _ p1 p2).2.2 xs hxs;simp only at hxl;obtain rfl:N=n':=ga p4 (hN.symm.trans hxl);have hh:a.eval hi=.int kk m:=hhv.fo;have hbd:=mK (P:=E.C.P) (w:=w) true N c none (some (.int kk m)) 0 m (zL) oO (.inl ⟨rfl,rfl⟩) (.inr ⟨kk,rfl⟩);have hrun:(execOp a.eval o).run E.C.P w=.ok (.value (.slice (some ⟨b,0,none⟩) m c)) w:=by simp[execOp,ho,KQ,hh,Instr.sliceAt,run_underlying JZ,Instr.slice,hbd,hjs,Addr.add_lit]
  have acK:=hs.Uo hxs p1 p2 (n:=m*j.size) (ew _ hm) (ew _ p3);refine wp_value hrun (hn _ _ _ hK ⟨{G with tail:=λt=>if t=k then some (b,m*j.size,c*j.size,T)else G.tail t},?_⟩);rw[hd];exact acK.put (some d) (v:=.slice (some ⟨b,0,none⟩) m c) (x:=.gd k T j.size) (.gd k T j.size m c b p1 (by simp_all) oO p4)
 simp_all;simp_all
theorem wp_evTailO (hs:bt E G S a w){K:aj->Prop}{x lo:Operand}{t:TypeId}(ho:o.op=.slice t x (some lo) none none){k:Nat}{T:TypeId}{bM:Nat}(hx:S.val x=.gd k T bM)(h:Mt E.C t o.dst S k T bM (S.val lo) K){next:Act->World->Prop}{Q:Exit->Act->World->Prop}(hn:∀S' a' w',K S'->nO E S' a' w'->next a' w'):Bl E o a w next Q:=by
 have GG:=aT.val hs x;have hhv:=aT.val hs lo;rw[hx]at GG;generalize S.val lo=vh at h hhv;unfold Mt at h;split at h;rename_i d _ _ e _ kk n hd ht;have JZ:=(E.C.ok ht).slice;split at h;simp_all;rename_i j hj;have hjs:=(E.C.ok hj).sizeOf w;split at h;rename_i xs hb hxs;obtain rfl:=aM hb;obtain⟨hkn,hxs⟩:=iW hxs;obtain⟨m,N,rfl,hN,hm,hK⟩:=h;generalize KQ:a.eval x=vv at GG;cases GG with
 |gd _ _ _ n' c b p1 p2 p3 p4=>
  have hxl:=(hs.cz _ _ _ _ p1 p2).2.2 xs hxs;simp only at hxl;obtain rfl:N=n':=ga p4 (hN.symm.trans hxl);have hh:a.eval lo=.int kk m:=hhv.fo;have hbd:=mK (P:=E.C.P) (w:=w) true N c (some (.int kk m)) none m N hm p3 (.inr ⟨kk,rfl⟩) (.inl ⟨rfl,rfl⟩);have hrun:(execOp a.eval o).run E.C.P w=.ok (.value (.slice (some ⟨b,if c=m then 0 else m*j.size,none⟩) (N-m) (c-m))) w:=by
   by_cases hcm:c=m;subst hcm;simp[execOp,ho,KQ,hh,Instr.sliceAt,run_underlying JZ,Instr.slice,hbd,hjs,Addr.add_lit];have h0:¬c-m=0:=oO
   simp[execOp,ho,KQ,hh,Instr.sliceAt,run_underlying JZ,Instr.slice,hbd,hjs,Addr.add_lit,hcm,h0]
  refine wp_value hrun (hn _ _ _ hK ⟨G,?_⟩);rw[hd];exact hs.put (some d) (x:=.uk k m T j.size) (.uk k m T j.size N c b _ p1 p2 ⟨hm,λh=>af oO⟩ p3 p4)
 simp_all;simp_all
theorem MH {α:Type}:∀{ys xs:List α}{n:Nat},xs.length=n+ys.length->gI xs n ys=some (xs.take n++ys)
 |[],xs,n,h=>by simp only[gI,aW];rw[cU (by simp_all)]
 |y::ys,xs,n,h=>by
  have hA:(xs.take n).length=n:=by rw[aL];omega
  have e:xs=xs.take n++(xs.drop n++[]):=by rw[aW,dI]
  have hd:(xs.drop n).length=(y::ys).length:=by rw[cQ];omega
  have key:∀{cs ds:List α}{pre:List α},ds.length=cs.length->gI (pre++ds) pre.length cs=some (pre++cs):=by
   intro cs;induction cs with
   |nil=>intro ds pre hl;rw[bQ.1 hl];rfl
   |cons c cs ih=>
    intro ds pre hl;match ds,hl with
     |d::ds,hl=>
      have hl:ds.length=cs.length:=by simpa using hl
      have h1:JP (pre++d::ds) pre.length c=some (pre++c::ds):=by
       clear ih hl;induction pre with
       |nil=>rfl
       |cons p pre ih=>simp only[dm,aR,JP,ih]
      have h2:=ih (ds:=ds) (pre:=pre++[c]) hl;simp only[ay,ic,bu,qb]at h2;simp only[gI,h1,h2]
  grind
theorem HP {P:Program}(w:World)(t e ty:TypeId)(z:Value)(ht:P.underlying t=some (.slice e))(hv:(zeroValue e).run P w=.ok z w)(b o n c:Nat)(hst:(storeCells ⟨b,o,none⟩ (kZ n z.cells.toList) 0).run P w=.ok () (w.setCells b o (kZ n z.cells.toList))):(Builtin.clear_ #[t] ty #[.slice (some ⟨b,o,none⟩) n c]).run P w=.ok (.tuple #[]) (w.setCells b o (kZ n z.cells.toList)):=by
 have Cf:(Builtin.zeroCells z.cells n).toList=kZ n z.cells.toList:=by
  obtain⟨g1,g2⟩:=lF z.cells.toList n;apply fZ;intro i;by_cases hi:i<n*z.cells.toList.length;rw[g2 i hi];have hi':i<n*z.cells.size:=by simpa using hi
  have hpos:0<z.cells.size:=by rcases Nat.eq_zero_or_pos z.cells.size with h0|h0;simp_all;omega
  have hm:i%z.cells.size<z.cells.size:=jh _ hpos;simp[Builtin.zeroCells,hi',hm];rw[oa (l:=kZ n z.cells.toList) oO,oa];have hi2:¬i<n*z.cells.size:=by simpa using hi
  simp only[Builtin.zeroCells,nU,ah,Array.toList_range,mw];omega
 cases n with
 |zero=>simp[Builtin.clear_,run_underlying ht];rfl
 |succ n=>simp[Builtin.clear_,run_underlying ht,hv,Cf,hst]
theorem wp_evAppO (hs:bt E G S a w){d:Nat}{K:aj->Prop}{x y:Operand}{t u:TypeId}(ho:o.op=.call ⟨.builtin .append,#[x,y],#[t,u]⟩)(hd:o.dst=some d){o2:Nat}{T2:TypeId}{e2:Nat}(hy:S.val y=.gd o2 T2 e2)(h:RG E.C t u d S (S.val x) o2 T2 e2 K){next:Act->World->Prop}{Q:Exit->Act->World->Prop}(hn:∀S' a' w',K S'->nO E S' a' w'->next a' w'):Bl E o a w next Q:=by
 have GG:=aT.val hs x;have hyv:=aT.val hs y;rw[hy]at hyv;generalize S.val x=vx at h GG;unfold RG at h;split at h;rename_i e _ ui ht hui;have JZ:=(E.C.ok ht).slice;obtain⟨dd,YL,hsh⟩:=(E.C.ok hui).yC;split at h;simp_all;rename_i yM;have hdk:∀k,dd≠.int k:=λk e=>by rw[<-hsh,e]at yM;simp[shapeOf,Shape.Fj]at yM
 split at h;simp_all;rename_i j hj;have hok:=E.C.ok hj;split at h;rename_i he2 hT2 hb0;obtain rfl:=aM he2;obtain rfl:=aM hT2;have hb0:=bD hb0;split at h;simp_all;rename_i ys hys;generalize Pd:a.eval y=vy at hyv;cases hyv with
 |gd _ _ _ m c2 b2 q1 q2 q3 q4=>
  have YM:=(hs.cz _ _ _ _ q1 q2).2.2 ys hys;simp only at YM;obtain⟨news,nl,nr,nf⟩:=Bm (P:=E.C.P) hs hys q1 q2;have hl:(Builtin.lenOf (.slice (some ⟨b2,0,none⟩) m c2)).run E.C.P w=.ok m w:=by simp[Builtin.lenOf]
  have hone:jG ys=true->∀v,v∈news->v.oneCell'=true:=λh1 v hv=>by
   obtain⟨i,hi⟩:=iK hv;have Eb:i<ys.length:=by rw[YM,<-nl];exact(aJ.1 hi).1
   obtain⟨v',h2,h3⟩:=nr i _ (av Eb);rw[hi]at h2;obtain rfl:=au h2;exact h3.VH (qO.1 h1 _ (aO Eb))
  split at h;rename_i k T bM;split at h;rename_i he hT hne;obtain rfl:=aM he;obtain rfl:=aM hT;split at h;simp_all;rename_i xs hxs;obtain⟨hkn,hxs⟩:=iW hxs;obtain⟨n,m',VP,hm1,h1,hbd,zs,rfl,hK⟩:=h;generalize MI:a.eval x=vv at GG;cases GG with
  |gd _ _ _ n' c b p1 p2 p3 p4=>
   have hxl:=(hs.cz _ _ _ _ p1 p2).2.2 xs hxs;simp only at hxl;obtain rfl:n=n':=ga p4 (VP.symm.trans hxl);obtain rfl:m'=m:=ga p4 (hm1.symm.trans YM);obtain⟨t1,t2,tt,t3⟩:=hs.fQ _ _ _ _ _ p2;by_cases hc:n+m'<=c;have hq:n*j.size+news.length<=c*j.size:=by have :=ew j.size hc;rw[bw]at this;omega
   have hrun:=nZ (P:=E.C.P) (w:=w) (ty:=o.type) (b:=b) (off:=0) JZ YL hdk hok hl (nf w λ_ _=>rfl) hc (λq MF=>by grind) (λq MF=>by grind) (hone h1);rw[de]at hrun;have hg:=hs.Pc (news:=news) hxs p1 p2 hq nr oO;have hex:(execOp a.eval o).run E.C.P w=.ok (.value (.slice (some ⟨b,0,none⟩) (n+m') c)) (w.setCells b (n*j.size) news):=by simp[execOp,ho,resolve,invoke,builtin,MI,Pd,hrun]
   refine wp_value hex (hn _ _ _ hK ⟨{G with tail:=λt=>if t=k then some (b,n*j.size+news.length,c*j.size,T)else G.tail t},?_⟩);rw[hd];refine hg.put (some d) (v:=.slice (some ⟨b,0,none⟩) (n+m') c) (x:=.gd k T j.size) (.gd k T j.size (n+m') c b p1 ?_ hc p4);simp only[if_true];rw[nl,bw];obtain⟨olds,ol,or',of'⟩:=Bm (P:=E.C.P) hs hxs p1 p2;obtain⟨rest,z,hz,qF,hrun⟩:=iM (P:=E.C.P) (w:=w) (ty:=o.type) (news:=news) (olds:=olds) JZ YL hdk hok hl nf of' hc hbd hb0;have hcap:n+m'<=grownCap w (n+m') c T:=grownCap_ge w _ _ _;generalize hcg:grownCap w (n+m') c T=cap at*;have hrl:rest.size=(cap-(n+m'))*j.size:=by rw[qF,size_zeroCells,hz]
   have lU:(olds++news++rest.toList).length=cap*j.size:=by simp only[ay,ol,nl,jg,hrl,<-bw];rw[show n+m'+(cap-(n+m'))=cap from oO]
   obtain⟨G',g1,g2,g3⟩:=Ab hs.drew k hkn (zs:=xs++ys) (cells:=olds++news++rest.toList) (s:=(n+m')*j.size) (cap:=cap*j.size) (e:=T) (by grind) lU (λi z hz=>by have hk:∀{v:Value}{z:FV},aT G w v z->aT G {w with drawn:=w.drawn+1} v z:=λh=>h.keep (λ_ _ h=>h) (λ_ _ _ _ h=>h) (λ_ _ _ _ h=>h) (λ_ _ h=>h) (λ_ _ h=>h);grind);have hW:w.drew.alloc (.cells (olds.toArray++news.toArray++rest) T)=({w with drawn:=w.drawn+1}:World).alloc (.cells (olds++news++rest.toList).toArray T):=by
    have :olds.toArray++news.toArray++rest=(olds++news++rest.toList).toArray:=by apply iJ.1;simp
    rw[this];rfl
   rw[hW]at hrun;refine wp_value (v:=.slice (some ⟨w.heap.size,0,none⟩) (n+m') cap) (w':=({w with drawn:=w.drawn+1}:World).alloc (.cells (olds++news++rest.toList).toArray T)) ?_ (hn _ _ _ hK ⟨G',?_⟩);simp[execOp,ho,resolve,invoke,builtin,MI,Pd]at hrun⊢;simp_all;rw[hd];exact g1.put (some d) (v:=.slice (some ⟨w.heap.size,0,none⟩) (n+m') cap) (x:=.gd k T j.size) (.gd k T j.size (n+m') cap w.heap.size g2 g3 hcap p4)
  simp_all;obtain⟨m',hm0,hm1,h1,hbd,h⟩:=h;rw[jH]at h;obtain⟨hdn,zs,rfl,hK⟩:=h;generalize MI:a.eval x=vv at GG;cases GG with
  |full _ ad hr0=>
   obtain rfl:m'=m:=ga q4 (hm1.symm.trans YM);have of':∀w',(∀b o,w'.cell? ⟨b,o,none⟩=w.cell? ⟨b,o,none⟩)->(Builtin.firstCells j.size 0 (.slice ad 0 0)).run E.C.P w'=.ok ([]:List Value).toArray w':=λw' _=>by cases ad<;>simp[Builtin.firstCells,loadCells,loadCellsFrom]
   obtain⟨rest,z,hz,qF,hrun⟩:=iM (P:=E.C.P) (w:=w) (ty:=o.type) (base:=ad) (n:=0) (c:=0) (news:=news) (olds:=[]) JZ YL hdk hok hl nf of' oO (by simp_all) hb0;have hcap:0+m'<=grownCap w (0+m') 0 T2:=grownCap_ge w _ _ _;generalize hcg:grownCap w (0+m') 0 T2=cap at*;have hrl:rest.size=(cap-(0+m'))*j.size:=by rw[qF,size_zeroCells,hz]
   have lU:(news++rest.toList).length=cap*j.size:=by simp only[ay,nl,jg,hrl,<-bw];rw[show m'+(cap-(0+m'))=cap from oO]
   generalize hnm:S.off+d=nm at hK hdn;obtain⟨G',g1,g2,g3⟩:=Ab hs.drew nm hdn (zs:=ys) (cells:=news++rest.toList) (s:=m'*j.size) (cap:=cap*j.size) (e:=T2) YM lU (λi z hz=>by have hk:∀{v:Value}{z:FV},aT G w v z->aT G {w with drawn:=w.drawn+1} v z:=λh=>h.keep (λ_ _ h=>h) (λ_ _ _ _ h=>h) (λ_ _ _ _ h=>h) (λ_ _ h=>h) (λ_ _ h=>h);grind);have hW:w.drew.alloc (.cells (([]:List Value).toArray++news.toArray++rest) T2)=({w with drawn:=w.drawn+1}:World).alloc (.cells (news++rest.toList).toArray T2):=by
    have :([]:List Value).toArray++news.toArray++rest=(news++rest.toList).toArray:=by apply iJ.1;simp
    rw[this];rfl
   rw[hW]at hrun;refine wp_value (v:=.slice (some ⟨w.heap.size,0,none⟩) (0+m') cap) (w':=({w with drawn:=w.drawn+1}:World).alloc (.cells (news++rest.toList).toArray T2)) ?_ (hn _ _ _ hK ⟨G',?_⟩);simp[execOp,ho,resolve,invoke,builtin,MI,Pd]at hrun⊢;simp_all;rw[hd];exact g1.put (some d) (v:=.slice (some ⟨w.heap.size,0,none⟩) (0+m') cap) (x:=.gd nm T2 j.size) (.gd nm T2 j.size (0+m') cap w.heap.size g2 (by simp_all) hcap q4)
  simp_all
 simp_all;simp_all
theorem Bn {d Z o:Nat}{qK:List (List AV)}{cells:List FV}:∀{l:List (Nat×List FV)},Qv.getObj (zU d Z qK l) o=some cells->o≠d/\∃cs,Qv.getObj l o=some cs/\cells=FV.Ck d Z qK cs:=by
 intro l;induction l with
 |nil=>intro h;cases h
 |cons p l ih=>
  obtain⟨u,i⟩:=p;intro h;simp only[zU]at h;split at h;rename_i hb;obtain rfl:=aM hb;obtain⟨h1,cs,h2,h3⟩:=ih h;refine⟨h1,cs,?_,h3⟩;simp only[Qv.getObj];have :Nat.beq u o=false:=by cases hb:Nat.beq u o;rfl;simp_all
  simp_all;rename_i hb;simp only[Qv.getObj]at h⊢;grind
theorem nD {α:Type}{e:Nat}:∀{l:List (List α)},(∀zs,zs∈l->zs.length=e)->∀{i j:Nat}{zs:List α}{z:α},l[i]?=some zs->zs[j]?=some z->l.flatten[i*e+j]?=some z
 |[],_,i,j,zs,z,h,_=>by grind
 |x::l,hl,0,j,zs,z,h1,h2=>by grind
 |x::l,hl,i+1,j,zs,z,h1,h2=>by have hx:=hl x (by simp);rw[nP,dH (by grind),hx,show(i+1)*e+j-e=i*e+j by grind];exact nD (λzs hz=>hl zs (by grind)) (by simp_all) h2
theorem aT.JR {G G':bf}{w:World}{v:Value}{x:FV}{d Z:Nat}{qK:List (List AV)}(h:aT G w v x)(hi:∀b o,G.bk b o->G'.bk b o)(hl:∀o b,o≠d->G.loc o=some b->G'.loc o=some b)(ht:∀(t:Nat) r,G.tail t=some r->G'.tail t=some r)(hO:∀(T:TypeId)(bM n c b:Nat),G.loc d=some b->G.tail d=some (b,n*bM,c*bM,T)->n<=c->0<bM->bM=Z->aT G' w (.slice (some ⟨b,0,none⟩) n c) (.fM d T bM qK))(hy:∀l k,G.yl l=some k->G'.yl l=some k:=by intro _ _ h;exact h)(hmp:∀o b,o≠d->G.mp o=some b->G'.mp o=some b:=by intro _ _ _ h;exact h)(hit:∀o b,o≠d->G.it o=some b->G'.it o=some b:=by intro _ _ _ h;exact h):aT G' w v (x.JR d Z qK):=by
 have get:∀{cs:List Value}{xs:List FV},(∀(i:Nat)(c:Value)(x:FV),cs[i]?=some c->xs[i]?=some x->aT G' w c (x.JR d Z qK))->∀(i:Nat)(c:Value)(x:FV),cs[i]?=some c->(FV.Ck d Z qK xs)[i]?=some x->aT G' w c x:=λ{cs xs} ih i c x h1 h2=>by rw[FV.wj,aN]at h2;grind
 induction h with
 |p v x h=>exact .p v x (h.keep hi (λ_ _ _ _ h=>h) (.refl _ _))
 |agg cs xs hn _ ih=>exact .agg cs _ (by simpa[FV.wj]using hn) (get ih)
 |eW cs xs hn _ ih=>exact .eW cs _ (by simpa[FV.wj]using hn) (get ih)
 |ptr o off b h=>simp only[FV.JR];split;exact .dR _;rename_i hb;exact .ptr o off b (hl o b (bD hb) h)
 |fM t T bM xs a c h1 h2=>simp only[FV.JR];split;exact .p _ _ (h1.keep hi (λ_ _ _ _ h=>h) (.refl _ _));refine .fM t T bM xs a c (h1.keep hi (λ_ _ _ _ h=>h) (.refl _ _)) ?_;grind
 |full xs a h=>exact .full xs a (h.keep hi (λ_ _ _ _ h=>h) (.refl _ _))
 |fn f fs cs first captured hn hn' _ _ ih Gj=>exact .fn f fs cs _ _ (by simpa[FV.wj]using hn) (by simpa[FV.wj]using hn') (get ih) (get Gj)
 |lX l k h=>simp only[FV.JR];split;exact .dR _;exact .lX l k (hy _ _ h)
 |gd o T bM n c b h1 h2 h3 h4=>simp only[FV.JR];split;rename_i hb;obtain rfl:=aM hb;split;rename_i he;exact hO T bM n c b h1 h2 h3 h4 (aM he);exact .dR _;rename_i hb;exact .gd o T bM n c b (hl o b (bD hb) h1) (ht o _ h2) h3 h4
 |uk o x T bM n c b off h1 h2 h0 h3 h4=>simp only[FV.JR];split;exact .dR _;rename_i hb;exact .uk o x T bM n c b off (hl o b (bD hb) h1) (ht o _ h2) h0 h3 h4
 |gD o base off b h=>simp only[FV.JR];split;exact .dR _;rename_i hb;exact .gD o base off b (hl o b (bD hb) h)
 |fG o b h=>simp only[FV.JR];split;exact .dR _;rename_i hb;exact .fG o b (hmp o b (bD hb) h)
 |zR o b h=>simp only[FV.JR];split;exact .dR _;rename_i hb;exact .zR o b (hit o b (bD hb) h)
 |dR v=>exact .dR v
theorem lY.Ow {G G':bf}{S:aj}{w:World}{d Z:Nat}{qK:List (List AV)}(hi:∀b i es k,w.heap[b]?=some (.map es k)->(∃o,G'.mp o=some b)->G'.bk b i->G.bk b i)(hi':∀b,G.bk b 0->G'.bk b 0)(hmp:G'.mp=G.mp)(hit:G'.it=G.it)(hl:∀o b,G'.loc o=some b->G.loc o=some b)(ht:∀q r,G.tail (.inr q)=some r->G'.tail (.inr q)=some r:=by first|exactλ_ _ h=>h|exactλ_ _ h=>(af (λe=>nomatch e)).trans h):lY (FV.JR d Z qK) G G' S (S.Ow d Z qK) w:=by refine⟨λ_=>rfl,λo l' h=>?_,λq x h=>?_,λ_ _ h=>hmp▸h,λ_ _ h=>hit▸h,hi,hi',λo b h=>.inl (hl o b h),ht⟩;obtain⟨l,h1,h2⟩:=wG h;obtain⟨h3,h4⟩:=qa h1;simp_all;obtain⟨h1,h2⟩:=qa h;simp_all
theorem bt.Ow (hs:bt E G S a w){d Z:Nat}{qK:List (List AV)}(hf:ahm S d Z qK):∃G',bt E G' (S.Ow d Z qK) a w:=by
 obtain⟨⟨cells,hc0,hy⟩,AL⟩:=hf;obtain⟨hdn,hc⟩:=iW hc0;clear hc0;generalize hys:qK.flatten=ys at hy;obtain⟨B,hB,hcell⟩:=hs.aI d cells hc;obtain⟨GH,Gp,hl3⟩:=hs.gG d B hB;obtain⟨hlen,tN⟩:=FV.iC hy;let G':bf:={G with bk:=λb o=>G.bk b o\/(b=B/\o<ys.length),loc:=λo=>if o=d then none else G.loc o};have hone:∀y,y∈ys->y.one=true:=λy hy=>by rw[<-hys]at hy;obtain⟨zs,h1,h2⟩:=wO.1 hy;grind
 have vr:∀o b,G'.loc o=some b->o≠d/\G.loc o=some b:=λo b h=>by grind
 have oC:∀(j:Nat)(y:AV),ys[j]?=some y->∃c,w.cell? ⟨B,j,none⟩=some c/\dA G'.bk w c y:=λj y hj=>by obtain⟨x,hx,hxy⟩:=tN j y hj;obtain⟨c,h2,h3⟩:=hcell j x hx;exact⟨c,h2,(h3.eG hxy).keep (λb o h=>.inl h) (λ_ _ _ _ h=>h) (.refl _ _)⟩
 have YN:∀b i es n,b=B->i<ys.length->w.heap[b]?=some (.map es n)->False:=λb i es n e hi hb=>by subst e;obtain⟨c,h2,-⟩:=oC i _ (av hi);rw[Cr hb]at h2;grind
 have up:∀v x,aT G w v x->aT G' w v (x.JR d Z qK):=λv x hv=>by
  refine hv.JR (λb o h=>.inl h) (λo b hne h=>by grind) (λ_ _ h=>h) (λT bM n c b h1 h2 h3 h4 h5=>?_);obtain rfl:b=B:=by simp_all
  subst h5;have h6:=(hs.cz d d b _ h1 h2).2.2 cells hc;simp only at h6;have h7:qK.flatten.length=qK.length*bM:=by
   have :∀l:List (List AV),(∀zs,zs∈l->zs.length=bM)->l.flatten.length=l.length*bM:=by
    intro l;induction l with
    |nil=>simp_all
    |cons z l ih=>grind
   exact this qK λzs hz=>(AL zs hz).1
  have h8:qK.length=n:=ga h4 (by simp_all);subst h8;refine .fM d T bM qK (some ⟨b,0,none⟩) c (yK h3 (λzs hz=>(AL zs hz).1) λi zs j z hi hj=>?_) (.inr ⟨b,0,rfl,λzs hz=>(AL zs hz).1,by grind⟩);rw[de];have h9:ys[i*bM+j]?=some z:=by rw[<-hys];exact nD (λzs hz=>(AL zs hz).1) hi hj
  grind
 refine⟨G',hs.kept,hs.size,hs.ext'.move (S':=S.Ow d Z qK) (FV.JR d Z qK) rfl rfl rfl up (.refl _) (.Ow (λb i es n hb _ h=>h.elim id λh=>(YN b i es n h.1 h.2 hb).elim) (λ_ h=>.inl h) rfl rfl (λo b h=>(vr o b h).2)),?_,?_,?_,λi hi=>up _ _ (hs.tmps i hi),λo cs ho=>?_,λo b ho=>?_,λo o' b h h'=>hs.eY o o' b (vr _ _ h).2 (vr _ _ h').2,λo t b r h h'=>lG.mono (hs.cz o t b r (vr _ _ h).2 h') (λbs q=>⟨bs,(kr q).2⟩) (λcs q=>?_),λt b s e T h=>?_,hs.er⟩;refine hs.iX.keep rfl rfl (λo bs q=>?_) (λo _ _ q=>?_) (λ_ _ e=>e) (aA _) (λ_ _ _ _ _ _=>rfl) (λ_ _ _=>rfl) (λo r i e hi=>?_) (λ_ _ o' _ e=>(vr o' _ e).2) (λ_ _ t q _ e=>⟨t,q,e⟩);refine⟨(kr q).2,?_,rfl⟩;have q:=(kr q).2;have hne:o≠d:=λe=>by have :=(hs.iX.at_ o bs q).1;simp_all
 grind;cases h':Qv.getObj (zU d Z qK S.aI) o with
 |none=>exact h'
 |some cs=>obtain⟨-,cs',h2,-⟩:=Bn h';simp_all
 rcases hi with hi|⟨rfl,-⟩;omega;exact absurd hB ((hs.iX.row o _ e).2.2.2.1 d);rintro b o (h|⟨rfl,-⟩);exact hs.nN b o h;exact .inr (E.HA Gp hdn);rintro b o (h|⟨rfl,-⟩);exact hs.fh b o h;omega;obtain⟨hne,cs0,h2,rfl⟩:=Bn ho;obtain⟨b,h3,h4⟩:=hs.aI o cs0 h2;refine⟨b,by grind,λi x hx=>?_⟩;rw[FV.wj,aN]at hx;grind;obtain⟨hne,ho'⟩:=vr o b ho;obtain⟨k1,k2,k3⟩:=hs.gG o b ho';refine⟨k1,k2,λi=>⟨?_,(k3 i).2⟩⟩;rintro(h|⟨e,-⟩);simp_all;exact hne (hs.eY o d b ho' (by simp_all));obtain⟨-,cs0,h2,rfl⟩:=Bn q;exact⟨cs0,h2,by rw[FV.wj,ah]⟩;obtain⟨k1,k2,kt,k3⟩:=hs.fQ t b s e T h;refine⟨k1,k2,kt,λi hi hi'=>?_⟩;obtain⟨k4,k5,k6⟩:=k3 i hi hi';refine⟨k4,k5,?_⟩;rintro(h7|⟨rfl,hlt⟩);simp_all;have :=(hs.cz d t b _ hB h).2.2 cells hc;omega
theorem Pe {i d:Nat}(h:i≠d):Nat.beq i d=false:=by cases hb:Nat.beq i d;rfl;simp_all
end
section
variable {E:Env}{G:bf}{S:aj}{a:Act}{w:World}{o:Oper}
theorem Fs {l:Nat}{o o':Obj}(hl:w.heap[l]?=some o)(ho:o.isCells=false)(ho':o'.isCells=false)(b i:Nat):(w.putObj l o').cell? ⟨b,i,none⟩=w.cell? ⟨b,i,none⟩:=by unfold World.cell?;by_cases hb:b=l;subst hb;have h1:(w.putObj b o').heap[b]?=some o':=World.putObj_heap_same (bq.1 hl).1;simp only[h1,hl];cases o<;>cases o'<;>simp_all[Obj.isCells];have h1:(w.putObj l o').heap[b]?=w.heap[b]?:=World.putObj_heap_other hb;simp_all
theorem Ka {l:Nat}{o o':Obj}(hl:w.heap[l]?=some o)(ho:o.isCells=false)(ho':o'.isCells=false)(b i:Nat):(w.putObj l o').frozen? ⟨b,i,none⟩=w.frozen? ⟨b,i,none⟩:=by unfold World.frozen?;by_cases hb:b=l;subst hb;have h1:(w.putObj b o').heap[b]?=some o':=World.putObj_heap_same (bq.1 hl).1;simp only[h1,hl];cases o<;>cases o'<;>simp_all[Obj.isCells];have h1:(w.putObj l o').heap[b]?=w.heap[b]?:=World.putObj_heap_other hb;simp_all
theorem AM {bk:Nat->Nat->Prop}{l:Nat}{o o':Obj}(hl:w.heap[l]?=some o)(h:(∃es k,o=.map es k)->¬bk l 0):vV bk w (w.putObj l o'):=λb es k hi hb=>by
 have hne:b≠l:=λe=>by simp_all
 have h1:(w.putObj l o').heap[b]?=w.heap[b]?:=World.putObj_heap_other hne;simp_all
theorem bt.putObj (hs:bt E G S a w){l:Nat}{o o':Obj}(hl:w.heap[l]?=some o)(ho:o.isCells=false)(ho':o'.isCells=false)(hw0:E.w0.heap.size<=l\/l∈E.own)(him:(∃es k,o=.map es k)->¬G.bk l 0){mj:Option Nat}{bK:List (Array Value)}{loops:List (Nat×Loop)}{fixed:List Nat}{cF:List zS}{defers:List Deferred}{maps:List (Nat×List (AV×FV))}{je:List (Nat×(Option (AV×AV)×List (AV×AV)))}(hx:(∀v x,aT G w v x->aT G (w.putObj l o') v x)->(∀k ob,k≠l->w.heap[k]?=some ob->(w.putObj l o').heap[k]?=some ob)->(w.putObj l o').heap[l]?=some o'->Ext {E with mj:=mj,bK:=bK,loops:=loops,fixed:=fixed} G {S with cF:=cF,maps:=maps,je:=je} {a with defers:=defers} (w.putObj l o')):bt {E with mj:=mj,bK:=bK,loops:=loops,fixed:=fixed} G {S with cF:=cF,maps:=maps,je:=je} {a with defers:=defers} (w.putObj l o'):=by
 have hlt:=(bq.1 hl).1;have hc:=λb i=>Fs (w:=w) hl ho ho' b i;have hf:=λb i=>Ka (w:=w) hl ho ho' b i;have sj:∀k,k≠l->(w.putObj l o').heap[k]?=w.heap[k]?:=λk hk=>World.putObj_heap_other hk;have hsz:(w.putObj l o').heap.size=w.heap.size:=World.putObj_size;have keep:∀v x,aT G w v x->aT G (w.putObj l o') v x:=λv x hv=>hv.keep (λ_ _ h=>h) (λb i c _ h=>by simp_all) (AM hl him) (λ_ _ h=>h) (λ_ _ h=>h);refine⟨⟨hs.kept.os,hs.kept.tape,hs.kept.output,by rw[hsz];exact hs.kept.size,λk hk hk'=>?_,λk cs T fr hk q=>?_⟩,hs.size,hx keep (λk ob hk h=>by simp_all) (World.putObj_heap_same hlt),?_,hs.nN,λb i h=>by rw[hsz];exact hs.fh b i h,λi hi=>keep _ _ (hs.tmps i hi),λob cs h=>?_,λob b h=>?_,hs.eY,hs.cz,λt b s e T h=>?_,hs.er⟩;rw[sj k (by grind)];exact hs.kept.block k hk hk';obtain⟨cs',q1,q2⟩:=hs.kept.shape k cs T fr hk q;refine⟨cs',?_,q2⟩;rw[sj k (λe=>?_)];exact q1;subst e;rw[q1]at hl;obtain rfl:=au hl;simp[Obj.isCells]at ho;have hcells:∀k cs T fr,w.heap[k]?=some (.cells cs T fr)->k≠l:=λk cs T fr h e=>by subst e;rw[h]at hl;obtain rfl:=au hl;simp[Obj.isCells]at ho
 refine hs.iX.same rfl rfl rfl rfl oO (λob bs b q q2 q3=>sj b ?_) (λob r q=>sj r (λe=>?_));obtain⟨-,b',q4,p,v,-,q5,-⟩:=hs.iX.at_ ob bs q;grind;obtain⟨cs,T,fr,q5⟩:=hs.iX.di ob r q;grind;obtain⟨b,h1,h2⟩:=hs.aI ob cs h;grind;obtain⟨h1,h2,h3⟩:=hs.gG ob b h;exact⟨oO,h2,λi=>⟨(h3 i).1,by simp_all⟩⟩;obtain⟨h1,h2,⟨cs,fr,h3,hu⟩,h4⟩:=hs.fQ t b s e T h;have hne:b≠l:=λe'=>by subst e';rw[h3]at hl;obtain rfl:=au hl;simp[Obj.isCells]at ho
 grind
theorem XT.yN (h:XT E G S w){l:Nat}{o:Obj}{w':World}(hl:w.heap[l]?=some o)(ho:(∀(es:Array MapEntry)(k:Nat),o≠Obj.map es k)/\∀(m:Option Nat)(s:Nat)(seen:Array Nat)(c:Nat),o≠Obj.mapIter m s seen c)(keep:∀v x,aT G w v x->aT G w' v x)(Bo:∀k ob,k≠l->w.heap[k]?=some ob->w'.heap[k]?=some ob){E':Env}{S':aj}(hE:E'.w0=E.w0)(hm:S'.maps=S.maps)(hi:S'.je=S.je)(hC:E'.C=E.C:=by rfl)(hL:E'.rP=E.rP:=by rfl):XT E' G S' w':=by
 have hkp:∀v x,dA G.bk w v x->dA G.bk w' v x:=λv x hv=>(keep v (.p x) (.p v x hv)).plain;have hmap:∀(b:Nat)(es:Array MapEntry)(k:Nat),w.heap[b]?=some (Obj.map es k)->w'.heap[b]?=some (Obj.map es k):=λb es k hb=>Bo b _ (λe=>by simp_all) hb;have ajY:∀(b:Nat)(m:Option Nat)(s:Nat)(seen:Array Nat)(c:Nat),w.heap[b]?=some (Obj.mapIter m s seen c)->w'.heap[b]?=some (Obj.mapIter m s seen c):=λb m s seen c hb=>Bo b _ (λe=>by simp_all) hb;refine⟨λo l h1=>?_,λo b h1=>?_,h.inj,λq x h1=>?_,λq r h1=>?_,h.AH,h.apart,λo T z k l b gu es g1 g2 g3 g4 i e p g5 g6 g7=>?_⟩;obtain⟨b,gu,es,q1,q2,q3,q4,q5⟩:=h.at_ o l (hm▸h1);grind;obtain⟨q1,q2,es,k,q3⟩:=h.loc o b h1;exact⟨by unfold Env.mine;rw[hE,hL];exact q1,q2,es,k,hmap _ _ _ q3⟩;obtain⟨r,q1,q2⟩:=h.je q x (hi▸h1);exact⟨r,q1,q2.keep hkp (λ_ h=>h) (λm s seen c h=>ajY _ _ _ _ _ h) λb es k _ hb=>hmap _ _ _ hb⟩;obtain⟨q1,m,s,seen,c,q2⟩:=h.AG q r h1;grind;obtain⟨b',acM,es0,h1,h2,-⟩:=h.at_ o l (hm▸g1);obtain rfl:b'=b:=by simp_all
 obtain rfl:=Mx (hmap _ _ _ h2) g4;exact h.room o T z k l b' acM es (hm▸g1) (hC▸g2) h1 h2 i e p g5 g6 g7
theorem Ext.yN (h:Ext E G S a w){l:Nat}{o:Obj}{w':World}(hl:w.heap[l]?=some o)(ho:(∀r,o≠.loop r)/\∀d,o≠.deferred d)(keep:∀v x,aT G w v x->aT G w' v x)(Bo:∀k ob,k≠l->w.heap[k]?=some ob->w'.heap[k]?=some ob){maps:List (Nat×List (AV×FV))}{je:List (Nat×(Option (AV×AV)×List (AV×AV)))}(hm:XT E G {S with maps:=maps,je:=je} w'):Ext E G {S with maps:=maps,je:=je} a w':=by refine⟨hm,h.lz,λi vals fr h1 h2=>?_,h.kg,λi k r st h1 h2=>?_,h.lB,h.yl,h.mj,?_,h.Ay.of keep⟩;obtain⟨h3,h4⟩:=h.bK i vals fr h1 h2;simp_all;obtain⟨h3,h4⟩:=h.loops i k r st h1 h2;grind;obtain⟨ms,h1,h2,h3⟩:=h.marks;grind
theorem Pf {α:Type}{ob o:Nat}{c x:α}:∀{l:List (Nat×α)},getM (uU l ob c) o=some x->(o=ob/\x=c)\/(o≠ob/\getM l o=some x):=by
 intro l;induction l with
 |nil=>intro h;cases h
 |cons p l ih=>obtain⟨u,i⟩:=p;intro h;simp only[uU]at h;split at h;rename_i hb;obtain rfl:=aM hb;simp only[getM]at h⊢;split at h;simp_all;grind;rename_i hb;simp only[getM]at h⊢;grind
theorem bt.MJ (hs:bt E G S a w){ob b gu Bh:Nat}{es es':List MapEntry}{l':List (AV×FV)}(hb:G.mp ob=some b)(hh:w.heap[b]?=some (.map es.toArray gu))(CS:pV es' Bh)(hlen:es'.length=l'.length)(hent:∀(i:Nat)(e:MapEntry)(p:AV×FV),es'[i]?=some e->l'[i]?=some p->dA G.bk w e.key p.1/\aT G w e.val p.2)(Sa:∀(T:TypeId)(z:Nat)(k:Option AV),getM E.C.ex.Mi ob=some (T,z,k)->∀(i:Nat)(e:MapEntry)(p:AV×FV),es'[i]?=some e->l'[i]?=some p->k≠some p.1->El G T z ob e):bt E G {S with maps:=uU S.maps ob l'} a (w.putObj b (.map es'.toArray Bh)):=by
 have hm:=hs.ext'.mps;obtain⟨q1,q2,-⟩:=hm.loc ob b hb;refine hs.putObj (cF:=S.cF) (je:=S.je) (defers:=a.defers) (mj:=E.mj) (bK:=E.bK) (loops:=E.loops) (fixed:=E.fixed) hh rfl rfl (E.Cp q1) (λ_=>q2 0) λkeep Bo rQ=>?_;have hkp:∀v x,dA G.bk w v x->dA G.bk (w.putObj b (.map es'.toArray Bh)) v x:=λv x hv=>(keep v (.p x) (.p v x hv)).plain;refine Ext.yN (E:=E) hs.ext' hh ⟨λr=>by simp,λd=>by simp⟩ keep Bo ⟨λo m ho=>?_,λo b' ho=>?_,hm.inj,λq x hx=>?_,λq r hr=>?_,hm.AH,hm.apart,λo T z k l b0 acM es0 g1 g2 g3 g4 i e p g5 g6 g7=>?_⟩;rcases Pf ho with⟨rfl,rfl⟩|⟨hne,ho⟩;grind;obtain⟨b',acM,es0,h1,h2,h3,h4,h5⟩:=hm.at_ o m ho;exact⟨b',acM,es0,h1,Bo b' _ (λe=>hne (hm.inj o ob b' h1 (e▸hb))) h2,h3,h4,λi e p h6 h7=>⟨hkp _ _ (h5 i e p h6 h7).1,keep _ _ (h5 i e p h6 h7).2⟩⟩;obtain⟨h1,h2,es0,c0,h3⟩:=hm.loc o b' ho;grind;obtain⟨r,h1,h2⟩:=hm.je q x hx;refine⟨r,h1,h2.keep hkp (λ_ h=>h) (λm s seen c h=>Bo r _ (λe=>?_) h) (AM hh λ_=>q2 0)⟩;simp_all;obtain⟨h1,m,s,seen,c,h2⟩:=hm.AG q r hr;grind;rcases Pf g1 with⟨rfl,rfl⟩|⟨hne,ho⟩;grind;obtain⟨b',Pg,YO,h1,h2,-⟩:=hm.at_ o l ho;obtain rfl:b'=b0:=by simp_all
 have h3:=Bo b' _ (λe=>hne (hm.inj o ob b' h1 (e▸hb))) h2;obtain rfl:=Mx h3 g4;exact hm.room o T z k l b' Pg es0 ho g2 h1 h2 i e p g5 g6 g7
theorem bt.acN (hs:bt E G S a w){G':bf}{maps:List (Nat×List (AV×FV))}{je:List (Nat×(Option (AV×AV)×List (AV×AV)))}(h1:G'.bk=G.bk)(h2:G'.loc=G.loc)(h3:G'.tail=G.tail)(h4:G'.yl=G.yl)(h5:G'.row=G.row)(hmp:∀o b,G.mp o=some b->G'.mp o=some b)(hit:∀o b,G.it o=some b->G'.it o=some b)(hm:(∀v x,aT G w v x->aT G' w v x)->XT E G' {S with maps:=maps,je:=je} w):bt E G' {S with maps:=maps,je:=je} a w:=by have keep:∀v x,aT G w v x->aT G' w v x:=λv x h=>h.keep (λ_ _ h=>h1▸h) (λ_ _ _ _ h=>h) (.refl _ _) (λ_ _ h=>h2▸h) (λ_ _ h=>h3▸h) (λ_ _ h=>h4▸h) hmp hit;refine⟨hs.kept,hs.size,⟨hm keep,hs.ext'.lz,λi vals fr q1 q2=>?_,hs.ext'.kg,hs.ext'.loops,hs.ext'.lB,λi k r q=>by rw[h4];exact hs.ext'.yl i k r q,hs.ext'.mj,hs.ext'.marks,hs.ext'.Ay.of keep⟩,⟨λo bs q=>?_,λo r q=>?_,λo r q=>hs.iX.di o r (h5▸q)⟩,h1▸hs.nN,h1▸hs.fh,λi hi=>keep _ _ (hs.tmps i hi),λo cs ho=>?_,λo b ho=>?_,λo o' b q q'=>hs.eY o o' b (h2▸q) (h2▸q'),λo t b r q q'=>hs.cz o t b r (h2▸q) (h3▸q'),λt b s e T q=>?_,λt t' b r r' q q'=>hs.er t t' b r r' (h3▸q) (h3▸q')⟩;obtain⟨q3,q4⟩:=hs.ext'.bK i vals fr q1 q2;simp_all;rw[h2,h5];exact hs.iX.at_ o bs q;rw[h1,h2,h3,h5];exact hs.iX.row o r (h5▸q);obtain⟨b,q1,q2⟩:=hs.aI o cs ho;grind;rw[h1];exact hs.gG o b (h2▸ho);rw[h1];exact hs.fQ t b s e T (h3▸q)
theorem MK (hs:bt E G S a w)(q:Nat)(hdn:iw (S.off+q)=false):∃G',bt E G' {(S.kill (S.off+q)).put (some q) (.fG (S.off+q))with maps:=(S.off+q,[])::AD (FV.kill (S.off+q)) (Aw (S.off+q) S.maps)} (a.put (some q) (.map (some w.heap.size))) (w.alloc (.map #[] 0)):=by
 generalize S.off+q=d at hdn;have hb:Below w.heap.size w (w.alloc (.map #[] 0)):=(Below.refl _ _).alloc (aA _) _;have h1:=(hs.OE hb λ_ _=>False).kill d;let G1:bf:=bf.free {G with bk:=λb o=>G.bk b o\/(w.heap.size<=b/\b<(w.alloc (.map #[] 0)).heap.size/\False)} d;let G2:bf:={G1 with mp:=λo=>if o=d then some w.heap.size else G1.mp o};have hfree:∀o b,G1.mp o=some b->o≠d/\G.mp o=some b:=λo b h=>by simp only[G1,bf.free]at h;simp_all
 have hold:∀o b,G1.mp o=some b->b<w.heap.size:=λo b h=>by obtain⟨-,-,es,k,h3⟩:=hs.ext'.mps.loc o b (hfree o b h).2;grind
 have Bi:∀i,¬G1.bk w.heap.size i:=λi h=>by rcases h with h|⟨-,-,h⟩;have :=hs.fh _ _ h;omega;omega
 have h2:bt E G2 {S.kill d with maps:=(d,[])::AD (FV.kill d) (Aw d S.maps),je:=Aw d S.je} a (w.alloc (.map #[] 0)):=by refine h1.acN (G':=G2) rfl rfl rfl rfl rfl (λo b h=>?_) (λ_ _ h=>h) λkeep=>?_;grind;have hm:=h1.ext'.mps;refine⟨λo l ho=>?_,λo b ho=>?_,λo o' b q1 q2=>?_,hm.je,hm.AG,hm.AH,λo o' b q1 q2=>?_,λo T z k l b gu es g1 g2 g3 g4 i e p g5 g6 g7=>?_⟩;simp only[getM]at ho;split at ho;rename_i hq;obtain rfl:=aM hq;obtain rfl:=au ho;exact⟨w.heap.size,0,[],by grind,World.alloc_heap_new w _,⟨by simp,by simp⟩,rfl,by simp⟩;obtain⟨b,gu,es,q1,q2,q3,q4,q5⟩:=hm.at_ o l ho;grind;simp only[G2]at ho;split at ho;obtain rfl:=au ho;exact⟨.inl ⟨hs.kept.size,by simp_all⟩,Bi,_,_,World.alloc_heap_new w _⟩;exact hm.loc o b ho;simp only[G2]at q1 q2;split at q1<;>split at q2;omega;grind;grind;exact hm.inj o o' b q1 q2;simp only[G2]at q1;split at q1;obtain rfl:=au q1;simp only[G2,G1,bf.free]at q2;split at q2;grind;have :=(hs.gG o' _ q2).1;omega;exact hm.apart o o' b q1 q2;simp only[getM]at g1;split at g1;simp_all;rename_i hne;have hne:o≠d:=eu (bD hne);simp only[G2]at g3;rw[af hne]at g3;exact hm.room o T z k l b gu es g1 g2 g3 g4 i e p g5 g6 g7
 exact⟨G2,h2.put (some q) (v:=.map (some w.heap.size)) (x:=.fG d) (.fG d _ (by grind))⟩
end
theorem uE {α:Type}(k:AV)(x:α)(l:List (AV×α)):Bf k x l=match iy k (gF l)with|some j=>l.set j (k,x)|none=>l++[(k,x)]:=by
 induction l with
 |nil=>rfl
 |cons p l ih=>obtain⟨k',y⟩:=p;simp only[Bf,gF,iy];grind
theorem uF {k:AV}:∀{ks:List AV}{j:Nat},iy k ks=some j->∃h:j<ks.length,ks[j]=k
 |[],j,h=>by simp[iy]at h
 |x::ks,j,h=>by
  simp only[iy]at h;split at h;rename_i hs;obtain rfl:=au h;exact⟨by simp,(Yu hs).symm⟩;cases hq:iy k ks with
  |none=>simp_all
  |some m=>simp only[hq,eM,bN]at h;subst h;obtain⟨h1,h2⟩:=uF hq;simp_all
section
variable {E:Env}{G:bf}{S:aj}{a:Act}{w:World}{o:Oper}
theorem wp_makeMap (hs:bt E G S a w){d:Nat}{t:TypeId}{K:aj->Prop}(ho:o.op=.makeMap t none)(hd:o.dst=some d)(h:Mr S d K){next:Act->World->Prop}{Q:Exit->Act->World->Prop}(hn:∀S' a' w',K S'->nO E S' a' w'->next a' w'):Bl E o a w next Q:=by unfold Mr at h;rw[jH]at h;obtain⟨hdn,h⟩:=h;obtain⟨G',hg⟩:=MK hs d hdn;refine wp_value (v:=.map (some w.heap.size)) (w':=w.alloc (.map #[] 0)) ?_ (hn _ _ _ h ⟨G',hd▸hg⟩);have :(Instr.makeMap t none).run E.C.P w=.ok (.map (some w.heap.size)) (w.alloc (.map #[] 0)):=rfl;simp[execOp,ho,this]
theorem Sb {P:Program}{t kT eT:TypeId}(hu:P.underlying t=some (.map kT eT)){L:List gJ}(hL:eZ P 40 kT=some L){k:AV}(hk:gL (gU P kT) L k=true){b gu:Nat}{es:List MapEntry}(hb:w.heap[b]?=some (.map es.toArray gu)){ks:List AV}(hks:sF (gU P kT) L es ks)(v:Value):∃(es':List MapEntry) (Bh:Nat),(Instr.mapUpdate t (.map (some b)) (tv (gU P kT) k.cells) v).run P w=.ok () (w.putObj b (.map es'.toArray Bh))/\(pV es gu->pV es' Bh)/\match iy k ks with|some j=>es'.length=es.length/\∀i e',es'[i]?=some e'->if i=j then e'.key=tv (gU P kT) k.cells/\e'.val=v/\∃e0,es[j]?=some e0/\e'.born=e0.born else es[i]?=some e'|none=>∃e',es'=es++[e']/\e'.key=tv (gU P kT) k.cells/\e'.val=v/\e'.born=gu:=by
 have MD:=(sE (P:=P) (em:=false) 40).1 kT L 10000 w k.cells dD hL (lZ hk);have hfind:=wq (w:=w) dD hL hk hks;have hg:(Go.getObj b).run P w=.ok (.map es.toArray gu) w:=by simp[Go.getObj,Sem.run,hb]
 have Bk:∀o',(Go.setObj b o').run P w=.ok () (w.putObj b o'):=λo'=>by simp[Go.setObj,Sem.run,hb,World.putObj]
 cases fF:iy k ks with
 |none=>
  rw[fF]at hfind;refine⟨es++[({key:=tv (gU P kT) k.cells,val:=v,born:=gu}:MapEntry)],gu+1,?_,λhf=>⟨λe he=>?_,?_⟩,_,rfl,rfl,rfl,rfl⟩;have he:(es++[({key:=tv (gU P kT) k.cells,val:=v,born:=gu}:MapEntry)]).toArray=es.toArray.push {key:=tv (gU P kT) k.cells,val:=v,born:=gu}:=by simp
  rw[he];simp[Instr.mapUpdate,run_underlying hu,hg,MD,hfind,found,Bk];rcases aZ.1 he with he|he;have :=hf.lt e he;omega;simp_all;rw[aD,kz];refine⟨hf.nd,by simp,λx hx y hy=>?_⟩;obtain⟨e,he,rfl⟩:=aC.1 hx;have :=hf.lt e he;grind
 |some j=>
  rw[fF]at hfind;obtain⟨hj,hkj⟩:=uF fF;have XU:j<es.length:=by have :=hks.1;omega
  obtain⟨k1,k2⟩:=hks.2 j _ _ (av XU) (av hj);rw[hkj]at k1;refine⟨(es.toArray.modify j λe=>{e with key:=tv (gU P kT) k.cells,val:=v}).toList,gu,?_,λhf=>⟨λe he=>?_,?_⟩,by simp,λi e' he=>?_⟩;rw[CR];simp[Instr.mapUpdate,run_underlying hu,hg,MD,hfind,found,XU,k1,Cw hk,Bk];obtain⟨i,hi⟩:=iK he;rw[sH,iL]at hi;split at hi;rename_i e;subst e;simp only[CT,av XU,eM,bN]at hi;subst hi;have :=hf.lt _ (aO XU);omega;exact hf.lt _ (bU (by simpa using hi));have :((es.toArray.modify j λe=>{e with key:=tv (gU P kT) k.cells,val:=v}).toList.map (·.born))=es.map (·.born):=by apply fZ;intro i;rw[aN,sH,iL,aN];split;grind;simp
  rw[this];exact hf.nd;grind
theorem wp_upd (hs:bt E G S a w){t:TypeId}{m k x:Operand}{K:aj->Prop}(ho:o.op=.mapUpdate t m k x\/o.op=.insert t m k x)(h:Uc E.C S o.dst t (S.val m) (S.val k) (S.val x) K){next:Act->World->Prop}{Q:Exit->Act->World->Prop}(hn:∀S' a' w',K S'->nO E S' a' w'->next a' w'):Bl E o a w next Q:=by
 have hm:=aT.val hs m;have hk0:=aT.val hs k;have hx:=aT.val hs x;unfold Uc at h;split at h;rename_i kT eT _ ht;have hu:=(E.C.ok ht).map;split at h;rename_i ob vj;rw[vj]at hm;split at h;rename_i ki kk l hki hkk hl;obtain⟨L,hL,hk,hall,l',hl',h⟩:=h;obtain⟨hro,h⟩:(∀T z k,getM E.C.ex.Mi ob=some (T,z,k)->k=some kk)/\K ((S.KF (uU S.maps ob l')).put o.dst (.p (.eW []))):=by grind
 have hagg:=(E.C.ok hki).gU;rw[<-hagg]at hk hall;have hkey:=tC (hk0.eG hkk) hk;generalize KQ:a.eval m=vm at hm;cases hm with
 |fG _ b hb=>
  obtain⟨b',gu,es,h1,h2,h3,h4,h5⟩:=hs.ext'.mps.at_ ob l hl;rw[hb]at h1;obtain rfl:=au h1;have hka:=MC (w:=w) h4 (λi e p a b=>(h5 i e p a b).1) hall;obtain⟨es',Bh,hrun,CS,hent⟩:=Sb (w:=w) hu hL hk h2 hka (a.eval x);have ahE:(execOp a.eval o).run E.C.P w=.ok .skip (w.putObj b (.map es'.toArray Bh)):=by rcases ho with ho|ho<;>simp[execOp,ho,KQ,hkey,hrun]
  have hg:=hs.MJ (l':=l') hb h2 (CS h3) (by rw[<-hl',uE];grind) (by
   intro i e p he hp;rw[<-hl',uE]at hp;cases fF:iy kk (gF l)with
   |none=>
    rw[fF]at hent hp;simp only at hp;obtain⟨e',rfl,q1,q2,-⟩:=hent;by_cases hi:i<es.length;grind;rw[dH oO]at he;rw[dH oO,<-h4]at hp;cases hz:i-es.length with
    |zero=>rw[hz]at he hp;simp at he hp;subst he;subst hp;exact⟨by rw[q1,<-hkey];exact hk0.eG hkk,by simp_all⟩
    |succ z=>simp_all
   |some j=>
    rw[fF]at hent hp;simp only at hp;have :=hent.2 i e he;by_cases e0:i=j;subst e0;rw[ag rfl]at this;have Eb:i<l.length:=by have :=(aJ.1 hp).1;simpa using this
    rw[List.getElem?_set_self Eb]at hp;obtain rfl:=au hp;exact⟨by rw[this.1,<-hkey];exact hk0.eG hkk,by simp_all⟩;grind) (λT z k0 afS i e p he hp hne=>by
   rw[hro T z k0 afS]at hne;rw[<-hl',uE]at hp;cases fF:iy kk (gF l)with
   |none=>rw[fF]at hent hp;simp only at hp;obtain⟨e',rfl,q1,q2,-⟩:=hent;by_cases hi:i<es.length;rw[cG hi]at he;rw[cG oO]at hp;exact hs.ext'.mps.room ob T z k0 l b gu es hl afS hb h2 i e p he hp (by simp_all);grind
   |some j=>rw[fF]at hent hp;simp only at hp;have :=hent.2 i e he;by_cases e0:i=j;grind;rw[af e0]at this;rw[CI (eu e0)]at hp;exact hs.ext'.mps.room ob T z k0 l b gu es hl afS hb h2 i e p this hp (by simp_all))
  refine⟨λf _=>Env.gi f,?_⟩;rw[Oper.semAt_eq _ _ _ (λc=>by grind),ahE];exact hn _ _ _ h ⟨G,hg.put o.dst (v:=undef) (.p _ _ (dA.eW (bk:=G.bk) [] [] rfl (λi c x h _=>by simp_all)))⟩
 simp_all;simp_all;simp_all
theorem Er {d o:Nat}{z:AV}{cells:List FV}:∀{l:List (Nat×List FV)},Qv.getObj (Eg d z l) o=some cells->∃cs,Qv.getObj l o=some cs/\cells=FV.XS d z cs:=by
 intro l;induction l with
 |nil=>intro h;cases h
 |cons p l ih=>obtain⟨u,i⟩:=p;intro h;simp only[Eg,Qv.getObj]at h⊢;grind
theorem HQ {d o:Nat}{z:AV}{l:List (Nat×List FV)}(h:Qv.getObj l o=none):Qv.getObj (Eg d z l) o=none:=by
 cases h':Qv.getObj (Eg d z l) o with
 |none=>rfl
 |some cs=>obtain⟨cs',h2,-⟩:=Er h';simp_all
theorem bt.Sc (hs:bt E G S a w){d:Nat}{ks vs:List AV}(hf:Yh S d ks vs):∃G',bt E G' (S.Oq d (.mp ks vs)) a w/\∀v x,aT G w v x->aT G' w v (x.fm d (.mp ks vs)):=by
 obtain⟨l,hl,rfl,hv⟩:=hf.mp;have hm:=hs.ext'.mps;obtain⟨hdn,hl⟩:=VE hl;obtain⟨B,gu,es,h1,h2,h3,h4,h5⟩:=hm.at_ d l hl;obtain⟨q1,q2,-⟩:=hm.loc d B h1;have q1:=E.HA q1 hdn;obtain⟨hlen,tN⟩:=FV.iC hv;let G':bf:={G with bk:=λb o=>G.bk b o\/(b=B/\o=0),mp:=λo=>if o=d then none else G.mp o};have afT:=(bq.1 h2).1;have kp:∀{v:Value}{y:AV},dA G.bk w v y->dA G'.bk w v y:=λhv=>hv.keep (λb o h=>.inl h) (λ_ _ _ _ h=>h) (.refl _ _);have fmp:∀o b,G'.mp o=some b->o≠d/\G.mp o=some b:=λo b h=>by grind
 have hz:dA G'.bk w (.map (some B)) (.mp (gF l) vs):=by
  refine .mp B gu es (gF l) vs (by rw[nV,ah];omega) (by rw[hlen,zZ,ah];omega) (.inr ⟨rfl,rfl⟩) h2 h3 (λi e x he hx=>?_) (λi e x he hx=>?_);rw[nV,aN]at hx;grind;obtain⟨y,hy,hyx⟩:=tN i x hx;rw[zZ,aN]at hy;cases hp:l[i]?with
  |none=>simp_all
  |some p=>simp only[hp,eM,bN]at hy;subst hy;exact kp ((h5 i e p he hp).2.eG hyx)
 have up:∀v x,aT G w v x->aT G' w v (x.fm d (.mp (gF l) vs)):=λv x hv=>hv.fm (λb o h=>.inl h) (λb hb=>by simp_all) (λ_ _ h=>h) (λ_ _ h=>h) (λ_ _ h=>h) (λo b hne h=>by grind) (λ_ _ h=>h);have HB:lY (FV.fm d (.mp (gF l) vs)) G G' S (S.Oq d (.mp (gF l) vs)) w:=by refine⟨λ_=>rfl,λo l' h=>?_,λq x h=>⟨h,λ_ h=>h⟩,λo b h=>(fmp o b h).2,λ_ _ h=>h,λb i es' k hb ho h=>?_,λ_ h=>.inl h,λ_ _ h=>.inl h,λ_ _ h=>h⟩;obtain⟨l0,g1,g2⟩:=wG h;obtain⟨g3,g4⟩:=qa g1;grind;rcases h with h|⟨rfl,-⟩;omega;obtain⟨o,ho⟩:=ho;obtain⟨g1,g2⟩:=fmp o _ ho;exact absurd (hm.inj o d _ g2 h1) g1
 refine⟨G',⟨hs.kept,hs.size,hs.ext'.move (S':=S.Oq d (.mp (gF l) vs)) (FV.fm d (.mp (gF l) vs)) rfl rfl rfl up (.refl _) HB,?_,?_,?_,λi hi=>up _ _ (hs.tmps i hi),λo cs ho=>?_,λo b ho=>?_,hs.eY,λo t b r h h'=>lG.mono (hs.cz o t b r h h') (λbs q=>⟨bs,q⟩) (λcs q=>?_),λt b s e T h=>?_,hs.er⟩,up⟩;refine hs.iX.keep rfl rfl (λo bs q=>⟨q,rfl,rfl⟩) (λo _ _ q=>HQ q) (λ_ _ e=>e) (aA _) (λ_ _ _ _ _ _=>rfl) (λ_ _ _=>rfl) (λo r i e hi=>?_) (λ_ _ o' _ e=>e) (λ_ _ t q _ e=>⟨t,q,e⟩);rcases hi with hi|⟨rfl,-⟩;omega;obtain⟨cs,T,fr,g⟩:=hs.iX.di o _ e;simp_all;rintro b o (h|⟨rfl,-⟩);exact hs.nN b o h;omega;rintro b o (h|⟨rfl,-⟩);exact hs.fh b o h;omega;obtain⟨cs0,g2,rfl⟩:=Er ho;obtain⟨b,g3,g4⟩:=hs.aI o cs0 g2;refine⟨b,g3,λi x hx=>?_⟩;rw[FV.vX,aN]at hx;grind;obtain⟨k1,k2,k3⟩:=hs.gG o b ho;refine⟨k1,k2,λi=>⟨?_,(k3 i).2⟩⟩;rintro(h|⟨rfl,-⟩);simp_all;exact hm.apart d o _ h1 ho;obtain⟨cs0,g2,rfl⟩:=Er q;exact⟨cs0,g2,by rw[FV.vX,ah]⟩;obtain⟨k1,k2,⟨cs,fr,kt,ku⟩,k3⟩:=hs.fQ t b s e T h;grind
theorem bt.Oq (hs:bt E G S a w){d:Nat}{ks vs:List AV}(hf:Yh S d ks vs):∃G',bt E G' (S.Oq d (.mp ks vs)) a w:=let⟨G',h,_⟩:=hs.Sc hf;⟨G',h⟩
end
end Qv
