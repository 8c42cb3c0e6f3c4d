/- Part 8 of the proof: its lemmas. No condition. -/
import Derived.Test.YtlbofhenpfnenaaGreatDoorU7
set_option maxRecDepth 10000
set_option maxHeartbeats 80000000
set_option linter.all false
namespace Qv
open Go Go.RowKit
section
variable {E:Env}{G:aV}{S:ai}{a:Act}{w:World}{o:Oper}
def Env.kX (E:Env):Fence:=match E.mD with|none=>Fence.wide|some l=>Fence.wide.inRound l
theorem Env.gd (f:FuncId):E.kX.fn f:=by unfold Env.kX;split<;>trivial
theorem Env.lR:E.kX.depth=none:=by unfold Env.kX;split<;>rfl
theorem Env.zv:E.kX.round=E.mD:=by unfold Env.kX;split<;>rename_i h<;>rw[h]<;>rfl
theorem oK {P:Program}{f:FuncId}{args:Array Value}{w:World}{R:Ending->World->Prop}(h:Calls P f args w R):CallsIn E.kX 0 P f args w R:=by unfold Env.kX;split;exact callsIn_wide.2 h;exact CallsIn.inRound _ (callsIn_wide.2 h)
abbrev Dd (E:Env)(o:Oper)(a:Act)(w:World)(next:Act->World->Prop)(Q:Exit->Act->World->Prop):Prop:=o.wpIn E.kX 0 E.C.P a w next Q
theorem Xn {P:Program}{ρ:Operand->Value}{v:Value}{w':World}(h:(execOp ρ o).run P w=.ok (.value v) w'):∀c,o.op≠.defer c:=λc hc=>by unfold execOp at h;rw[hc]at h;simp only[Sem.run_bind]at h;cases hr:(resolve ρ c o.type).run P w<;>simp[hr,Result.andThen]at h
theorem wp_value {v:Value}{w':World}{next:Act->World->Prop}{Q:Exit->Act->World->Prop}(h:(execOp a.eval o).run E.C.P w=.ok (.value v) w')(hn:next (a.put o.dst v) w'):Dd E o a w next Q:=by refine⟨λf _=>Env.gd f,?_⟩;rw[Oper.semAt_eq _ _ _ (Xn h),h];exact hn
theorem wp_of_yields {K:FV->Prop}(hs:bp E G S a w)(h:Yields E G a w o K){next:Act->World->Prop}{Q:Exit->Act->World->Prop}(hn:∀x v G' w',K x->bp E G' S a w'->aT G' w' v x->next (a.put o.dst v) w'):Dd E o a w next Q:=by obtain⟨v,x,w',h1,h2,h3,h4⟩:=h;exact wp_value h1 (hn x v _ w' h2 (hs.ext h3) h4)
theorem uc (hs:bp E G S a w)(args:List Operand):(args.map a.eval).length=(args.map S.val).length/\∀(i:Nat)(c:Value)(x:FV),(args.map a.eval)[i]?=some c->(args.map S.val)[i]?=some x->aT G w c x:=by
 refine⟨by simp,λi c x hc hx=>?_⟩;rw[aR]at hc hx;cases h0:args[i]?with
 |none=>simp_all
 |some y=>simp[h0]at hc hx;subst hc;subst hx;exact aT.val hs y
theorem mO {cs:List Value}{xs:List FV}{ys:List AV}(h:cs.length=xs.length/\∀(i:Nat)(c:Value)(x:FV),cs[i]?=some c->xs[i]?=some x->aT G w c x)(hy:FV.fD xs=some ys):cs.length=ys.length/\∀(i:Nat)(c:Value)(y:AV),cs[i]?=some c->ys[i]?=some y->dh G.aZ w c y:=by obtain⟨h1,h2⟩:=FV.jg hy;refine⟨oO,λi c y hc hy=>?_⟩;obtain⟨x,hx,hxy⟩:=h2 i y hy;exact(h.2 i c x hc hx).fh hxy
theorem xo {aZ:Nat->Nat->Prop}{cs ds:List Value}{xs ys:List AV}(h:cs.length=xs.length/\∀(i:Nat)(c:Value)(x:AV),cs[i]?=some c->xs[i]?=some x->dh aZ w c x)(h':ds.length=ys.length/\∀(i:Nat)(c:Value)(x:AV),ds[i]?=some c->ys[i]?=some x->dh aZ w c x):(cs++ds).length=(xs++ys).length/\∀(i:Nat)(c:Value)(x:AV),(cs++ds)[i]?=some c->(xs++ys)[i]?=some x->dh aZ w c x:=by grind
theorem vQ {P:Program}{ρ:Operand->Value}{f:Operand}{args:Array Operand}{types:Array TypeId}{g:FuncId}{first captured:Array Value}{fn:Func}(ho:o.op=.call ⟨.value f,args,types⟩)(hf:ρ f=.func (.func g) first captured)(h1:P.funcs[g]?=some fn)(h2:fn.body.isNone=false)(h3:(fn.name== "runtime.NumGoroutine")=false):(execOp ρ o).run P w=.ok (.enter g (first++args.map ρ++captured)) w:=by
 have h3':¬fn.name= "runtime.NumGoroutine" :=by simpa using h3
 have h2':¬fn.body=none:=λe=>by simp_all
 simp[execOp,ho,resolve,hf,Deferred.ofValue,invoke,callFunc,h1,h2',h3']
theorem wp_call (hs:bp E G S a w){f:Operand}{args:Array Operand}{types:Array TypeId}{g:FuncId}{first captured:Array Value}{xs:List AV}{R:cQ->Prop}(ho:o.op=.call ⟨.value f,args,types⟩)(hf:a.eval f=.func (.func g) first captured)(hr:(first++args.map a.eval++captured).toList.length=xs.length/\∀(i:Nat)(c:Value)(x:AV),(first++args.map a.eval++captured).toList[i]?=some c->xs[i]?=some x->dh G.aZ w c x)(hc:ak E.C g xs R){next:Act->World->Prop}{Q:Exit->Act->World->Prop}(hn:∀r v w',R r->Below w.heap.size w w'->nk G.aZ w.heap.size w' v r->next (a.put o.dst v) w'):Dd E o a w next Q:=by obtain⟨⟨fn,h1,h2,h3⟩,hc⟩:=hc;have hJ:=hs.J;have :=hc G.aZ w (first++args.map a.eval++captured).toList hJ.1 hJ.2 hs.fo hr.1 hr.2;refine⟨λf _=>Env.gd f,?_⟩;rw[Oper.semAt_eq _ _ _ (λc=>by simp_all),vQ ho hf h1 h2 h3,Oper.uponIn_enter];refine⟨λh=>(by rw[Env.lR]at h;grind),oK (Calls.mono this ?_)⟩;grind
theorem aad {α:Type}{e:Nat}:∀{l:List (List α)},(∀zs,zs∈l->zs.length=e)->∀{i j:Nat}{zs:List α}{z:α},l[i]?=some zs->zs[j]?=some z->l.flatten[i*e+j]?=some z:=by
 intro l;induction l with
 |nil=>simp_all
 |cons y ys ih=>
  intro he i j zs z h1 h2;have hy:=he y (by simp);rw[nM];cases i with
  |zero=>grind
  |succ i=>grind
theorem nk.To {G:aV}{B:Nat}{w':World}{v:Value}{r:cQ}(h:nk G.aZ B w' v r):aT {G with aZ:=λb o=>G.aZ b o\/(B<=b/\b<w'.heap.size)} w' v r.plain:=by
 have conv:∀{qN:Nat->Nat->Prop}{v:Value}{x:AV},(∀b o,qN b o->G.aZ b o\/B<=b)->dh qN w' v x->dh (λb o=>G.aZ b o\/(B<=b/\b<w'.heap.size)) w' v x:=λh1 h2=>h2.yZ (λb o c hi hc=>⟨(h1 b o hi).imp id λh=>⟨h,World.block_lt_of_cell? w' _ hc⟩,hc⟩) λb es k hi hb=>⟨(h1 b 0 hi).imp id λh=>⟨h,(bB.1 hb).1⟩,hb⟩;cases r with
 |val x=>exact .p _ _ (conv (λb o h=>h) h)
 |fresh T bP xs=>refine .p _ _ ?_;obtain⟨ad,c,rfl,h|⟨b,off,cs,fr,-,-,-,-,-,-,h⟩⟩:=h;exact conv (λb o h=>h) h.2.2;grind
 |own rest T bP xss=>
  obtain⟨b,c,cs,fr,us,rfl,h1,h2,h3,h4,h5,h6,h7,h8,h9,h10⟩:=h;have hI:∀b' o,ZC G.aZ B b b' o->G.aZ b' o\/B<=b':=λb' o h=>h.imp id λh=>h.1;have SR:dh (λb o=>G.aZ b o\/(B<=b/\b<w'.heap.size)) w' (.slice (some ⟨b,0,none⟩) xss.length c) (.sl xss):=dh.PZ (bP:=bP) h4 (λi ys hys=>(h5 ys (bz hys)).1) λi ys j y q1 q2=>by have q3:=aad (λzs hz=>(h5 zs hz).1) q1 q2;obtain⟨u,q4,q5⟩:=h9 _ _ q3;exact⟨u,(h5 ys (bz q1)).2 y (bz q2),by simp_all,.inr ⟨h1,h2⟩,conv hI q5⟩
  cases rest with
  |none=>exact .p _ _ SR
  |some r=>obtain⟨g1,g2⟩:=h10 r rfl;refine .p _ _ (.eV (_::us) (_::r) (by grind) λi u x q1 q2=>?_);grind
 |vf x=>refine aT.yZ (G:=bare (mF G.aZ B)) h (λb o c hi hc=>⟨?_,hc⟩) (λb es k hi hb=>⟨hi.imp id λh=>⟨h,(bB.1 hb).1⟩,hb⟩) (λo b h=>by cases h) (λt r h=>by cases h) (λl k h=>by cases h) (λl k h=>by cases h) (λl k h=>by cases h);exact hi.imp id λh=>⟨h,World.block_lt_of_cell? w' _ hc⟩
theorem Tp {v:Value}{g:FuncId}{first captured:List AV}(h:aT G w v (.p (.fn (.func g) first captured))):∃fs cs:List Value,v=.func (.func g) fs.toArray cs.toArray/\(fs.length=first.length/\∀(i:Nat)(c:Value)(x:AV),fs[i]?=some c->first[i]?=some x->dh G.aZ w c x)/\(cs.length=captured.length/\∀(i:Nat)(c:Value)(x:AV),cs[i]?=some c->captured[i]?=some x->dh G.aZ w c x):=by
 cases h with
 |p v x h=>
  cases h with
  |fn f fs cs first captured h1 h2 h3 h4=>grind
theorem NB {v:Value}{g:FuncId}{first captured:List FV}(h:aT G w v (.fn (.func g) first captured)):∃fs cs:List Value,v=.func (.func g) fs.toArray cs.toArray/\(fs.length=first.length/\∀(i:Nat)(c:Value)(x:FV),fs[i]?=some c->first[i]?=some x->aT G w c x)/\(cs.length=captured.length/\∀(i:Nat)(c:Value)(x:FV),cs[i]?=some c->captured[i]?=some x->aT G w c x):=by
 cases h with
 |fn f fs cs first captured h1 h2 h3 h4=>grind
theorem lS {cs ds:List Value}{xs ys:List FV}(h:cs.length=xs.length/\∀(i:Nat)(c:Value)(x:FV),cs[i]?=some c->xs[i]?=some x->aT G w c x)(h':ds.length=ys.length/\∀(i:Nat)(c:Value)(x:FV),ds[i]?=some c->ys[i]?=some x->aT G w c x):(cs++ds).length=(xs++ys).length/\∀(i:Nat)(c:Value)(x:FV),(cs++ds)[i]?=some c->(xs++ys)[i]?=some x->aT G w c x:=by grind
theorem Xo (hs:bp E G S a w){f:Operand}{args:Array Operand}{types:Array TypeId}(ho:o.op=.call ⟨.value f,args,types⟩){KK:FuncId->List AV->Prop}(h:match S.val f with
 |.p (.fn (.func g) first captured)=>match FV.fD (args.toList.map S.val)with|some xs=>KK g (first++xs++captured)|none=>False
 |.fn (.func g) first captured=>match FV.fD (first++args.toList.map S.val++captured)with|some xs=>KK g xs|none=>False
 |_=>False):∃g first captured xs,a.eval f=.func (.func g) first captured/\KK g xs/\((first++args.map a.eval++captured).toList.length=xs.length/\∀(i:Nat)(c:Value)(x:AV),(first++args.map a.eval++captured).toList[i]?=some c->xs[i]?=some x->dh G.aZ w c x):=by have hf:=aT.val hs f;generalize S.val f=vf at h hf;split at h;split at h;rename_i xs hxs;obtain⟨fs,cs,hv,h1,h2⟩:=Tp hf;refine⟨_,fs.toArray,cs.toArray,_,hv,h,?_⟩;have h3:=xo (xo h1 (mO (uc hs args.toList) hxs)) h2;grind;simp_all;split at h;rename_i xs hxs;obtain⟨fs,cs,hv,h1,h2⟩:=NB hf;refine⟨_,fs.toArray,cs.toArray,_,hv,h,?_⟩;have h3:=mO (lS (lS h1 (uc hs args.toList)) h2) hxs;grind;simp_all;simp_all
theorem wp_callV (hs:bp E G S a w){f:Operand}{args:Array Operand}{types:Array TypeId}(ho:o.op=.call ⟨.value f,args,types⟩){K:FV->Prop}(h:Av E.C (S.val f) (args.toList.map S.val) K){next:Act->World->Prop}{Q:Exit->Act->World->Prop}(hn:∀x v G' w',K x->bp E G' S a w'->aT G' w' v x->next (a.put o.dst v) w'):Dd E o a w next Q:=by obtain⟨g,first,captured,xs,hv,⟨R,hc,hk⟩,hr⟩:=Xo hs ho (KK:=λg xs=>∃R,ak E.C g xs R/\∀r,R r->K r.plain) (by unfold Av at h;omega);refine wp_call hs ho hv hr hc λr v w' hR hb hok=>?_;exact hn _ v _ w' (hk r hR) (hs.ext hb) hok.To
theorem Gb (hs:bp E G S a w){K:FV->Prop}(h:ew E.C S o.op K){next:Act->World->Prop}{Q:Exit->Act->World->Prop}(hn:∀x v G' w',K x->bp E G' S a w'->aT G' w' v x->next (a.put o.dst v) w'):Dd E o a w next Q:=by
 cases hop:o.op with
 |move x=>rw[hop]at h;simp only[ew,force_eq]at h;exact wp_of_yields hs (Yields.same (by simp[execOp,hop]) h (aT.val hs x)) hn
 |assign x=>rw[hop]at h;simp only[ew,force_eq]at h;exact wp_of_yields hs (Yields.same (by simp[execOp,hop]) h (aT.val hs x)) hn
 |pick c x y=>rw[hop]at h;exact wp_of_yields hs (Qh hs hop h) hn
 |binOp op t x y yt=>rw[hop]at h;simp only[ew]at h;split at h;rename_i hy;exact wp_of_yields hs (Qb hs hop hy h) hn;split at h;rename_i hy;exact wp_of_yields hs (Qd hs hop hy h) hn;exact wp_of_yields hs (Tl hs hop h) hn
 |unOp op t x=>rw[hop]at h;exact wp_of_yields hs (Qi hs hop h) hn
 |convert src dst x=>rw[hop]at h;exact wp_of_yields hs (Ik hs hop h) hn
 |makeInterface t x=>rw[hop]at h;exact wp_of_yields hs (zo hs hop h) hn
 |makeFunc fn first captured=>rw[hop]at h;simp only[ew,jY]at h;exact wp_of_yields hs (yC hs hop h) hn
 |build t parts=>rw[hop]at h;exact wp_of_yields hs (Ny hs hop h) hn
 |buildSlice t len parts=>rw[hop]at h;exact wp_of_yields hs (Db hs hop h) hn
 |load t x=>rw[hop]at h;exact wp_of_yields hs (Qg hs hop h) hn
 |nilCheck x=>rw[hop]at h;exact wp_of_yields hs (GV hs hop h) hn
 |fieldAddr s x f=>rw[hop]at h;exact wp_of_yields hs (ET hs hop h) hn
 |field s x f=>rw[hop]at h;exact wp_of_yields hs (Nv hs hop h) hn
 |indexAddr t x i=>rw[hop]at h;exact wp_of_yields hs (EU hs hop h) hn
 |index t x i=>rw[hop]at h;exact wp_of_yields hs (Nw hs hop h) hn
 |lookup t x i ok=>rw[hop]at h;exact wp_of_yields hs (KN hs hop h) hn
 |slice t x lo hi mx=>
  rw[hop]at h;cases mx with
  |none=>exact wp_of_yields hs (Nx hs hop h) hn
  |some m=>exact h.elim
 |extract x i=>rw[hop]at h;exact wp_of_yields hs (Il hs hop h) hn
 |call c=>
  rw[hop]at h;obtain⟨callee,args,types⟩:=c;cases callee with
  |value f=>exact wp_callV hs hop h hn
  |invoke r m=>exact h.elim
  |builtin b=>exact wp_of_yields hs (zq hs hop h) hn
 |_=>rw[hop]at h;exact h.elim
end
end Qv
