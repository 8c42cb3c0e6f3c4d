/- Part 6 of the proof: its lemmas. No condition. -/
import Derived.Test.YtiboombocnfngaaGreatDoorY5
import Derived.Sort.LoopGhostIn
import Derived.OpenShut
import Derived.RowKit
import Derived.ChangeBears
import Derived.Below
import Derived.Carry
import Derived.ChangeOld
import Derived.ChangeSame
import Derived.Lib.LaidTab
import Derived.Test.YtiboombocnfngaaGreatDoorProg
import Derived.KernelRfl
import Derived.Lib.ItoaNum
set_option maxRecDepth 10000
set_option maxHeartbeats 80000000
set_option linter.all false
namespace Qv
open Go Go.RowKit
section
variable {E:Env}{G:aZ}{S:ag}{a:Act}{w:World}
theorem JS (hs:bp E G S a w)(fn:FuncId)(ps:Array Tmp)(assign body:Code):∃(l:Nat) (ms:List Nat) (w1:World) (rec:Loop),(Instr.enterLoop fn a.tmps ps assign body E.lX).run E.C.P w=.ok (l,ms.map mark) w1/\Below w.heap.size w w1/\rec.tmps=a.tmps/\rec.params=ps/\rec.assign=assign/\rec.body=body/\rec.state=.ready/\rec.pending=none/\w1.heap[l]?=some (.loop rec)/\w.heap.size<=l/\(∀m,m∈ms->w.heap.size<=m/\w1.heap[m]?=some (.deferred (some [])))/\ms.Nodup:=by
 cases hr:E.lX with
 |none=>refine⟨_,[w.heap.size],_,{state:=.ready,pending:=none,fn,tmps:=a.tmps,params:=ps,assign,body,defers:=w.heap.size},run_enterLoop_outer fn a.tmps ps assign body,?_,rfl,rfl,rfl,rfl,rfl,rfl,?_,oO,λm hm=>?_,by simp⟩;exact((Below.refl _ w).alloc (av _) _).alloc (by simp) _;have :=World.alloc_heap_new (w.alloc (.deferred (some []))) (.loop {state:=.ready,pending:=none,fn,tmps:=a.tmps,params:=ps,assign,body,defers:=w.heap.size});simp_all;obtain rfl:=aL.1 hm;exact⟨av _,(Below.heap_alloc _ _ _ (by simp)).trans (World.alloc_heap_new w _)⟩
 |some l0=>
  obtain⟨i,r,h1⟩:=hs.ext'.lX l0 hr;have hlt:i<S.cm.length:=by rw[hs.ext'.jX];exact(aG.1 h1).1
  obtain⟨h2,h3⟩:=hs.ext'.loops i l0 r _ h1 (an hlt);refine⟨_,[],_,{state:=.ready,pending:=none,fn,tmps:=a.tmps,params:=ps,assign,body,defers:=((S.cm[i]).of r).defers},run_enterLoop_inner h3 fn a.tmps ps assign body,?_,rfl,rfl,rfl,rfl,rfl,rfl,World.alloc_heap_new w _,av _,by simp,by simp⟩;exact(Below.refl _ w).alloc (av _) _
theorem Fx {call:iG}{Y:ov}(dm:mC E.C call)(hY:eA E Y){assign body:Code}(ha:Ic assign)(hb:Ic body){g:Operand}{ps:Array Tmp}{Q:Exit->ag->Prop}(hs:bp E G S a w){f:FuncId}{cs:List Value}{captured:List FV}(hg:a.eval g=.func (.func f) #[] cs.toArray)(hcs:cs.length=captured.length)(nO:∀(i:Nat)(c:Value)(x:FV),cs[i]?=some c->captured[i]?=some x->aO G w c x)(h:call (vG Y (xD E.C call Y assign) (xD E.C call Y body) ps.toList S.cm.length S.bD.length) f (.lM (1000000+S.cm.length)::FV.dJ (1000000+S.cm.length) captured) (λ_ S'=>BT S.cm.length Q S') {S.kill (1000000+S.cm.length)with cm:=S.cm++[.ready]}):(Code.rangeFunc g ps assign body).wpIn E.je 0 E.C.P (λe a' w'=>∃S',Q e S'/\mY E S' a' w') a w:=by
 refine wpIn_rangeFunc λfn hfn=>?_;obtain⟨l,ms,w1,rec,hrun,Gg,hr1,Zm,hr3,hr4,hr5,hr6,hl,akq,xo,JP⟩:=JS hs fn ps assign body;have hs1:=hs.ext Gg;have akr:∀v x,aO G w v x->aO {G with bh:=λb o=>G.bh b o\/(w.heap.size<=b/\b<w1.heap.size)} w1 v x:=λv x hv=>hv.keep (λb o hi=>.inl hi) (λb o c hi hc=>by rw[Gg.cell (p:=⟨b,o,none⟩) (hs.fo b o hi)];omega) ((fU.BV Gg).oV _) (λ_ _ e=>e) (λ_ _ e=>e);obtain⟨ms0,hm1,hm2,hm3⟩:=hs.ext'.marks;have hold:∀r,r∈ms0++E.fixed->r<w.heap.size:=by grind
 obtain⟨G1,hs2,YU,hup⟩:=hs1.Zk (l:=l) (rec:=rec) (ms:=ms) (by rw[Pu rec hr5 hr6];omega) (bL hs.kept.size akq) (λi k r q=>by
  have hlt:i<S.cm.length:=by rw[hs.ext'.jX];exact(aG.1 q).1
  obtain⟨-,q2⟩:=hs.ext'.loops i k r _ q (an hlt);grind) (λm hm=>⟨bL hs.kept.size (xo m hm).1,(xo m hm).2⟩) (by rw[hm1,lT];grind);have hlv:S.cm.length=E.loops.length:=hs.ext'.jX;have Rw:S.bD.length=E.bD.length:=hs.ext'.kX;have hYr:=Pv (E:=E) dm hY ha hb (a1:={a with defers:=ms.map mark++a.defers}) (l:=l) (rec:=rec) (Zl:=marksOf (ms.map mark++a.defers)++E.fixed) hr1 hr3 hr4 hr5 hr6;rw[Zm,<-hlv,<-Rw]at hYr;obtain⟨⟨func,hf1,hf2,hf3⟩,afy⟩:=dm {E with loops:=E.loops++[(l,rec)]} rfl _ f _ _ G1 _ _ w1 (.func (.yield l) #[] #[]::cs) hs2 hYr h (by simp[FV.fE,hcs]) (λi c x hc hx=>by
  cases i with
  |zero=>simp at hc hx;subst hc;subst hx;exact .lM _ l YU
  |succ i=>simp only[mb]at hc hx;rw[FV.fE,aJ]at hx;grind)
 refine⟨l,ms.map mark,w1,{target:=.fn (.func f) cs.toArray,args:=#[.func (.yield l) #[] #[]]},w1,f,(.func (.yield l) #[] #[]::cs).toArray,w1,?_,?_,λf' _=>Env.gd f',?_,λh=>(by rw[Env.kj]at h;grind),Pj (CallsIn.mono afy ?_)⟩;rw[Env.xX];omega;simp only[resolve,hg];simp[go_sem];have h3':¬func.name= "runtime.NumGoroutine" :=by simpa using hf3
 have h2':¬func.body=none:=by grind
 simp[invoke,callFunc,hf1,h2',h3'];rintro e w' ⟨v,x,G',S',rfl,hq,hs',-⟩;unfold BT at hq;have hrn:∀q,E.lX=some q->∃(i:Nat) (r:Loop),E.loops[i]?=some (q,r):=hs.ext'.lX;have fin:∀{st:zq},Hs S'.cm S.cm.length=some st->(st.of rec).state≠.busy->∃w4,(Instr.endLoop l).run E.C.P w'=.ok (st.of rec).pending w4/\bp E G' {S' with cm:=S'.cm.take S.cm.length} {a with defers:=ms.map mark++a.defers} w4:=λ{st} hst hnb=>by rw[hlv]at hst;obtain⟨-,hl4⟩:=hs'.Eu (i:=E.loops.length) (k:=l) (r:=rec) (by simp_all) hst;refine⟨_,run_endLoop hl4 hnb,?_⟩;have :=bp.acF (E:=E) hs' hst hrn (o':={st.of rec with state:=.exhausted});simp_all
 split at hq;rename_i hst;obtain⟨w4,he,hs4⟩:=fin hst (by simp[zq.of]);exact⟨_,w4,he,_,hq,G',hs4⟩;rename_i hst;obtain⟨w4,he,hs4⟩:=fin hst (by simp[zq.of]);exact⟨_,w4,he,wpIn_ret ⟨_,hq,G',hs4⟩⟩;rename_i id hst;obtain⟨w4,he,hs4⟩:=fin hst (by simp[zq.of]);exact⟨_,w4,he,wpIn_exit ⟨_,hq,G',hs4⟩⟩;simp_all
theorem sU (c:Code):Ic c:=by
 induction c with
 |skip=>intro E call Y dm hY Q S a w h hs;exact wpIn_skip ⟨S,h,hs⟩
 |region id ops draw=>intro E call Y dm hY Q S a w h hs;unfold xD at h;split at h;obtain⟨T,hw,h⟩:=h;exact iR dm hY (λS a w hk hs'=>⟨S,hk,hs'⟩) (hs.weaken hw) h;split at h;rcases h with⟨d,Z,qj,hf,h⟩|h;obtain⟨G,hs⟩:=hs;exact iR dm hY (λS a w hk hs'=>⟨S,hk,hs'⟩) (hs.Om hf) h;exact iR dm hY (λS a w hk hs'=>⟨S,hk,hs'⟩) hs h;split at h;rcases h with⟨d,ks,vs,hf,h⟩|h;obtain⟨G,hs⟩:=hs;exact iR dm hY (λS a w hk hs'=>⟨S,hk,hs'⟩) (hs.Oi hf) h;exact iR dm hY (λS a w hk hs'=>⟨S,hk,hs'⟩) hs h;split at h;obtain⟨fr,h⟩:=h;obtain⟨S',h,hs'⟩:=yf fr h hs;exact iR dm hY (λS a w hk hs'=>⟨S,hk,hs'⟩) hs' h;split at h;split at h;exact JR dm hY (λS a w hk hs'=>⟨S,hk,hs'⟩) hs h;exact iR dm hY (λS a w hk hs'=>⟨S,hk,hs'⟩) hs h;exact iR dm hY (λS a w hk hs'=>⟨S,hk,hs'⟩) hs h
 |seq x y ihx ihy=>
  intro E call Y dm hY Q S a w h hs;refine wpIn_seq (wpIn_mono (ihx dm hY (Q:=tR (xD E.C call Y y Q) Q) h hs) ?_);rintro e a' w' ⟨S',hq,hs'⟩;cases e with
  |normal=>exact ihy dm hY hq hs'
  |_=>exact⟨S',hq,hs'⟩
 |cond c x y ihx ihy=>intro E call Y dm hY Q S a w h hs;have hs':=hs;obtain⟨G,hs'⟩:=hs';simp only[xD]at h;have hv:=aO.val hs' c;split at h;rename_i ht;rw[ht]at hv;exact wpIn_cond_true hv.mN (ihx dm hY h hs);rename_i ht;rw[ht]at hv;exact wpIn_cond_false hv.mN (ihy dm hY h hs);simp_all
 |block id c ih=>
  intro E call Y dm hY Q S a w h hs;refine wpIn_block (wpIn_mono (ih dm hY (Q:=Hr id Q) h hs) ?_);rintro e a' w' ⟨S',hq,hs'⟩;cases e with
  |exit n=>simp only[Hr]at hq;simp only[Exit.inBlock];split at hq;rename_i hb;rw[af (aK hb)];grind;rename_i hb;rw[aa (bJ hb)];grind
  |_=>exact⟨S',hq,hs'⟩
 |loop c ih=>
  intro E call Y dm hY Q S a w h hs;obtain⟨α,I,μ,⟨a0,S0,hw0,hI0⟩,round⟩:=h;refine wpIn_loop_ghost (λn a w=>∃x S,I x S/\μ x=n/\mY E S a w) (μ a0) ⟨a0,S0,hI0,rfl,hs.weaken hw0⟩ ?_;rintro n a w ⟨x,S,hI,rfl,hs⟩;refine wpIn_mono (ih dm hY (Q:=tR (λS'=>∃a' tJ,cq S' tJ/\I a' tJ/\μ a'<μ x) Q) (round x S hI) hs) ?_;rintro e a' w' ⟨S',hq,hs'⟩;cases e with
  |normal=>obtain⟨x',tJ,hw,hI',hlt⟩:=hq;exact⟨μ x',hlt,x',tJ,hI',rfl,hs'.weaken hw⟩
  |_=>exact⟨S',hq,hs'⟩
 |exit id=>intro E call Y dm hY Q S a w h hs;exact wpIn_exit ⟨S,h,hs⟩
 |ret=>intro E call Y dm hY Q S a w h hs;exact wpIn_ret ⟨S,h,hs⟩
 |rangeFunc g ps assign body iha ihb=>
  intro E call Y dm hY Q S a w h hs;obtain⟨G,hs⟩:=hs;simp only[xD,Oh]at h;have hv:=aO.val hs g;generalize KL:a.eval g=v at hv;split at h;rename_i f captured hf;rw[hf]at hv;obtain⟨fs,cs,rfl,h1,h2⟩:=RP hv;have :fs=[]:=by grind
  subst this;have h3:=yg (G:=G) h2 rfl;have hk:FV.dJ (1000000+S.cm.length) (aI captured)=aI captured:=by rw[FV.fE,er];simp[FV.kill]
  exact Fx dm hY iha ihb hs KL h3.1 h3.2 (by simp_all);rename_i f captured hf;rw[hf]at hv;obtain⟨fs,cs,rfl,h1,h2⟩:=ME hv;have :fs=[]:=by grind
  subst this;exact Fx dm hY iha ihb hs KL h2.1 h2.2 h;simp_all
 |_=>intro E call Y dm hY Q S a w h hs;exact h.elim
theorem uQ {n:Nat}{vals:List Value}{args:List FV}(hlen:vals.length=args.length)(hn:args.length<=n)(hr:∀(i:Nat)(v:Value)(x:FV),vals[i]?=some v->args[i]?=some x->aO G w v x):(vals.toArray++Array.replicate (n-vals.toArray.size) undef).size=n/\∀i,i<n->aO G w ((vals.toArray++Array.replicate (n-vals.toArray.size) undef).getD i undef) (tU args i):=by
 refine⟨by simp_all,λi hi=>?_⟩;have uJ:(vals.toArray++Array.replicate (n-vals.toArray.size) undef).getD i undef=(vals[i]?).getD undef:=by rw[CD];by_cases hlt:i<vals.length;simp_all;simp_all
 rw[uJ];unfold tU;by_cases hlt:i<args.length;grind;rw[nt oO,nt oO];exact jD _ _
theorem yq (C:Ctx):∀k,mC C (Yw C k)
 |0=>λE hC Y g args K G S a w vals hs hY h=>h.elim
 |k+1=>by
  intro E hC Y g args K G S a w vals hs hY h hlen hr;subst hC;obtain⟨fn,hf,hb,hname,hn,h⟩:=h;obtain⟨c,hc⟩:=nw.1 hb;rw[hc]at h;refine⟨⟨fn,hf,by simp_all,hname⟩,?_⟩;obtain⟨hsz,ht⟩:=uQ (n:=fn.ntmps) hlen (gW hn) hr;have hs1:=hs.enter (lX:=none) hsz ht (λl h=>by grind);obtain⟨ms,xo,-,-⟩:=hs.ext'.marks;refine callsIn_of_wp_marks hf hc trivial ?_ rfl;have :=sU c (E:=E.push a) (yq E.C k) hY h ⟨_,hs1⟩;refine wpIn_mono this ?_;have fin:∀{S':ag}{a':Act}{w':World},qk E.C S' fn.results.toList (λvs=>S'.leave (K (JH vs)))->mY (E.push a) S' a' w'->LeavesInM Fence.wide 0 E.C.P fn a'.tmps (λe w'=>∃v x G' S',e=.returned v/\K x S'/\bp E G' S' a w'/\aO G' w' v x) a'.defers .returning w':=λ{S' a' w'} hq ⟨G',hs'⟩=>by obtain⟨ms',hm',-,-⟩:=hs'.ext'.marks;rw[hm'];refine zG (E:=E.push a) ms' rfl hs' rfl hm' λG2 a2 w2 hs2 ht2 hd2=>?_;obtain⟨vs,xs,r1,r2,r3,r4,r5⟩:=nv hs2 _ _ hq;obtain⟨f,r,hf',hK⟩:=Et r2;have hlv:=bp.leave (E:=E) (a:=a) (lX:=none) (ms:=ms) hs2 hf' xo hs.ext'.lX;rw[<-ht2];exact⟨_,kS fn a2.tmps E.C.P w2 r1,_,_,G2,_,rfl,hK,hlv,zF r4 r5⟩
  rintro e a' w' ⟨S',hq,hs'⟩;cases e with
  |normal=>exact fin hq hs'
  |ret=>exact fin hq hs'
  |_=>exact hq.elim
theorem ud (E:Env):eA E tg:=λ_ _ _ _ _ _ _ _ _ _ _ _ _ _ _ h=>h.elim
theorem CG {G:aZ}{w:World}(hs:bp E G S a w){v:Value}{x:AV}(h:dh G.bh w v x):dh (lq E.Ec E.w0.heap.size) w v x:=sn hs h
abbrev acH {C:Ctx}{bh:Nat->Nat->Prop}{w:World}(hJ:C.J w/\oR bh w)(hn:C.mD<=w.heap.size):Env:={C:=C,w0:=w,Ec:=bh,hJ:=hJ.1,hn:=hn,lX:=none,bD:=[],loops:=[],fixed:=[]}
theorem akv {C:Ctx}{bh:Nat->Nat->Prop}{w:World}{n:Nat}{args:List AV}{vs:List Value}(hJ:C.J w/\oR bh w)(hn:C.mD<=w.heap.size)(hi:∀b o,bh b o->b<w.heap.size)(hlen:args.length<=n)(hl:vs.length=args.length)(hr:∀(i:Nat)(v:Value)(x:AV),vs[i]?=some v->args[i]?=some x->dh bh w v x):bp (acH hJ hn) (bare bh) (An n args) {tmps:=vs.toArray++Array.replicate (n-vs.toArray.size) undef,defers:=[]} w:=by
 have hg:∀i:Nat,(aI args)[i]?=args[i]?.map .p:=λi=>by rw[er,aJ]
 obtain⟨hsz,ht⟩:=uQ (G:=bare bh) (w:=w) (n:=n) (vals:=vs) (args:=aI args) (by rw[iQ,hl]) (by rw[iQ];omega) λi v x h1 h2=>by rw[hg]at h2;obtain⟨y,h3,rfl⟩:=wg.1 h2;exact .p _ _ (hr i v y h1 h3)
 refine⟨⟨rfl,rfl,rfl,av _,λ_ _ _=>rfl,λk _ _ _ hk=>by simp_all⟩,hsz,⟨⟨(λo l h=>by cases h),(λo b h=>by cases h),(λo o' b h=>by cases h),(λq x h=>by cases h),(λq r h=>by cases h),(λq q' r h=>by cases h),(λo o' b h=>by cases h),(λo T z k l b gm es h=>by cases h)⟩,rfl,λi vs fr h=>by grind,rfl,λi k r st h=>by grind,λi j k r r' h=>by grind,λi k r h=>by grind,λl h=>by grind,⟨[],rfl,by simp,by simp⟩,hJ.2⟩,⟨(λo bs h=>by cases h),(λo r h=>by cases h),(λo r h=>by cases h)⟩,λb o h=>.inl h,hi,λi hi'=>?_,(λo cells ho=>by cases ho),(λo b h=>by cases h),(λo o' b h=>by cases h),(λo t b r h=>by cases h),(λt b s e T h=>by cases h),(λt t' b r r' h=>by cases h)⟩;have :=ht i hi';simp only[tU,hg]at this;simp only[An];grind
theorem xq {C:Ctx}{call:iG}(hco:mC C call){f:FuncId}{fn:Func}{c:Code}{args:List AV}{R:fN->Prop}(hf:C.P.funcs[f]?=some fn)(hb:fn.body=some c)(hname:(fn.name== "runtime.NumGoroutine")=false)(hlen:args.length<=fn.ntmps)(h:xD C call tg c (tV C fn.results.toList R) (An fn.ntmps args)):au C f args R:=by
 refine⟨⟨fn,hf,by simp_all,hname⟩,λbh w vs hJ hn hi hl hr=>?_⟩;have hs:=akv (n:=fn.ntmps) hJ hn hi hlen hl hr;refine(callsIn_wide (n:=0)).1 (callsIn_of_wp_marks hf hb trivial ?_ rfl);refine wpIn_mono (sU c (E:=acH hJ hn) hco (ud _) h ⟨_,hs⟩) ?_;have fin:∀{S':ag}{a':Act}{w':World},xP C fn.results.toList R S'->mY (acH hJ hn) S' a' w'->LeavesInM Fence.wide 0 C.P fn a'.tmps (λe w'=>∃v r,e=.returned v/\R r/\nH bh w.heap.size w' v r/\Below w.heap.size w w') a'.defers .returning w':=λ{S' a' w'} hq ⟨G',hs'⟩=>by obtain⟨ms',hm',-,-⟩:=hs'.ext'.marks;rw[hm'];refine zG (E:=acH hJ hn) ms' rfl hs' rfl hm' λG2 a2 w2 hs2 ht2 hd2=>?_;obtain⟨v,r,h1,h2,h3⟩:=Ib hs2 hq;rw[<-ht2];exact⟨v,h1,v,r,rfl,h2,h3,hs2.kept.os,hs2.kept.tape,hs2.kept.output,hs2.kept.size,λk hk=>hs2.kept.block k hk (by simp)⟩
 rintro e a' w' ⟨S',hq,hs'⟩;cases e with
 |normal=>exact fin hq hs'
 |ret=>exact fin hq hs'
 |_=>exact hq.elim
theorem JT {C:Ctx}{f:FuncId}{fn:Func}{c:Code}{args:List AV}{R:fN->Prop}(hf:C.P.funcs[f]?=some fn)(hb:fn.body=some c)(hname:(fn.name== "runtime.NumGoroutine")=false)(hlen:args.length<=fn.ntmps)(h:ev C c (tV C fn.results.toList R) (An fn.ntmps args)):au C f args R:=xq (yq C 6) hf hb hname hlen h
theorem Pw {C:Ctx}{f:FuncId}{fn:Func}{c:Code}{cells args:List AV}{R:AV->List AV->Prop}(hf:C.P.funcs[f]?=some fn)(hb:fn.body=some c)(hname:(fn.name== "runtime.NumGoroutine")=false)(hlen:args.length+1<=fn.ntmps)(h:ev C c (Ou C fn.results.toList cells.length R) (Uq fn.ntmps cells args)):GY C f cells args R:=by
 refine⟨⟨fn,hf,by simp_all,hname⟩,λbh w b vs hJ hn hi hbn acI hbi hbc hl hr=>?_⟩;let E:Env:={C:=C,w0:=w,Ec:=bh,hJ:=hJ.1,hn:=hn,lX:=none,bD:=[],loops:=[],fixed:=[],own:=[b],hown:=λk hk=>by simp_all,qU:=[(999999,b)],Fi:=λp hp=>by simp_all};let G0:aZ:=⟨bh,λo=>if o=999999 then some b else none,λ_=>none,λ_=>none,λ_=>none,λ_=>none,λ_=>none⟩;have nO:∀(i:Nat)(v:Value)(x:FV),(Value.pointer (some ⟨b,0,none⟩)::vs)[i]?=some v->(FV.ptr 999999 0::aI args)[i]?=some x->aO G0 w v x:=λi v x h1 h2=>by
  cases i with
  |zero=>simp at h1 h2;subst h1;subst h2;exact .ptr _ _ _ rfl
  |succ i=>
   simp only[mb,er,aJ]at h1 h2;cases hq:args[i]?with
   |none=>simp_all
   |some y=>simp[hq]at h2;subst h2;exact .p _ _ (hr i v y h1 hq)
 obtain⟨hsz,ht⟩:=uQ (n:=fn.ntmps) (vals:=Value.pointer (some ⟨b,0,none⟩)::vs) (args:=FV.ptr 999999 0::aI args) (by simp[er,hl]) (by simp[er];omega) nO;have hs:bp E G0 (Uq fn.ntmps cells args) {tmps:=(Value.pointer (some ⟨b,0,none⟩)::vs).toArray++Array.replicate (fn.ntmps-(Value.pointer (some ⟨b,0,none⟩)::vs).toArray.size) undef,defers:=[]} w:=by
  refine⟨⟨rfl,rfl,rfl,av _,λ_ _ _=>rfl,λk cs T fr _ q=>⟨cs,q,rfl⟩⟩,hsz,⟨⟨(λo l h=>by cases h),(λo b h=>by grind),(λo o' b h=>by grind),(λq x h=>by cases h),(λq r h=>by grind),(λq q' r h=>by grind),(λo o' b h=>by grind),(λo T z k l b gm es h=>by grind)⟩,rfl,λi vs fr h=>by grind,rfl,λi k r st h=>by grind,λi j k r r' h=>by grind,λi k r h=>by simp_all,λl h=>by simp_all,⟨[],rfl,by grind,by grind⟩,hJ.2⟩,⟨(λo bs h=>by cases h),(λo r h=>by grind),(λo r h=>by grind)⟩,λb o h=>.inl h,hi,λi hi'=>ht i hi',(λo cs ho=>?_),(λo b2 h=>?_),(λo o' b2 h h'=>?_),(λo t b r _ h=>by grind),(λt b s e T h=>by grind),(λt t' b r r' h=>by grind)⟩;simp only[Uq,getObj]at ho;split at ho;rename_i hq;obtain rfl:=aK hq;obtain rfl:=ak ho;refine⟨b,rfl,λi x hx=>?_⟩;rw[er,aJ]at hx;cases hq:cells[i]?with
  |none=>simp_all
  |some y=>simp[hq]at hx;subst hx;obtain⟨c,h1,h2⟩:=hbc i y hq;exact⟨c,h1,.p _ _ h2⟩
  simp_all;simp only[G0]at h;split at h;rename_i e;obtain rfl:=ak h;exact⟨acI,.inr (by subst e;exact⟨rfl,.head _⟩),hbi⟩;simp_all;grind
 refine(callsIn_wide (n:=0)).1 (callsIn_of_wp_marks hf hb trivial ?_ rfl);refine wpIn_mono (sU c (E:=E) (yq C 6) (ud E) h ⟨_,hs⟩) ?_;have fin:∀{S':ag}{a':Act}{w':World},zx C fn.results.toList cells.length R S'->mY E S' a' w'->LeavesInM Fence.wide 0 C.P fn a'.tmps (λe w'=>∃v r cells',e=.returned v/\R r cells'/\cells'.length=cells.length/\dh (lq bh w.heap.size) w' v r/\(∀(i:Nat)(x:AV),cells'[i]?=some x->∃c,w'.cell? ⟨b,i,none⟩=some c/\dh (lq bh w.heap.size) w' c x)/\w'.os=w.os/\w'.tape=w.tape/\w'.output=w.output/\w.heap.size<=w'.heap.size/\(∀k,k<w.heap.size->k≠b->w'.heap[k]?=w.heap[k]?)/\(∀cs T fr,w.heap[b]?=some (.cells cs T fr)->∃cs',w'.heap[b]?=some (.cells cs' T fr)/\cs'.size=cs.size)) a'.defers .returning w':=λ{S' a' w'} hq ⟨G',hs'⟩=>by obtain⟨ms',hm',-,-⟩:=hs'.ext'.marks;rw[hm'];refine zG (E:=E) ms' rfl hs' rfl hm' λG2 a2 w2 hs2 ht2 hd2=>?_;unfold zx at hq;obtain⟨vs,xs,r1,r2,r3,r4,r5⟩:=nv hs2 _ _ hq;split at r2;rename_i r cs Zm ho;split at r2;rename_i ys hys;obtain⟨hn,r2⟩:=r2;rw[<-ht2];obtain⟨b2,g1,g2⟩:=hs2.aD 999999 cs ho;obtain⟨g3,g4⟩:=FV.iV hys;obtain rfl:b2=b:=Env.Ox (E:=E) (hs2.gD _ _ g1).2.1 rfl;refine⟨_,kS fn a2.tmps E.C.P w2 r1,_,r,ys,rfl,r2,aK hn,CG hs2 ((zF r4 r5).eW Zm),λi x hx=>?_,hs2.kept.os,hs2.kept.tape,hs2.kept.output,hs2.kept.size,λk hk hkb=>hs2.kept.block k hk (by grind),λc1 T fr h=>hs2.kept.shape _ c1 T fr ⟨999999,.head _⟩ h⟩;obtain⟨y,hy,hxy⟩:=g4 i x hx;obtain⟨c,q1,q2⟩:=g2 i y hy;exact⟨c,q1,CG hs2 (q2.eW hxy)⟩;simp_all;simp_all
 rintro e a' w' ⟨S',hq,hs'⟩;cases e with
 |normal=>exact fin hq hs'
 |ret=>exact fin hq hs'
 |_=>exact hq.elim
end
section
variable {E:Env}{G:aZ}{S:ag}{a:Act}{w:World}
theorem au.mono {C:Ctx}{f:FuncId}{args:List AV}{R R':fN->Prop}(h:au C f args R)(hr:∀r,R r->R' r):au C f args R':=⟨h.1,λbh w vs a b c d e=>(h.2 bh w vs a b c d e).mono λ_ _ ⟨v,r,h1,h2,h3⟩=>⟨v,r,h1,hr _ h2,h3⟩⟩
def Fy:List (Nat×FV)->Nat->FV|[],_=>.dy|(j,v)::r,i=>match Nat.beq i j with|true=>v|false=>Fy r i
def Px:List (Nat×Nat×List (Nat×FV))->List Fr|[]=>[]|(n,off,rel)::r=>⟨n,off,Fy rel⟩::Px r
def MT (n off:Nat)(rel:List (Nat×FV))(aD:List (Nat×List FV))(bD:List (Nat×Nat×List (Nat×FV)))(cm:List zq)(cz:List (Nat×List UInt8):=[]):ag:={n:=n,off:=off,tmps:=Fy rel,aD:=aD,bD:=Px bD,cm:=cm,cz:=cz}
def yu (f:Nat->FV):List (Nat×FV)->Prop|[]=>True|(j,v)::r=>bt (f j) v/\yu f r
def MU:List Fr->List (Nat×Nat×List (Nat×FV))->Prop|[],[]=>True|f::fs,(n,off,rel)::r=>(n,off)=(f.n,f.off)/\yu f.tmps rel/\MU fs r|_,_=>False
def Ag (aD:List (Nat×List FV)):List (Nat×List FV)->Prop|[]=>True|(o,ys)::r=>(∃xs,Qv.getObj aD o=some xs/\xs.length=ys.length/\∀(i:Nat)(x y:FV),xs[i]?=some x->ys[i]?=some y->bt x y)/\Ag aD r
theorem Ev {f:Nat->FV}:∀{rel:List (Nat×FV)},yu f rel->∀i,bt (f i) (Fy rel i)|[],_,_=>bt.dy _|(j,v)::rel,h,i=>by simp only[Fy];split;rename_i hb;obtain rfl:=aK hb;exact h.1;exact Ev h.2 i
theorem UG:∀{fs:List Fr}{l:List (Nat×Nat×List (Nat×FV))},MU fs l->(Px l).length=fs.length/\∀(i:Nat)(f f':Fr),fs[i]?=some f->(Px l)[i]?=some f'->f'.n=f.n/\f'.off=f.off/\∀j,bt (f.tmps j) (f'.tmps j)
 |[],[],_=>⟨rfl,by simp⟩
 |f::fs,(n,off,rel)::r,h=>by
  obtain⟨h1,h2,h3⟩:=h;obtain⟨h4,h5⟩:=UG h3;injection h1 with e1 e2;refine⟨by simp[Px,h4],λi g g' hg hg'=>?_⟩;cases i with
  |zero=>simp[Px]at hg hg';subst hg;subst hg';exact⟨e1,e2,Ev h2⟩
  |succ i=>simp[Px]at hg hg';grind
 |[],_::_,h=>h.elim
 |_::_,[],h=>h.elim
def JU (l:List (Nat×List UInt8)):List (Nat×List UInt8)->Prop|[]=>True|(o,bs)::r=>lI l o=some bs/\JU l r
theorem Py {l:List (Nat×List UInt8)}{o:Nat}{bs:List UInt8}:∀{r:List (Nat×List UInt8)},JU l r->lI r o=some bs->lI l o=some bs
 |[],_,h=>by cases h
 |(u,c)::r,hb,h=>by simp only[lI]at h;split at h;rename_i hu;obtain rfl:=aK hu;obtain rfl:=ak h;exact hb.1;exact Py hb.2 h
theorem Bg {l:List (Nat×List FV)}{o:Nat}{ys:List FV}:∀{r:List (Nat×List FV)},Ag l r->Qv.getObj r o=some ys->∃xs,Qv.getObj l o=some xs/\xs.length=ys.length/\∀(i:Nat)(x y:FV),xs[i]?=some x->ys[i]?=some y->bt x y
 |[],_,h=>by cases h
 |(u,c)::r,hb,h=>by simp only[Qv.getObj]at h;split at h;rename_i hu;obtain rfl:=aK hu;obtain rfl:=ak h;exact hb.1;exact Bg hb.2 h
def mkW (n off:Nat)(rel:List (Nat×FV))(aD:List (Nat×List FV))(bD:List (Nat×Nat×List (Nat×FV)))(cm:List zq)(cz:List (Nat×List UInt8))(maps:List (Nat×List (AV×FV)))(jg:List (Nat×(Option (AV×AV)×List (AV×AV)))):ag:={n:=n,off:=off,tmps:=Fy rel,aD:=aD,bD:=Px bD,cm:=cm,cz:=cz,maps:=maps,jg:=jg}
def Zq (maps:List (Nat×List (AV×FV))):List (Nat×List (AV×FV))->Prop|[]=>True|(o,l')::r=>(∃l,getM maps o=some l/\l.length=l'.length/\∀(i:Nat)(p p':AV×FV),l[i]?=some p->l'[i]?=some p'->p'.1=p.1/\bt p.2 p'.2)/\Zq maps r
def Zr (jg:List (Nat×(Option (AV×AV)×List (AV×AV)))):List (Nat×(Option (AV×AV)×List (AV×AV)))->Prop|[]=>True|(q,x)::r=>getM jg q=some x/\Zr jg r
theorem Pz {l:List (Nat×List (AV×FV))}{o:Nat}{ys:List (AV×FV)}:∀{r:List (Nat×List (AV×FV))},Zq l r->getM r o=some ys->∃xs,getM l o=some xs/\xs.length=ys.length/\∀(i:Nat)(p p':AV×FV),xs[i]?=some p->ys[i]?=some p'->p'.1=p.1/\bt p.2 p'.2
 |[],_,h=>by cases h
 |(u,c)::r,hb,h=>by simp only[getM]at h;split at h;rename_i hu;obtain rfl:=aK hu;obtain rfl:=ak h;exact hb.1;exact Pz hb.2 h
theorem PB {l:List (Nat×(Option (AV×AV)×List (AV×AV)))}{q:Nat}{x:Option (AV×AV)×List (AV×AV)}:∀{r:List (Nat×(Option (AV×AV)×List (AV×AV)))},Zr l r->getM r q=some x->getM l q=some x
 |[],_,h=>by cases h
 |(u,c)::r,hb,h=>by simp only[getM]at h;split at h;rename_i hu;obtain rfl:=aK hu;obtain rfl:=ak h;exact hb.1;exact PB hb.2 h
theorem Zs {maps:List (Nat×List (AV×FV))}{o:Nat}{l:List (AV×FV)}(h:getM maps o=some l):∃l0,getM maps o=some l0/\l0.length=l.length/\∀(i:Nat)(p p':AV×FV),l0[i]?=some p->l[i]?=some p'->p'.1=p.1/\bt p.2 p'.2:=⟨l,h,rfl,λi p p' h1 h2=>by rw[h1]at h2;obtain rfl:=ak h2;exact⟨rfl,bt.refl _⟩⟩
theorem Bh {n off:Nat}{rel:List (Nat×FV)}{aD:List (Nat×List FV)}{bD:List (Nat×Nat×List (Nat×FV))}{cm:List zq}{cz:List (Nat×List UInt8)}{maps:List (Nat×List (AV×FV))}{jg:List (Nat×(Option (AV×AV)×List (AV×AV)))}(hn:(n,off,cm)=(S.n,S.off,S.cm))(h1:yu S.tmps rel)(h2:Ag S.aD aD)(h3:MU S.bD bD)(h4:JU S.cz cz)(h5:Zq S.maps maps)(h6:Zr S.jg jg):cq S (mkW n off rel aD bD cm cz maps jg):=by
 injection hn with e1 e2;injection e2 with e2 e3;refine⟨e1,e2,e3,λo bs q=>⟨Py h4 q,λq2=>?_⟩,UG h3,λi=>Ev h1 i,λo ys ho=>Bg h2 ho,λo l hl=>Pz h5 hl,λq x hx=>PB h6 hx⟩;cases hq:Qv.getObj aD o with
 |none=>exact hq
 |some ys=>obtain⟨xs,h5,-⟩:=Bg h2 hq;simp_all
theorem bG {n off:Nat}{rel:List (Nat×FV)}{aD:List (Nat×List FV)}{bD:List (Nat×Nat×List (Nat×FV))}{cm:List zq}{cz:List (Nat×List UInt8)}(hn:(n,off,cm)=(S.n,S.off,S.cm))(h1:yu S.tmps rel)(h2:Ag S.aD aD)(h3:MU S.bD bD)(h4:JU S.cz cz):cq S (MT n off rel aD bD cm cz):=Bh (maps:=[]) (jg:=[]) hn h1 h2 h3 h4 trivial trivial
theorem qf {C:Ctx}{call:iG}{Y:ov}{c:Code}{Q:Exit->ag->Prop}{α:Type}(n off:Nat)(rel:α->List (Nat×FV))(aD:α->List (Nat×List FV))(bD:α->List (Nat×Nat×List (Nat×FV)))(cm:List zq)(cz:α->List (Nat×List UInt8))(maps:α->List (Nat×List (AV×FV)))(jg:α->List (Nat×(Option (AV×AV)×List (AV×AV))))(Inv:α->Prop)(μ:α->Nat)(x0:α)(h0:Inv x0)(hn:(n,off,cm)=(S.n,S.off,S.cm))(h1:yu S.tmps (rel x0))(h2:Ag S.aD (aD x0))(h3:MU S.bD (bD x0))(h4:JU S.cz (cz x0))(h5:Zq S.maps (maps x0))(h6:Zr S.jg (jg x0))(round:∀x,Inv x->xD C call Y c (tR (λS'=>∃x' tJ,cq S' tJ/\(Inv x'/\tJ=mkW n off (rel x') (aD x') (bD x') cm (cz x') (maps x') (jg x'))/\μ x'<μ x) Q) (mkW n off (rel x) (aD x) (bD x) cm (cz x) (maps x) (jg x))):∃(α:Type) (I:α->ag->Prop) (μ:α->Nat),(∃a S',cq S S'/\I a S')/\∀a S,I a S->xD C call Y c (tR (λS'=>∃a' tJ,cq S' tJ/\I a' tJ/\μ a'<μ a) Q) S:=⟨α,λx S=>Inv x/\S=mkW n off (rel x) (aD x) (bD x) cm (cz x) (maps x) (jg x),μ,⟨x0,_,Bh hn h1 h2 h3 h4 h5 h6,h0,rfl⟩,λx S ⟨hI,hS⟩=>hS▸round x hI⟩
theorem hU {S':ag}{α:Type}{n off:Nat}{rel:α->List (Nat×FV)}{aD:α->List (Nat×List FV)}{bD:α->List (Nat×Nat×List (Nat×FV))}{cm:List zq}{cz:α->List (Nat×List UInt8)}{maps:α->List (Nat×List (AV×FV))}{jg:α->List (Nat×(Option (AV×AV)×List (AV×AV)))}{Inv:α->Prop}{μ:α->Nat}{x:α}(x':α)(h0:Inv x')(hμ:μ x'<μ x)(hn:(n,off,cm)=(S'.n,S'.off,S'.cm))(h1:yu S'.tmps (rel x'))(h2:Ag S'.aD (aD x'))(h3:MU S'.bD (bD x'))(h4:JU S'.cz (cz x'))(h5:Zq S'.maps (maps x'))(h6:Zr S'.jg (jg x')):∃x' tJ,cq S' tJ/\(Inv x'/\tJ=mkW n off (rel x') (aD x') (bD x') cm (cz x') (maps x') (jg x'))/\μ x'<μ x:=⟨x',_,Bh hn h1 h2 h3 h4 h5 h6,⟨h0,rfl⟩,hμ⟩
theorem Wp (aD:List (Nat×List FV))(xs:List FV)(o:Nat)(h:Qv.getObj aD o=some xs):∃ys,Qv.getObj aD o=some ys/\ys.length=xs.length/\∀(i:Nat)(x y:FV),ys[i]?=some x->xs[i]?=some y->bt x y:=Fw h
theorem aA {aD:List (Nat×List FV)}{o:Nat}{xs:List FV}(h:Qv.getObj aD o=some xs):∃ys,Qv.getObj aD o=some ys/\ys.length=xs.length/\∀(i:Nat)(x y:FV),ys[i]?=some x->xs[i]?=some y->bt x y:=Wp aD xs o h
theorem CH {C:Ctx}{call:iG}{Y:ov}{c:Code}{Q:Exit->ag->Prop}{α:Type}(n off:Nat)(rel:α->List (Nat×FV))(aD:α->List (Nat×List FV))(bD:α->List (Nat×Nat×List (Nat×FV)))(cm:List zq)(cz:α->List (Nat×List UInt8))(Inv:α->Prop)(μ:α->Nat)(x0:α)(h0:Inv x0)(hn:(n,off,cm)=(S.n,S.off,S.cm))(h1:yu S.tmps (rel x0))(h2:Ag S.aD (aD x0))(h3:MU S.bD (bD x0))(h4:JU S.cz (cz x0))(round:∀x,Inv x->xD C call Y c (tR (λS'=>∃x' tJ,cq S' tJ/\(Inv x'/\tJ=MT n off (rel x') (aD x') (bD x') cm (cz x'))/\μ x'<μ x) Q) (MT n off (rel x) (aD x) (bD x) cm (cz x))):∃(α:Type) (I:α->ag->Prop) (μ:α->Nat),(∃a S',cq S S'/\I a S')/\∀a S,I a S->xD C call Y c (tR (λS'=>∃a' tJ,cq S' tJ/\I a' tJ/\μ a'<μ a) Q) S:=⟨α,λx S=>Inv x/\S=MT n off (rel x) (aD x) (bD x) cm (cz x),μ,⟨x0,_,bG hn h1 h2 h3 h4,h0,rfl⟩,λx S ⟨hI,hS⟩=>hS▸round x hI⟩
theorem rE {S':ag}{α:Type}{n off:Nat}{rel:α->List (Nat×FV)}{aD:α->List (Nat×List FV)}{bD:α->List (Nat×Nat×List (Nat×FV))}{cm:List zq}{cz:α->List (Nat×List UInt8)}{Inv:α->Prop}{μ:α->Nat}{x:α}(x':α)(h0:Inv x')(hμ:μ x'<μ x)(hn:(n,off,cm)=(S'.n,S'.off,S'.cm))(h1:yu S'.tmps (rel x'))(h2:Ag S'.aD (aD x'))(h3:MU S'.bD (bD x'))(h4:JU S'.cz (cz x')):∃x' tJ,cq S' tJ/\(Inv x'/\tJ=MT n off (rel x') (aD x') (bD x') cm (cz x'))/\μ x'<μ x:=⟨x',_,bG hn h1 h2 h3 h4,⟨h0,rfl⟩,hμ⟩
theorem aeF {C:Ctx}{call:iG}{Y:ov}{c:Code}{Q:Exit->ag->Prop}{α:Type}(n:Nat)(rel:α->List (Nat×FV))(aD:α->List (Nat×List FV))(cz:α->List (Nat×List UInt8))(Inv:α->Prop)(μ:α->Nat)(x0:α)(h0:Inv x0)(hn:(n,0,[],[])=(S.n,S.off,S.cm,S.bD))(h1:yu S.tmps (rel x0))(h2:Ag S.aD (aD x0))(h4:JU S.cz (cz x0))(round:∀x,Inv x->xD C call Y c (tR (λS'=>∃x' tJ,cq S' tJ/\(Inv x'/\tJ=MT n 0 (rel x') (aD x') [] [] (cz x'))/\μ x'<μ x) Q) (MT n 0 (rel x) (aD x) [] [] (cz x))):∃(α:Type) (I:α->ag->Prop) (μ:α->Nat),(∃a S',cq S S'/\I a S')/\∀a S,I a S->xD C call Y c (tR (λS'=>∃a' tJ,cq S' tJ/\I a' tJ/\μ a'<μ a) Q) S:=by injection hn with e1 e2;injection e2 with e2 e3;injection e3 with e3 e4;exact CH n 0 rel aD (λ_=>[]) [] cz Inv μ x0 h0 (by simp_all) h1 h2 (by rw[<-e4];trivial) h4 round
theorem ahL {S':ag}{α:Type}{n:Nat}{rel:α->List (Nat×FV)}{aD:α->List (Nat×List FV)}{cz:α->List (Nat×List UInt8)}{Inv:α->Prop}{μ:α->Nat}{x:α}(x':α)(h0:Inv x')(hμ:μ x'<μ x)(hn:(n,0,[],[])=(S'.n,S'.off,S'.cm,S'.bD))(h1:yu S'.tmps (rel x'))(h2:Ag S'.aD (aD x'))(h4:JU S'.cz (cz x')):∃x' tJ,cq S' tJ/\(Inv x'/\tJ=MT n 0 (rel x') (aD x') [] [] (cz x'))/\μ x'<μ x:=by injection hn with e1 e2;injection e2 with e2 e3;injection e3 with e3 e4;exact⟨x',_,bG (by simp_all) h1 h2 (by rw[<-e4];trivial) h4,⟨h0,rfl⟩,hμ⟩
theorem bW {C:Ctx}{call:iG}{Y:ov}{c:Code}{Q:Exit->ag->Prop}{α:Type}(n:Nat)(rel:α->List (Nat×FV))(aD:α->List (Nat×List FV))(Inv:α->Prop)(μ:α->Nat)(x0:α)(h0:Inv x0)(hn:(n,0,[],[])=(S.n,S.off,S.cm,S.bD))(h1:yu S.tmps (rel x0))(h2:Ag S.aD (aD x0))(round:∀x,Inv x->xD C call Y c (tR (λS'=>∃x' tJ,cq S' tJ/\(Inv x'/\tJ=MT n 0 (rel x') (aD x') [] [])/\μ x'<μ x) Q) (MT n 0 (rel x) (aD x) [] [])):∃(α:Type) (I:α->ag->Prop) (μ:α->Nat),(∃a S',cq S S'/\I a S')/\∀a S,I a S->xD C call Y c (tR (λS'=>∃a' tJ,cq S' tJ/\I a' tJ/\μ a'<μ a) Q) S:=aeF n rel aD (λ_=>[]) Inv μ x0 h0 hn h1 h2 trivial round
theorem aU {S':ag}{α:Type}{n:Nat}{rel:α->List (Nat×FV)}{aD:α->List (Nat×List FV)}{Inv:α->Prop}{μ:α->Nat}{x:α}(x':α)(h0:Inv x')(hμ:μ x'<μ x)(hn:(n,0,[],[])=(S'.n,S'.off,S'.cm,S'.bD))(h1:yu S'.tmps (rel x'))(h2:Ag S'.aD (aD x')):∃x' tJ,cq S' tJ/\(Inv x'/\tJ=MT n 0 (rel x') (aD x') [] [])/\μ x'<μ x:=ahL (cz:=λ_=>[]) x' h0 hμ hn h1 h2 trivial
end
theorem aq {C:Ctx}{f:FuncId}{fn:Func}{args:List AV}{R:fN->Prop}(hf:C.P.funcs[f]?=some fn)(hb:fn.body.isSome=true)(hname:(fn.name== "runtime.NumGoroutine")=false)(hlen:Nat.ble args.length fn.ntmps=true)(h:ev C (match fn.body with|some c=>c|none=>.skip) (tV C fn.results.toList R) (An fn.ntmps args)):au C f args R:=by obtain⟨c,hc⟩:=nw.1 hb;rw[hc]at h;exact JT hf hc hname (gW hlen) h
theorem ia {C:Ctx}(l:List Nat){f:FuncId}{fn:Func}{args:List AV}{R:fN->Prop}(hf:C.P.funcs[f]?=some fn)(hb:fn.body.isSome=true)(hname:(fn.name== "runtime.NumGoroutine")=false)(hlen:Nat.ble args.length fn.ntmps=true)(h:ev (C.cut l) (match fn.body with|some c=>c|none=>.skip) (tV (C.cut l) fn.results.toList R) (An fn.ntmps args)):au C f args R:=aq (C:=C.cut l) hf hb hname hlen h
theorem au.cut {C:Ctx}{l:List Nat}{f:FuncId}{args:List AV}{R:fN->Prop}(h:au C f args R):au (C.cut l) f args R:=h
theorem bn {C:Ctx}(e:Extra)(l:List Nat){f:FuncId}{fn:Func}{args:List AV}{R:fN->Prop}(hf:C.P.funcs[f]?=some fn)(hb:fn.body.isSome=true)(hname:(fn.name== "runtime.NumGoroutine")=false)(hlen:Nat.ble args.length fn.ntmps=true)(h:ev ((C.cut l).open e) (match fn.body with|some c=>c|none=>.skip) (tV ((C.cut l).open e) fn.results.toList R) (An fn.ntmps args)):au C f args R:=aq (C:=(C.cut l).open e) hf hb hname hlen h
theorem au.dY {C:Ctx}{e:Extra}{l:List Nat}{f:FuncId}{args:List AV}{R:fN->Prop}(h:au C f args R):au ((C.cut l).open e) f args R:=h
theorem CI {C:Ctx}(e:Extra)(l:List Nat){f:FuncId}{fn:Func}{cells args:List AV}{R:AV->List AV->Prop}(hf:C.P.funcs[f]?=some fn)(hb:fn.body.isSome=true)(hname:(fn.name== "runtime.NumGoroutine")=false)(hlen:Nat.ble (args.length+1) fn.ntmps=true)(h:ev ((C.cut l).open e) (match fn.body with|some c=>c|none=>.skip) (Ou ((C.cut l).open e) fn.results.toList cells.length R) (Uq fn.ntmps cells args)):GY C f cells args R:=by obtain⟨c,hc⟩:=nw.1 hb;rw[hc]at h;exact Pw (C:=(C.cut l).open e) hf hc hname (gW hlen) h
theorem GY.dY {C:Ctx}{e:Extra}{l:List Nat}{f:FuncId}{cells args:List AV}{R:AV->List AV->Prop}(h:GY C f cells args R):GY ((C.cut l).open e) f cells args R:=h
theorem ee {S:ag}(n:Nat)(rel:List (Nat×FV))(aD:List (Nat×List FV)){K:ag->Prop}(hn:(n,0,[],[])=(S.n,S.off,S.cm,S.bD))(h1:yu S.tmps rel)(h2:Ag S.aD aD)(h:K (MT n 0 rel aD [] [])):∃T,cq S T/\K T:=by injection hn with e1 e2;injection e2 with e2 e3;injection e3 with e3 e4;exact⟨_,bG (cz:=[]) (by simp_all) h1 h2 (by rw[<-e4];trivial) trivial,h⟩
theorem wrap64 {n:Int}(h1:-9223372036854775808<=n)(h2:n<=9223372036854775807):IntKind.i64.wrap n=n:=by simp[IntKind.wrap,IntKind.bits,IntKind.signed];omega
abbrev Bytes:=List UInt8
def oL (s:Bytes):List AV:=[.str s]
def acJ (l:List Bytes):AV:=.sl (l.map oL)
theorem fh {α:Type}{f:α->List AV}{l:List α}{n:Int}{k:Nat}(hn:n=k)(hk:k<l.length):(l.map f)[n.toNat]?=some (f l[k]):=by simp_all
theorem bt.eq {x y:FV}(h:x=y):bt x y:=h▸bt.refl x
theorem wS {p:Prop}(h:p:=by(repeat refine⟨bt.eq kK,?_⟩);exact trivial):p:=h
theorem oS {p:Prop}(h:p:=by(repeat refine⟨aA kK,?_⟩);exact trivial):p:=h
theorem cl {C:Ctx}{f:FuncId}{args:List AV}{v:fN}{K:fN->Prop}(h:au C f args λr=>r=v)(k:K v):∃R,au C f args R/\∀r,R r->K r:=⟨_,h,λ_ hr=>hr▸k⟩
theorem nx (m:Nat){a:Int}{K:Int->Prop}(h:K (m:Int))(e:IntKind.i64.wrap a=(m:Int):=by rw[wrap64 oO oO];omega):∃c,IntKind.i64.wrap a=c/\K c:=⟨_,e,h⟩
theorem ix {α:Type}{f:α->List AV}{l:List α}{k m:Nat}{K:List AV->Prop}(hk:k<l.length)(h:K (f l[k]))(e:(f l[k]).length=m:=by exact rfl):0<=(k:Int)/\∃ys,(l.map f)[(k:Int).toNat]?=some ys/\ys.length=m/\K ys:=⟨oO,_,fh rfl hk,e,h⟩
theorem bt.nW (t:Nat)(T:TypeId)(bI:Nat):bt (.full []) (.gi t T bI []):=λG w v h=>by
 cases h with
 |full _ a h=>exact .gi t T bI [] a 0 h (.inl ⟨rfl,rfl⟩)
theorem bt.UH (t:Nat)(T:TypeId)(bI:Nat)(xs:List (List AV)):bt (.gi t T bI xs) (.p (.sl xs)):=λG w v h=>.p _ _ (h.eW rfl)
theorem bt.Ie (xs:List (List AV)):bt (.full xs) (.p (.sl xs)):=λG w v h=>.p _ _ (h.eW rfl)
theorem Zt {α:Type}{f:α->AV}(l:List α):∀zs,zs∈l.map (λx=>[f x])->zs.length=1:=by simp_all
theorem ahM {c d:UInt8}(h:(c.toNat:Int)=(d.toNat:Int)):c=d:=UInt8.toNat.inj oO
theorem aQ {p:Prop}[Decidable p]{K:Bool->Prop}(h1:p->K true)(h2:¬p->K false):Al λt:Bool=>t=decide p->K t:=⟨λt ht=>by by_cases h:p;simp_all;simp_all⟩
theorem aH {α:Type}[BEq α][LawfulBEq α]{a b:α}{K:Bool->Prop}(h1:a=b->K true)(h2:a≠b->K false):Al λt:Bool=>t=(a==b)->K t:=⟨λt ht=>by cases h:a==b;simp_all;simp_all⟩
theorem eD {α:Type}[BEq α][LawfulBEq α]{a b:α}{K:Bool->Prop}(h1:a≠b->K true)(h2:a=b->K false):Al λt:Bool=>t=(a !=b)->K t:=⟨λt ht=>by cases h:a==b;rw[ht];simp only[bne,h,Bool.not_false];simp_all;simp_all⟩
theorem Ew {α:Type}[BEq α][LawfulBEq α]{a b:α}{K:Bool->Prop}(h1:a≠b->K true)(h2:a=b->K false):Al λt:Bool=>t=!(a==b)->K t:=eD h1 h2
theorem cu {α β:Type}{k:Nat}{l:List α}{f:α->β}{K:Bool->Prop}(h1:k<l.length->K true)(h2:¬k<l.length->K false):Al λt:Bool=>t=decide ((k:Int)<((l.map f).length:Int))->K t:=aQ (λh=>h1 (by simp_all)) (λh=>h2 (by simp_all))
theorem bR {b:Bool}{K:Bool->Prop}(h:K !b):Al λt:Bool=>t=!b->K t:=⟨λt ht=>ht▸h⟩
end Qv
namespace Qv
open Go
inductive gh {H:Type}(P:Program):TypeId->DataW H->List AV->Prop|bool (t:TypeId)(b:Bool):P.underlying t=some .bool->gh P t (.lit (.bool b)) [.bool b]|int (t:TypeId)(k:IntKind)(n:Int):P.underlying t=some (.int k)->(Lit.int k n).wf=true->gh P t (.lit (.int k n)) [.int k n]|str (t:TypeId)(s:List UInt8):P.underlying t=some .string->gh P t (.lit (.string s)) [.str s]|nil (t e:TypeId):P.underlying t=some (.slice e)->gh P t .nil [.sl []]|slice (t e:TypeId)(ds sp:List (DataW H))(xs:List (List AV)):P.underlying t=some (.slice e)->ds.length=xs.length->(∀(i:Nat)(d:DataW H)(x:List AV),ds[i]?=some d->xs[i]?=some x->gh P e d x)->gh P t (.slice ds sp) [.sl xs]|struct (t:TypeId)(fs:Array Field)(ds:List (DataW H))(pieces:List (List AV)):P.underlying t=some (.struct fs)->fs.toList.length=ds.length->pieces.length=ds.length->(∀(i:Nat)(f:Field)(d:DataW H)(x:List AV),fs.toList[i]?=some f->ds[i]?=some d->pieces[i]?=some x->gh P f.type d x)->gh P t (.agg ds) pieces.flatten|arr (t e:TypeId)(n:Nat)(ds:List (DataW H))(pieces:List (List AV)):P.underlying t=some (.array n e)->ds.length=n->pieces.length=n->(∀(i:Nat)(d:DataW H)(x:List AV),ds[i]?=some d->pieces[i]?=some x->gh P e d x)->gh P t (.agg ds) pieces.flatten
def KS (P:Program)(ts:List TypeId)(t:TypeId):Bool:=match P.underlying t with|some .bool=>true|some (.int _)=>true|some .string=>true|some (.slice e)=>ts.contains e&&!(P.cellsOf e==0)|some (.struct fs)=>fs.toList.all λf=>ts.contains f.type|some (.array _ e)=>ts.contains e|_=>false
def Bi (P:Program)(ts:List TypeId):Bool:=ts.all λt=>decide (t<P.types.size)&&KS P ts t
theorem PC {α β:Type}{f:α->Option β}:∀{l:List α}{ys:List β},l.mapM f=some ys->ys.length=l.length/\∀(i:Nat)(x:α)(y:β),l[i]?=some x->ys[i]?=some y->f x=some y
 |[],ys,h=>by grind
 |a::l,ys,h=>by
  rw[List.mapM_cons]at h;cases ha:f a with
  |none=>grind
  |some b=>
   rw[ha]at h;cases hl:l.mapM f with
   |none=>grind
   |some bs=>rw[hl]at h;obtain rfl:=ak h;obtain⟨h1,h2⟩:=PC hl;grind
theorem ue {β:Type}(n:Nat)(R:Nat->β->Prop)(h:∀i,i<n->∃x,R i x):∃l:List β,l.length=n/\∀i x,l[i]?=some x->R i x:=by
 induction n with
 |zero=>simp
 |succ n ih=>obtain⟨l,h1,h2⟩:=ih λi hi=>h i oO;obtain⟨x,hx⟩:=h n oO;refine⟨l++[x],by simp[h1],λi y hy=>?_⟩;grind
def xE (bh:Nat->Nat->Prop)(w:World)(cs:List Value)(xs:List AV):Prop:=cs.length=xs.length/\(∀x,x∈xs->x.one=true)/\∀(i:Nat)(c:Value)(x:AV),cs[i]?=some c->xs[i]?=some x->dh bh w c x
theorem xE.nil (bh:Nat->Nat->Prop)(w:World):xE bh w [] []:=⟨rfl,by simp,by simp⟩
theorem xE.append {bh:Nat->Nat->Prop}{w:World}{cs cs':List Value}{xs xs':List AV}(h:xE bh w cs xs)(h':xE bh w cs' xs'):xE bh w (cs++cs') (xs++xs'):=by refine⟨by simp[h.1,h'.1],λx hx=>?_,λi c x hc hx=>?_⟩;rcases bf.1 hx with hx|hx;exact h.2.1 x hx;exact h'.2.1 x hx;by_cases hi:i<cs.length;rw[cV hi]at hc;rw[cV (by rw[<-h.1];exact hi)]at hx;exact h.2.2 i c x hc hx;rw[eu oO]at hc;rw[eu (by rw[<-h.1];omega),<-h.1]at hx;exact h'.2.2 _ c x hc hx
theorem xE.one {bh:Nat->Nat->Prop}{w:World}{c:Value}{x:AV}(h:dh bh w c x)(hx:x.one=true):xE bh w [c] [x]:=⟨rfl,by grind,λi c' x' h1 h2=>by grind⟩
theorem Ig {bh:Nat->Nat->Prop}{w:World}(size:Field->Nat)(cs:List Value):∀(fs:List Field)(o:Nat)(pieces:List (List AV)),pieces.length=fs.length->(∀(j:Nat)(f:Field),fs[j]?=some f->f.offset=o+((fs.take j).map size).sum)->(cs.drop o).length=(fs.map size).sum->(∀(j:Nat)(f:Field)(x:List AV),fs[j]?=some f->pieces[j]?=some x->xE bh w ((cs.drop f.offset).take (size f)) x)->xE bh w (cs.drop o) pieces.flatten
 |[],o,pieces,hp,ho,hl,hr=>by have h1:pieces=[]:=cO.1 (by simpa using hp);have h2:cs.drop o=[]:=cO.1 (by simpa using hl);rw[h1,h2];exact .nil _ _
 |f::fs,o,[],hp,ho,hl,hr=>by simp at hp
 |f::fs,o,x::pieces,hp,ho,hl,hr=>by
  have hf:f.offset=o:=by simpa using ho 0 f rfl
  have h0:=hr 0 f x rfl rfl;rw[hf]at h0;simp only[eo,bw,sr]at hl;have ih:=Ig size cs fs (o+size f) pieces (by simpa using hp) (λj g hg=>by have :=ho (j+1) g hg;simp only[Ch,bw,sr]at this;omega) (by simp only[eo];omega) (λj g y hg hy=>hr (j+1) g y hg hy);have :cs.drop o=(cs.drop o).take (size f)++cs.drop (o+size f):=by rw[<-vR,dU]
  rw[this,mZ];exact h0.append ih
theorem KT {bh:Nat->Nat->Prop}{w:World}(z:Nat):∀(l:List (List AV))(cs:List Value),cs.length=l.length*z->(∀(i:Nat)(x:List AV),l[i]?=some x->xE bh w ((cs.drop (i*z)).take z) x)->xE bh w cs l.flatten
 |[],cs,hl,hr=>by have h1:cs=[]:=cO.1 (by simpa using hl);rw[h1];exact .nil _ _
 |x::l,cs,hl,hr=>by have h0:=hr 0 x rfl;rw[Nat.zero_mul,wo]at h0;simp only[aS,bC,jZ]at hl;have ih:=KT z l (cs.drop z) (by simp only[eo];omega) (λi y hy=>by have :=hr (i+1) y (by simpa using hy);rw[vR];rw[bC,jZ,nc]at this;exact this);rw[<-dU z cs,mZ];exact h0.append ih
theorem KU {w:World}{base:Nat}{a:Addr}{n:Nat}{cs:List Value}(h:w.cells? base a n=some cs):cs.length=n/\∀(i:Nat)(c:Value),cs[i]?=some c->w.cell? (a.add i)=some c:=by unfold World.cells? at h;split at h;obtain⟨h1,h2⟩:=PC h;grind;cases h
theorem UI {w:World}{a:Addr}{c:Value}(h:w.cell? a=some c):a.block<w.heap.size/\a.spot=none:=by unfold World.cell? at h;split at h;rename_i hq;refine⟨(bq.1 hq).1,?_⟩;simp_all;cases h
theorem CK {P:Program}{ts:List TypeId}(h:Bi P ts=true){t:TypeId}(ht:t∈ts):t<P.types.size/\KS P ts t=true:=by have :=br.1 h t ht;grind
theorem lay_of {P:Program}(hl:laidOutB P=true){t:TypeId}(ht:t<P.types.size):rowFine P t=true:=by simp only[laidOutB,aR]at hl;grind
theorem Zu {H:Type}{enc:TypeId×Value->H}{P:Program}{w:World}{held:Bool}{spare:Nat->Bool}{ts:List TypeId}(hl:laidOutB P=true)(hf:Bi P ts=true):∀(fuel:Nat)(t:TypeId)(cs:List Value)(d:DataW H)(ps:List MemPlace),t∈ts->DataW.trod enc P w 0 spare held fuel t cs=some (d,ps)->∃xs,gh P t d xs/\cs.length=P.cellsOf t/\xE (λb _=>b<w.heap.size) w cs xs:=by
 intro fuel;induction fuel with
 |zero=>intro t cs d ps ht h;cases h
 |succ fuel ih=>
  intro t cs d ps ht h;obtain⟨hlt,hft⟩:=CK hf ht;have hrow:=lay_of hl hlt;unfold KS at hft;have hone:∀{u:TypeDesc},P.underlying t=some u->(match u with|.bool|.int _|.string|.slice _=>True|_=>False)->P.cellsOf t=1:=λ{u} hu hm=>by unfold rowFine isVar at hrow;simp only[hu,hlt,decide_true,gw]at hrow;cases u<;>simp_all[kindOk]
  split at hft;rename_i hu;obtain⟨b,rfl,hx⟩:=DataW.trod_bool hu h;obtain⟨rfl,rfl⟩:=gY hx;exact⟨_,.bool t b hu,(hone hu trivial).symm,.one (.bool b) rfl⟩;rename_i k hu;obtain⟨n,rfl,hx,hwf⟩:=DataW.trod_int hu h;obtain⟨rfl,rfl⟩:=gY hx;exact⟨_,.int t k n hu hwf,(hone hu trivial).symm,.one (.int k n) rfl⟩;rename_i hu;obtain⟨⟨⟨s⟩⟩,rfl,hx,hwf⟩:=DataW.trod_string hu h;obtain⟨rfl,rfl⟩:=gY hx;exact⟨_,.str t s hu,(hone hu trivial).symm,.one (.str s) rfl⟩
  ·rename_i e hu;simp only[aR,cE,CL,ne_eq,CM]at hft;obtain⟨he,YE⟩:=hft;rcases DataW.trod_slice hu h with⟨rfl,hx⟩|⟨a,len,cap,elems,rest,m,hm,rfl,hx,hb,hlc,hcm,hel,uJ,_,_⟩;obtain⟨rfl,rfl⟩:=gY hx;exact⟨_,.nil t e hu,(hone hu trivial).symm,.one (.Uj none 0) rfl⟩;obtain⟨rfl,rfl⟩:=gY hx;obtain rfl:fuel=m:=oO
   have ahN:=hone hu trivial;have each:∀i,i<len->∃(x:List Value×List AV) (d:DataW H),(elems.map (·.1))[i]?=some d/\gh P e d x.2/\x.1.length=P.cellsOf e/\xE (λb _=>b<w.heap.size) w x.1 x.2/\w.cells? 0 (a.add (i*P.cellsOf e)) (P.cellsOf e)=some x.1:=λi hi=>by
    have h1:=uJ i hi;have hlt':i<elems.length:=oO
    rw[an hlt']at h1;obtain⟨cs',hcs,htr⟩:=Option.bind_eq_some_iff.1 h1;obtain⟨xs,g1,g2,g3⟩:=ih e cs' elems[i].1 elems[i].2 he htr;exact⟨(cs',xs),elems[i].1,by simp[hlt'],g1,g2,g3,hcs⟩
   obtain⟨l,OZ,DU⟩:=ue len _ each;refine⟨[.sl (l.map (·.2))],.slice t e _ _ _ hu (by simp[hel,OZ]) (λi d x hd hx=>?_),ahN.symm,.one ?_ rfl⟩;rw[aJ]at hx;cases Se:l[i]?with
   |none=>rw[Se]at hx;cases hx
   |some y=>rw[Se]at hx;obtain rfl:=ak hx;obtain⟨d',k1,k2,_⟩:=DU i y Se;rw[hd]at k1;obtain rfl:=ak k1;exact k2
   by_cases h0:len=0;subst h0;obtain rfl:l=[]:=cO.1 OZ;exact .Uj _ _;have hpos:0<P.cellsOf e:=vY YE;have hsp:a.spot=none:=by
    obtain⟨y,hy⟩:∃y,l[0]?=some y:=⟨l[0]'oO,an _⟩;obtain⟨d',_,_,k3,_,k5⟩:=DU 0 y hy;obtain⟨c1,c2⟩:=KU k5;have akw:0<y.1.length:=oO
    have :=(UI (c2 0 y.1[0] (an akw))).2;simpa[Addr.add]using this
   obtain⟨b,off,spot⟩:=a;obtain rfl:spot=none:=hsp;have key:∀(i:Nat)(ys:List AV)(j:Nat)(y:AV),(l.map (·.2))[i]?=some ys->ys[j]?=some y->∃z c,l[i]?=some z/\z.2=ys/\z.1[j]?=some c/\w.cell? ⟨b,off+i*P.cellsOf e+j,none⟩=some c/\dh (λb _=>b<w.heap.size) w c y/\y.one=true/\ys.length=P.cellsOf e:=λi ys j y h1 h2=>by
    rw[aJ]at h1;cases Se:l[i]?with
    |none=>rw[Se]at h1;cases h1
    |some z=>
     rw[Se]at h1;obtain rfl:=ak h1;simp only at h2;obtain⟨d',_,_,k3,⟨r1,r2,r3⟩,k5⟩:=DU i z Se;obtain⟨c1,c2⟩:=KU k5;have hjl:j<z.1.length:=by rw[r1];exact(aG.1 h2).1
     refine⟨z,z.1[j],rfl,rfl,an hjl,?_,r3 j _ _ (an hjl) h2,r2 _ (bP h2),by show z.2.length=_;omega⟩;have :=c2 j _ (an hjl);rwa[Go.WideShapes.add_plain,Go.WideShapes.add_plain]at this
   have hlen:(l.map (·.2)).length=len:=by simp[OZ]
   rw[<-hlen];refine .sl b off cap (P.cellsOf e) _ (λi j=>match l[i]?with|some z=>z.1.getD j undef|none=>undef) ?_ ?_ ?_ ?_ ?_ oO;intro i ys h1;rw[aJ]at h1;cases Se:l[i]?with
   |none=>rw[Se]at h1;cases h1
   |some z=>rw[Se]at h1;obtain rfl:=ak h1;obtain⟨d',_,_,k3,⟨r1,_⟩,_⟩:=DU i z Se;show z.2.length=_;omega
   all_goals intro i ys j y h1 h2;obtain⟨z,c,hz,hzy,Gz,hcell,nO,hy1,_⟩:=key i ys j y h1 h2
   exact hy1;simp only[hz,List.getD,Gz,vX];exact hcell;exact(UI hcell).1;simp only[hz,List.getD,Gz,vX];exact nO
  rename_i fs hu;obtain⟨xs,m,hm,hx,mG,hxl,uJ⟩:=DataW.trod_struct hu h;obtain⟨rfl,rfl⟩:=gY hx;obtain rfl:fuel=m:=oO
  have hall:=br.1 hft;have hk:isVar P t=true:=by unfold isVar;rw[hu];simp[hlt,kindOk]
  unfold rowFine at hrow;rw[hk,hu]at hrow;simp only[Bool.not_true,iP,aR,beq_iff_eq]at hrow;obtain⟨⟨_,hsum⟩,hoff⟩:=hrow;have each:∀i,i<fs.size->∃(x:List AV),∀f d,fs.toList[i]?=some f->(xs.map (·.1))[i]?=some d->gh P f.type d x/\xE (λb _=>b<w.heap.size) w ((cs.drop f.offset).take (P.cellsOf f.type)) x:=λi hi=>by
   have h1:=uJ i fs[i] (Cy hi);have hlt':i<xs.length:=oO
   rw[an hlt']at h1;have hmem:fs[i].type∈ts:=by have :=hall fs[i] (by simp);simpa using this
   obtain⟨x,g1,g2,g3⟩:=ih fs[i].type _ xs[i].1 xs[i].2 hmem h1;refine⟨x,λf d hf hd=>?_⟩;rw[rU,Cy hi]at hf;obtain rfl:=ak hf;rw[aJ,an hlt']at hd;obtain rfl:=ak hd;exact⟨g1,g3⟩
  obtain⟨l,OZ,DU⟩:=ue fs.size _ each;refine⟨l.flatten,.struct t fs _ l hu (by simp[hxl]) (by simp[OZ,hxl]) (λi f d x hf hd hx=>(DU i x hx f d hf hd).1),mG,?_⟩;have hp:=Ig (bh:=λb _=>b<w.heap.size) (w:=w) (λf=>P.cellsOf f.type) cs fs.toList 0 l (by simp[OZ]) (λj f hf=>by have hj:j<fs.toList.length:=(aG.1 hf).1;have :=br.1 hoff j (by simpa using hj);rw[hf]at this;simpa using this) (by simpa[mG]using hsum) (λj f x hf hx=>by
   have hj:j<xs.length:=by rw[hxl];simpa using(aG.1 hf).1
   exact(DU j x hx f (xs[j].1) hf (by simp[hj])).2);simpa using hp;rename_i n e hu;rw[CM]at hft;obtain⟨xs,m,hm,hx,mG,hxl,uJ⟩:=DataW.trod_array hu h;obtain⟨rfl,rfl⟩:=gY hx;obtain rfl:fuel=m:=oO
  have hk:isVar P t=true:=by unfold isVar;rw[hu];simp[hlt,kindOk]
  unfold rowFine at hrow;rw[hk,hu]at hrow;simp only[Bool.not_true,iP,aR,beq_iff_eq]at hrow;obtain⟨_,hsum⟩:=hrow;have each:∀i,i<n->∃(x:List AV),∀d,(xs.map (·.1))[i]?=some d->gh P e d x/\xE (λb _=>b<w.heap.size) w ((cs.drop (i*P.cellsOf e)).take (P.cellsOf e)) x:=λi hi=>by
   have h1:=uJ i hi;have hlt':i<xs.length:=oO
   rw[an hlt']at h1;obtain⟨x,g1,g2,g3⟩:=ih e _ xs[i].1 xs[i].2 hft h1;refine⟨x,λd hd=>?_⟩;rw[aJ,an hlt']at hd;obtain rfl:=ak hd;exact⟨g1,g3⟩
  obtain⟨l,OZ,DU⟩:=ue n _ each;refine⟨l.flatten,.arr t e n _ l hu (by simp[hxl]) OZ (λi d x hd hx=>(DU i x hx d hd).1),mG,?_⟩;refine KT (P.cellsOf e) l cs (by rw[mG,hsum,OZ]) (λi x hx=>?_);have hj:i<xs.length:=by have :=(aG.1 hx).1;omega
  exact(DU i x hx (xs[i].1) (by simp[hj])).2;cases hft
theorem Fz {H:Type}{enc:TypeId×Value->H}{P:Program}{w:World}{held:Bool}{spare:Nat->Bool}{ts:List TypeId}(hl:laidOutB P=true)(hf:Bi P ts=true):∀(us:List TypeId)(vs:List Value)(ds:List (DataW H))(ps:List MemPlace),(∀u,u∈us->u∈ts)->DataW.TrodAll enc P w 0 spare held us vs ds ps->vs.length=us.length/\ds.length=us.length/\∀(i:Nat)(u:TypeId)(v:Value)(d:DataW H),us[i]?=some u->vs[i]?=some v->ds[i]?=some d->∃xs,gh P u d xs/\xE (λb _=>b<w.heap.size) w v.cells.toList xs|[],[],[],ps,hm,h=>⟨rfl,rfl,λi u v d h=>by simp at h⟩|u::us,v::vs,d::ds,ps,hm,h=>by obtain⟨p,q,⟨fuel,h1⟩,h2,h3⟩:=h;obtain⟨xs,g1,_,g3⟩:=Zu hl hf fuel u _ d p (hm u (by simp)) h1;obtain⟨k1,k2,k3⟩:=Fz hl hf us vs ds q (λu hu=>hm u (by simp[hu])) h2;refine⟨by simp[k1],by simp[k2],λi u' v' d' h4 h5 h6=>?_⟩;grind
end Qv
namespace Qv
open Go Go.RowKit Go.WideShapes Go.ChangeShapes Go.WideElems
def CN (P:Program)(t:TypeId)(xs:List AV):AV:=match P.underlying t with|some (.struct _)=>.agg xs|some (.array _ _)=>.agg xs|_=>xs.headD (.bool false)
theorem yw {P:Program}{t:TypeId}{u:TypeDesc}{x:AV}(h:P.underlying t=some u)(hu:∀fs,u≠.struct fs)(hu':∀n e,u≠.array n e:=by intro _ _ h;cases h):CN P t [x]=x:=by unfold CN;grind
theorem CO {P:Program}{t:TypeId}{fs:Array Field}{xs:List AV}(h:P.underlying t=some (.struct fs)):CN P t xs=.agg xs:=by unfold CN;rw[h]
theorem Zv {P:Program}{t e:TypeId}{n:Nat}{xs:List AV}(h:P.underlying t=some (.array n e)):CN P t xs=.agg xs:=by unfold CN;rw[h]
def CP {H:Type}(P:Program)(t:TypeId)(d:DataW H)(x:AV):Prop:=∃ys,gh P t d ys/\x=CN P t ys
theorem acK {H:Type}{P:Program}{w:World}{r:Reach}{base:Nat}{t:TypeId}{v:Value}{d:DataW H}{xs:List AV}{bh:Nat->Nat->Prop}(hv:Value.okWide P w r base t v)(hd:gh P t d xs)(h:xE bh w v.cells.toList xs):dh bh w v (CN P t xs):=by
 have single:∀{x:AV},xs=[x]->v.cells=#[v]->(∀fs,P.underlying t≠some (.struct fs))->(∀n e,P.underlying t≠some (.array n e))->dh bh w v (CN P t xs):=λ{x} hx hc hs hs'=>by subst hx;rw[hc]at h;have h1:=h.2.2 0 v x rfl rfl;unfold CN;grind
 cases hd with
 |bool _ b hu=>obtain⟨b',rfl⟩:=okWide_bool hu hv;exact single rfl rfl (by grind) (by grind)
 |int _ k n hu _=>obtain⟨b',rfl⟩:=okWide_int hu hv;exact single rfl rfl (by grind) (by grind)
 |str _ s hu=>obtain⟨b',rfl⟩:=okWide_string hu hv;exact single rfl rfl (by grind) (by grind)
 |nil _ e hu=>obtain⟨a,b,c,rfl⟩:=okWide_slice hu hv;exact single rfl rfl (by grind) (by grind)
 |slice _ e ds sp xs' hu _ _=>obtain⟨a,b,c,rfl⟩:=okWide_slice hu hv;exact single rfl rfl (by grind) (by grind)
 |struct _ fs ds pieces hu _ _ _=>obtain⟨cs,rfl,_⟩:=okWide_struct hu hv;unfold CN;rw[hu];have :=dh.agg (bh:=bh) (w:=w) cs.toList pieces.flatten h.1 h.2.1 h.2.2;omega
 |arr _ e n ds pieces hu _ _ _=>simp only[Value.okWide,hu]at hv;obtain⟨cs,rfl,_⟩:=hv;unfold CN;rw[hu];have :=dh.agg (bh:=bh) (w:=w) cs.toList pieces.flatten h.1 h.2.1 h.2.2;omega
theorem Zw {H:Type}{enc:TypeId×Value->H}{P:Program}{w:World}{r:Reach}{base:Nat}{held:Bool}{spare:Nat->Bool}{ts:List TypeId}(hl:laidOutB P=true)(hf:Bi P ts=true){us:List TypeId}{vs:List Value}{ds:List (DataW H)}{ps:List MemPlace}(hm:∀u,u∈us->u∈ts)(h:DataW.TrodAll enc P w 0 spare held us vs ds ps)(hv:∀(j:Nat)(t:TypeId)(v:Value),us[j]?=some t->vs[j]?=some v->Value.okWide P w r base t v):∃xs:List AV,vs.length=xs.length/\xs.length=us.length/\ds.length=us.length/\(∀(i:Nat)(u:TypeId)(d:DataW H)(x:AV),us[i]?=some u->ds[i]?=some d->xs[i]?=some x->CP P u d x)/\∀(i:Nat)(v:Value)(x:AV),vs[i]?=some v->xs[i]?=some x->dh (λb _=>b<w.heap.size) w v x:=by
 obtain⟨k1,k2,k3⟩:=Fz hl hf us vs ds ps hm h;have each:∀i,i<us.length->∃x,∀(u:TypeId)(v:Value)(d:DataW H),us[i]?=some u->vs[i]?=some v->ds[i]?=some d->CP P u d x/\dh (λb _=>b<w.heap.size) w v x:=λi hi=>by obtain⟨xs,g1,g2⟩:=k3 i us[i] (vs[i]'oO) (ds[i]'oO) (an hi) (an _) (an _);refine⟨CN P us[i] xs,λu v d hu VZ hd=>?_⟩;rw[an hi]at hu;rw[an oO]at VZ hd;obtain rfl:=ak hu;obtain rfl:=ak VZ;obtain rfl:=ak hd;exact⟨⟨xs,g1,rfl⟩,acK (hv i _ _ (an hi) (an _)) g1 g2⟩
 obtain⟨l,OZ,DU⟩:=ue us.length _ each;refine⟨l,oO,OZ,k2,λi u d x hu hd hx=>?_,λi v x VZ hx=>?_⟩;have hi:i<us.length:=by grind
 exact(DU i x hx u (vs[i]'oO) d hu (an _) hd).1;have hi:i<us.length:=by have :=(aG.1 hx).1;omega
 exact(DU i x hx us[i] v (ds[i]'oO) (an hi) VZ (an _)).2
def zH (P:Program)(ns:List String):Bool:=ns.all λn=>((P.globalNamed n).bind (P.globals[·]?)).all λgl=>P.readableRec gl.type&&decide (gl.type<P.types.size)
section
variable {H:Type}{enc:TypeId×Value->H}{P:Program}
theorem KV (hl:laidOutB P=true){W W':World}(hb:Below W.heap.size W W'){sp:Nat->Bool}:∀{ts:List TypeId}{vs:List Value}{ds:List (DataW H)}{ps:List MemPlace},(ts.all λt=>P.readableRec t&&decide (t<P.types.size))=true->(∀x∈ps,x.block<W.heap.size)->(∀x∈ps,sp x.block=true)->DataW.TrodAll enc P W 0 (λ_=>true) true ts vs ds ps->DataW.TrodAll enc P W' 0 sp true ts vs ds ps
 |[],[],[],_,_,_,_,h=>h
 |t::ts,v::vs,d::ds,ps,hr,hlt,hs,⟨p,q,h1,h2,e⟩=>by
  simp only[vK,aR,decide_eq_true_eq]at hr;have m1:∀x∈p,x∈ps:=by grind
  have m2:∀x∈q,x∈ps:=by grind
  exact⟨p,q,WideElems.Trod_stays hl hr.1.1 hr.1.2 h1 (λx hx=>hb.same (hlt x (m1 x hx))) (λx hx=>hs x (m1 x hx)),KV hl hb hr.2 (λx hx=>hlt x (m2 x hx)) (λx hx=>hs x (m2 x hx)) h2,e⟩
theorem KW (hl:laidOutB P=true){W W':World}(hb:Below W.heap.size W W'){sp:Nat->Bool}:∀{ns:List String}{gs:List (DataW H)}{ps:List MemPlace},zH P ns=true->(∀x∈ps,sp x.block=true)->DataW.TrodVars enc P W (λ_=>true) ns gs ps->DataW.TrodVars enc P W' sp ns gs ps
 |[],[],_,_,_,h=>h
 |[],_::_,_,_,_,h=>h.elim
 |_::_,[],_,_,_,h=>h.elim
 |n::ns,d::ds,ps,hv,hsp,h=>by
  have hlt:=h.lt;obtain⟨g,t,cs,fuel,p,q,h1,h2,h3,h4,hs,e⟩:=h;simp only[zH,vK,aR]at hv;have ht:P.readableRec t=true/\t<P.types.size:=by
   have :=hv.1;rw[h1]at this;cases hg:P.globals[g]?with
   |none=>grind
   |some gl=>grind
  have hp:∀x∈p,x.block<W.heap.size:=by grind
  have h3':W'.var? P n=some cs:=by
   unfold World.var? at h3⊢;rw[h1]at h3⊢;simp only[rV]at h3⊢;have hg:g<W.heap.size:=by
    cases hh:W.heap[g]?with
    |none=>grind
    |some o=>grind
   rw[hb.block g hg];exact h3
  exact⟨g,t,cs,fuel,p,q,h1,h2,h3',DataW.trod_stays (kids_book hl ht.1) (book_sized ht.1) (λh=>by cases h) ⟨ht.2,book_self t⟩ h4 (λx hx=>hb.same (hp x hx)) (λx hx=>hsp x (by grind)),KW hl hb (by simpa[zH]using hv.2) (λx hx=>hsp x (by grind)) hs,e⟩
theorem Sj {f:Func}{s:ChangeSpec}{apart fresh handsOn again:Bool}{W W':World}{args:Array Value}{v:Value}{ds gs:List (DataW H)}{before pa pv:List MemPlace}(hW:DataW.Whole enc P f.params.toList s.vars apart W args.toList ds gs before)(hres:∀(b:Nat)(sp:Nat->Bool)(hd:Bool),DataW.TrodAll enc P W' b sp hd f.resultTypes.toList (v.resultList f.resultTypes.size) (s.fn H (ds++gs)).results [])(hargs:∀sp:Nat->Bool,(∀p∈before,sp p.block=true)->DataW.TrodAll enc P W' 0 sp true f.params.toList args.toList (s.fn H (ds++gs)).args pa)(hvars:∀sp:Nat->Bool,(∀p∈before,sp p.block=true)->DataW.TrodVars enc P W' sp s.vars (s.fn H (ds++gs)).vars pv)(hps:before=pa++pv)(hb:Below W.heap.size W W')(hok:∀(j:Nat)(t:TypeId)(r:Value),f.resultTypes[j]?=some t->(v.resultList f.resultTypes.size)[j]?=some r->Value.okWide P W' .any 0 t r):s.post enc P f apart fresh handsOn again W args v W':=by
 have hlt:∀p∈before,p.block<W.heap.size:=λp hp=>hW.lt p hp;have hold:∀p∈before,(λb=>decide (b<W.heap.size)) p.block=true:=by grind
 refine⟨ds,gs,before,[],pa,pv,hW,hres _ _ _,hargs _ hold,hvars _ hold,World.keptBut_mono (λp hp=>⟨hp,?_⟩) (hb.frame (·∈before)),λ_=>?_⟩;grind;obtain⟨_,_,_,_,_,hz,hn⟩:=hW;refine⟨hok,_,_,([]++pa)++pv,⟨[]++pa,pv,trodAll_append (hargs _ (λ_ _=>rfl)) (hres _ _ _),hvars _ (λ_ _=>rfl),rfl,?_,?_⟩,?_⟩;intro b off hp;have hin:MemPlace.cell b off∈before:=by rw[hps];simpa using hp
 rw[hb.frozen (hlt _ hin)];exact hz b off hin;grind;grind
end
theorem Wq {H:Type}{enc:TypeId×Value->H}{Cx:Ctx}{fid:FuncId}{f:Func}{s:ChangeSpec}{apart fresh handsOn again:Bool}{W:World}{base:Nat}{args:Array Value}{ds gs:List (DataW H)}{before:List MemPlace}{ts:List TypeId}{tb:TypeId}{r:Reach}(hl:laidOutB Cx.P=true)(hf:Bi Cx.P ts=true)(hsub:f.params.toList.all (λu=>ts.contains u)=true)(hread:(f.params.toList.all λt=>Cx.P.readableRec t&&decide (t<Cx.P.types.size))=true)(hvars:zH Cx.P s.vars=true)(hres:f.resultTypes=#[tb])(htb:Cx.P.underlying tb=some .bool)(hspec:(s.fn H (ds++gs)).results=[.lit (.bool true)]/\(s.fn H (ds++gs)).args=ds/\(s.fn H (ds++gs)).vars=gs)(hval:∀(j:Nat) t v,f.params[j]?=some t->args[j]?=some v->Value.okWide Cx.P W r base t v)(hW:DataW.Whole enc Cx.P f.params.toList s.vars apart W args.toList ds gs before)(hJ:Cx.J W/\oR (λb _=>b<W.heap.size) W)(hng:Cx.mD<=W.heap.size)(akx:∀xs:List AV,xs.length=f.params.size->ds.length=f.params.size->(∀(i:Nat)(u:TypeId)(d:DataW H)(x:AV),f.params[i]?=some u->ds[i]?=some d->xs[i]?=some x->CP Cx.P u d x)->au Cx fid xs (λq=>q=.val (.bool true))):Calls Cx.P fid args W λe W'=>∃v,e=.returned v/\s.post enc Cx.P f apart fresh handsOn again W args v W':=by
 have hW':=hW;obtain⟨p,q,hA,hV,rfl,hfz,JP⟩:=hW;obtain⟨xs,h1,h2,h3,h4,h5⟩:=Zw hl hf (λu hu=>by grind) hA (r:=r) (base:=base) (λj t v hj hv=>hval j t v (by grind) (by grind));obtain⟨_,hc⟩:=akx xs oO oO (λi u d x hu hd hx=>h4 i u d x (by grind) hd hx);have dm:=hc (λb _=>b<W.heap.size) W args.toList hJ hng (λb o h=>h) h1 h5;simp only[Ct]at dm;refine dm.mono λe W' ⟨v,rr,he,hr,aky,hb⟩=>?_;subst hr;have hv:v=.bool true:=by cases aky;rfl
 subst hv;refine⟨_,he,Sj (pa:=p) (pv:=q) hW' (λb sp hd=>?_) (λsp hs=>?_) (λsp hs=>?_) rfl hb (ok_one hres rfl (okWide_bool_mk htb _))⟩;rw[hspec.1,hres];exact trodAll_mk1 (shut_bool htb _);rw[hspec.2.1];exact KV hl hb hread (λx hx=>hW'.lt x (jl _ hx)) (λx hx=>hs x (jl _ hx)) hA;rw[hspec.2.2];exact KW hl hb hvars (λx hx=>hs x (sq _ hx)) hV
theorem Bj {α β:Type}(enc:α->β):∀(l:List β),(∀x,x∈l->∃a,x=enc a)->∃ls:List α,l=ls.map enc|[],_=>⟨[],rfl⟩|x::l,h=>by obtain⟨a,ha⟩:=h x (by simp);obtain⟨ls,hls⟩:=Bj enc l λy hy=>h y (by simp[hy]);exact⟨a::ls,by grind⟩
section
variable {H:Type}{P:Program}{t:TypeId}{d:DataW H}{xs:List AV}
theorem gh.mN (hu:P.underlying t=some .bool)(h:gh P t d xs):∃b,xs=[.bool b]:=by
 cases h with
 |bool _ b _=>simp
 |_=>simp_all
theorem gh.fL {k:IntKind}(hu:P.underlying t=some (.int k))(h:gh P t d xs):∃n,xs=[.int k n]/\(Lit.int k n).wf=true:=by
 cases h with
 |int _ k' n h1 h2=>grind
 |_=>simp_all
theorem gh.jL (hu:P.underlying t=some .string)(h:gh P t d xs):∃s,xs=[.str s]:=by
 cases h with
 |str _ s _=>simp
 |_=>simp_all
theorem gh.mz {e:TypeId}{α:Type}{enc:α->List AV}(hu:P.underlying t=some (.slice e))(he:∀(d:DataW H)(x:List AV),gh P e d x->∃a,x=enc a)(h:gh P t d xs):∃ls:List α,xs=[.sl (ls.map enc)]:=by
 cases h with
 |nil _ _ _=>simp
 |slice _ e' ds sp ys h1 h2 h3=>
  rw[hu]at h1;obtain rfl:e=e':=by grind
  obtain⟨ls,hls⟩:=Bj enc ys λx hx=>by
   obtain⟨i,hi⟩:=iL hx;have hlt:i<ds.length:=by rw[h2];exact(aG.1 hi).1
   exact he _ x (h3 i _ x (an hlt) hi)
  grind
 |_=>simp_all
theorem gh.acL {e:TypeId}{n:Nat}(hu:P.underlying t=some (.array n e))(h:gh P t d xs):∃(ds:List (DataW H)) (pieces:List (List AV)),d=.agg ds/\xs=pieces.flatten/\ds.length=n/\pieces.length=n/\∀(i:Nat)(d:DataW H)(x:List AV),ds[i]?=some d->pieces[i]?=some x->gh P e d x:=by
 cases h with
 |arr _ e' n' ds pieces h1 h2 h3 h4=>grind
 |_=>simp_all
theorem gh.ow {fs:Array Field}(hu:P.underlying t=some (.struct fs))(h:gh P t d xs):∃(ds:List (DataW H)) (pieces:List (List AV)),d=.agg ds/\xs=pieces.flatten/\ds.length=fs.size/\pieces.length=fs.size/\∀(i:Nat)(f:Field)(d:DataW H)(x:List AV),fs.toList[i]?=some f->ds[i]?=some d->pieces[i]?=some x->gh P f.type d x:=by
 cases h with
 |struct _ fs' ds pieces h1 h2 h3 h4=>grind
 |_=>simp_all
end
mutual def AV.wt:AV->Nat|.str s=>s.length+1|.sl xs=>AV.MV xs+1|.bool _=>1|.int _ _=>1|_=>0 def AV.wtL:List AV->Nat|[]=>0|x::xs=>AV.wt x+AV.wtL xs def AV.MV:List (List AV)->Nat|[]=>0|x::xs=>AV.wtL x+AV.MV xs end
theorem Sk (a b:List AV):AV.wtL (a++b)=AV.wtL a+AV.wtL b:=by
 induction a with
 |nil=>simp[AV.wtL]
 |cons x a ih=>simp[AV.wtL,ih];omega
theorem aeG (l:List (List AV)):AV.wtL l.flatten=AV.MV l:=by
 induction l with
 |nil=>rfl
 |cons x l ih=>simp[AV.MV,Sk,ih]
theorem ahO (l:List (List AV)):AV.MV l=(l.map AV.wtL).sum:=by
 induction l with
 |nil=>rfl
 |cons x l ih=>simp[AV.MV,ih]
theorem acM:∀(l:List (List AV))(ms:List Nat),ms.length=l.length->(∀(i:Nat)(x:List AV)(m:Nat),l[i]?=some x->ms[i]?=some m->AV.wtL x<=m)->AV.MV l<=ms.sum
 |[],ms,_,_=>by simp[AV.MV]
 |x::l,[],h,_=>by simp at h
 |x::l,m::ms,h,hi=>by have h0:=hi 0 x m rfl rfl;have ih:=acM l ms (by grind) λi y k hy hk=>hi (i+1) y k (by grind) (by grind);simp only[AV.MV,sr];omega
inductive AV.Small (M:Nat):AV->Prop|bool (b:Bool):AV.Small M (.bool b)|int (k:IntKind)(n:Int):AV.Small M (.int k n)|str (s:List UInt8):s.length<=M->AV.Small M (.str s)|sl (xs:List (List AV)):xs.length<=M->(∀ys,ys∈xs->∀y,y∈ys->AV.Small M y)->AV.Small M (.sl xs)
def KX (P:Program)(ts:List TypeId):Bool:=ts.all λt=>match P.underlying t with|some (.slice e)=>decide (0<P.bytesOf e)|_=>true
theorem tB {H:Type}{P:Program}{e:TypeId}:∀{ds:List (DataW H)}{d:DataW H}{n:Nat},d∈ds->n∈d.weights P e->n∈DataW.weightsAll P e ds|x::ds,d,n,h,hn=>by simp only[DataW.weightsAll,bf];rcases aC.1 h with rfl|h;grind;exact .inr (tB h hn)
theorem rF {H:Type}{P:Program}:∀{ts:List TypeId}{ds:List (DataW H)}{i:Nat}{t:TypeId}{d:DataW H}{n:Nat},ts[i]?=some t->ds[i]?=some d->n∈d.weights P t->n∈DataW.weightsEach P ts ds
 |[],ds,i,t,d,n,h1,h2,h3=>by simp at h1
 |u::ts,[],i,t,d,n,h1,h2,h3=>by simp at h2
 |u::ts,x::ds,0,t,d,n,h1,h2,h3=>by simp at h1 h2;subst h1;subst h2;simp[DataW.weightsEach,h3]
 |u::ts,x::ds,i+1,t,d,n,h1,h2,h3=>by simp only[DataW.weightsEach,bf];exact .inr (rF (by simpa using h1) (by grind) h3)
theorem gh.small {H:Type}{P:Program}{M:Nat}{ts:List TypeId}(hf:Bi P ts=true)(hb:KX P ts=true){t:TypeId}{d:DataW H}{xs:List AV}(h:gh P t d xs):t∈ts->(∀n,n∈d.weights P t->n<=M)->∀x,x∈xs->AV.Small M x:=by
 induction h with
 |bool t b hu=>intro ht _ x hx;simp at hx;subst hx;exact .bool b
 |int t k n hu _=>intro ht _ x hx;simp at hx;subst hx;exact .int k n
 |str t s hu=>intro ht hw x hx;simp at hx;subst hx;exact .str s (hw _ (by simp[DataW.weights]))
 |nil t e hu=>intro ht _ x hx;simp at hx;subst hx;exact .sl [] (zL) (by simp)
 |slice t e ds sp ys hu hl _ ih=>
  intro ht hw x hx;simp at hx;subst hx;have hpos:0<P.bytesOf e:=by have :=br.1 hb t ht;rw[hu]at this;simpa using this
  have he:e∈ts:=by have :=(CK hf ht).2;unfold KS at this;rw[hu]at this;simp only[aR,CM]at this;exact this.1
  simp only[DataW.weights,hu]at hw;refine .sl ys ?_ λzs hz y hy=>?_;have :=hw _ kq;have h2:(ds.length+sp.length)*1<=(ds.length+sp.length)*P.bytesOf e:=Nat.mul_le_mul_left _ hpos;omega;obtain⟨i,hi⟩:=iL hz;have hlt:i<ds.length:=by rw[hl];exact(aG.1 hi).1
  refine ih i _ zs (an hlt) hi he (λn hn=>hw n ?_) y hy;exact cg _ (jl _ (tB (aT hlt) hn))
 |struct t fs ds pieces hu hl hp _ ih=>
  intro ht hw x hx;obtain⟨piece,hpm,hxp⟩:=Cu.1 hx;obtain⟨i,hi⟩:=iL hpm;have hlt:i<ds.length:=by have :=(aG.1 hi).1;omega
  have hlf:i<fs.toList.length:=oO
  have he:(fs.toList[i]).type∈ts:=by have :=(CK hf ht).2;unfold KS at this;rw[hu]at this;have :=br.1 this _ (aT hlf);simpa using this
  simp only[DataW.weights,hu]at hw;exact ih i _ _ piece (an hlf) (an hlt) hi he (λn hn=>hw n (rF (t:=(fs.toList[i]).type) (by rw[aJ,an hlf];rfl) (an hlt) hn)) x hxp
 |arr t e n ds pieces hu hl hp _ ih=>
  intro ht hw x hx;obtain⟨piece,hpm,hxp⟩:=Cu.1 hx;obtain⟨i,hi⟩:=iL hpm;have hlt:i<ds.length:=by have :=(aG.1 hi).1;omega
  have he:e∈ts:=by have :=(CK hf ht).2;unfold KS at this;rw[hu]at this;simpa using this
  simp only[DataW.weights,hu]at hw;exact ih i _ piece (an hlt) hi he (λn hn=>hw n (tB (aT hlt) hn)) x hxp
theorem AV.Small.jL {M:Nat}{s:List UInt8}(h:AV.Small M (.str s)):s.length<=M:=by cases h;assumption
theorem AV.Small.kP {M:Nat}{xs:List (List AV)}(h:AV.Small M (.sl xs)):xs.length<=M/\∀ys,ys∈xs->∀y,y∈ys->AV.Small M y:=by cases h;grind
theorem Ih {P:Program}{W:World}{n:String}{d:DataW Unit}:∀{l:List (String×DataW Unit)}{ps:List MemPlace},DataW.LaidVars P W l ps->(n,d)∈l->∃g t cs fuel p,P.globalNamed n=some g/\(P.globals[g]?).map (·.type)=some t/\W.var? P n=some cs/\DataW.trod (λ_=>()) P W 0 (λ_=>true) false fuel t cs.toList=some (d,p)|(m,e)::l,ps,⟨g,t,cs,fuel,p,q,h1,h2,h3,h4,h5,h6⟩,h=>by rcases aC.1 h with h|h;grind;exact Ih h5 h
theorem acN {P:Program}{W:World}{l:List (String×DataW Unit)}{name:String}{k:IntKind}{zs:List Int}{g:Nat}{t e:TypeId}{n:Nat}(hg:P.globalNamed name=some g)(hty:(P.globals[g]?).map (·.type)=some t)(ht:P.underlying t=some (.array n e))(he:P.underlying e=some (.int k))(hce:P.cellsOf e=1)(hct:P.cellsOf t=n)(h:laidMet P l W)(hm:(name,Lib.tabData k zs)∈l):Lib.TabIs P W name k zs:=by obtain⟨ps,hl,_⟩:=h;obtain⟨g',t',cs,fuel,p,hg',ht',afz,hd⟩:=Ih hl hm;obtain rfl:=ak (hg.symm.trans hg');obtain rfl:=ak (hty.symm.trans ht');unfold Lib.TabIs;rw[afz,<-Lib.cells_of_tab ht he hce hct hd]
theorem acO {P:Program}{W:World}{l:List (String×DataW Unit)}{name:String}{d:DataW Unit}{g:Nat}(hg:P.globalNamed name=some g)(h:laidMet P l W)(hm:(name,d)∈l):g<W.heap.size:=by obtain⟨ps,hl,_⟩:=h;obtain⟨g',t',cs,fuel,p,hg',ht',afz,hd⟩:=Ih hl hm;obtain rfl:=ak (hg.symm.trans hg');unfold World.var? at afz;grind
theorem FA {H:Type}{enc:TypeId×Value->H}{P:Program}{w:World}{base:Nat}{held:Bool}{spare:Nat->Bool}:∀{us:List TypeId}{vs:List Value}{ds:List (DataW H)}{ps:List MemPlace},DataW.TrodAll enc P w base spare held us vs ds ps->ds.length=us.length|[],[],[],_,_=>rfl|_::us,_::vs,_::ds,_,⟨_,_,_,h,_⟩=>by simp[FA h]
theorem Wr {H:Type}{enc:TypeId×Value->H}{P:Program}{ts:List TypeId}{vars:List String}{apart:Bool}{w:World}{vs:List Value}{ds gs:List (DataW H)}{ps:List MemPlace}(h:DataW.Whole enc P ts vars apart w vs ds gs ps):ds.length=ts.length:=by obtain⟨_,_,hA,_⟩:=h;exact FA hA
theorem Sl {H:Type}{enc:TypeId×Value->H}{P:Program}{ts:List TypeId}{apart:Bool}{w:World}{vs:List Value}{ds gs:List (DataW H)}{ps:List MemPlace}(h:DataW.Whole enc P ts [] apart w vs ds gs ps):gs=[]:=by obtain⟨_,_,_,hV,_⟩:=h;exact(trodVars_none hV).1
theorem Ws {H:Type}{P:Program}{ts us:List TypeId}{ds gs:List (DataW H)}(h:(DataW.weightsEach P (ts++us) (ds++gs)).all (·<=reachBytes)=true){i:Nat}{t:TypeId}{d:DataW H}(h1:ts[i]?=some t)(h2:ds[i]?=some d):∀n,n∈d.weights P t->n<=reachBytes:=λn hn=>by
 have l1:i<ts.length:=by grind
 have l2:i<ds.length:=by grind
 have :=br.1 h n (rF (i:=i) (t:=t) (d:=d) (by grind) (by grind) hn);grind
end Qv
namespace Qv
open Go Go.RowKit
theorem Ii {e:Bool}{f:Bool->FV}{K:FV->Prop}(h:Al λt:Bool=>t=e->K (f t)):∃v,(Al λt:Bool=>t=e->f t=v)/\K v:=⟨f e,⟨λt ht=>ht▸rfl⟩,h.out e rfl⟩
theorem GB {x:FV}{K:FV->Prop}(h:K x):∃v,x=v/\K v:=⟨x,rfl,h⟩
theorem zI {x:FV}{K:FV->Prop}(h:force x K):∃v,force x (λu=>u=v)/\K v:=by rw[force_eq]at h;exact⟨x,by rw[force_eq],h⟩
theorem acP {op:BinOp}{k:IntKind}{a b:Int}{K:FV->Prop}(h:Of op k a b K):∃v,Of op k a b (λu=>u=v)/\K v:=by unfold Of at h⊢;cases op<;>first|exact Ii h|exact h.elim|(obtain⟨c,h1,h2⟩:=h;exact⟨_,⟨c,h1,rfl⟩,h2⟩)|grind
theorem Wt {op:BinOp}{k:IntKind}{a b:Int}{K:FV->Prop}(h:BN op k a b K):∃v,BN op k a b (λu=>u=v)/\K v:=by unfold BN at h⊢;grind
theorem acQ {op:BinOp}{a b:List UInt8}{K:FV->Prop}(h:Og op a b K):∃v,Og op a b (λu=>u=v)/\K v:=by unfold Og at h⊢;cases op<;>first|exact Ii h|exact h.elim|grind
theorem Zx {C:Ctx}{aD:List (Nat×List FV)}{t:TypeId}{a:FV}{K:FV->Prop}(h:mI C aD t a K):∃v,mI C aD t a (λu=>u=v)/\K v:=by
 unfold mI at h⊢;repeat' split at h
 all_goals first|exact h.elim|exact GB h|skip
 all_goals obtain⟨A,ys,B,e1,e2,h⟩:=h;repeat' split at h
 all_goals first|exact h.elim|exact⟨_,⟨A,ys,B,e1,e2,by simp_all⟩,h⟩
theorem JV {C:Ctx}{s:TypeId}{x:FV}{f:Nat}{K:FV->Prop}(h:mJ C s x f K):∃v,mJ C s x f (λu=>u=v)/\K v:=by
 unfold mJ at h⊢;repeat' split at h
 all_goals grind
theorem Wu {C:Ctx}{s:TypeId}{x:FV}{f:Nat}{K:FV->Prop}(h:vA C s x f K):∃v,vA C s x f (λu=>u=v)/\K v:=by
 unfold vA at h⊢;repeat' split at h
 all_goals first|exact h.elim|exact GB h
theorem Wv {C:Ctx}{t:TypeId}{x i:FV}{K:FV->Prop}(h:vB C t x i K):∃v,vB C t x i (λu=>u=v)/\K v:=by
 unfold vB at h⊢;repeat' split at h
 all_goals first|exact h.elim|(obtain⟨h0,c,h1,h2⟩:=h;exact⟨_,⟨h0,c,h1,rfl⟩,h2⟩)|skip
 all_goals obtain⟨m,e1,e2,h⟩:=h;repeat' split at h
 all_goals first|exact h.elim|exact⟨_,⟨m,e1,e2,by simp_all⟩,h⟩
theorem JW {C:Ctx}{aD:List (Nat×List FV)}{t:TypeId}{x i:FV}{K:FV->Prop}(h:jw C aD t x i K):∃v,jw C aD t x i (λu=>u=v)/\K v:=by
 unfold jw at h⊢;repeat' split at h
 all_goals first|exact h.elim|(obtain⟨m,base,e1,e2,e3,h⟩:=h;exact⟨_,⟨m,base,e1,e2,e3,rfl⟩,h⟩)|(obtain⟨g0,ys,g1,g2,h⟩:=h;exact⟨_,⟨g0,ys,g1,g2,rfl⟩,h⟩)|skip
 all_goals obtain⟨m,e1,e2,h⟩:=h;repeat' split at h
 all_goals first|exact h.elim|(obtain⟨base,g1,h⟩:=h;exact⟨_,⟨m,e1,e2,base,g1,rfl⟩,h⟩)|(obtain⟨ys,g1,h⟩:=h;exact⟨_,⟨m,e1,e2,ys,g1,rfl⟩,h⟩)|skip
 all_goals obtain⟨sym,h⟩:=h;cases sym
 exact⟨_,⟨m,e1,e2,false,rfl⟩,h⟩;obtain⟨base,g1,h⟩:=h;exact⟨_,⟨m,e1,e2,true,base,g1,rfl⟩,h⟩
theorem Zy {C:Ctx}{t:TypeId}{op:BinOp}{x y:FV}{K:FV->Prop}(h:DX C t op x y K):∃v,DX C t op x y (λu=>u=v)/\K v:=by
 unfold DX at h⊢;repeat' split at h
 all_goals first|exact h.elim|skip
 all_goals obtain⟨L,e1,e2,e3,e4,h⟩:=h;repeat' split at h
 all_goals first|exact h.elim|(obtain⟨v,g1,g2⟩:=Ii h;exact⟨v,⟨L,e1,e2,e3,e4,g1⟩,g2⟩)
theorem acR {C:Ctx}{t:TypeId}{op:BinOp}{x y:FV}{K:FV->Prop}(h:Hf C t op x y K):∃v,Hf C t op x y (λu=>u=v)/\K v:=by
 unfold Hf at h⊢;repeat' split at h
 all_goals first|exact h.elim|exact Wt h|exact acP h|exact acQ h|exact GB h|exact Ii h|exact Zy h
theorem Zz {C:Ctx}{t:TypeId}{op:BinOp}{x:FV}{K:FV->Prop}(h:AR C t op x K):∃v,AR C t op x (λu=>u=v)/\K v:=by unfold AR at h⊢;grind
theorem afA {op:UnOp}{x:FV}{K:FV->Prop}(h:RA op x K):∃v,RA op x (λu=>u=v)/\K v:=by
 unfold RA at h⊢;repeat' split at h
 all_goals first|exact h.elim|exact Ii h|(obtain⟨c,h1,h2⟩:=h;exact⟨_,⟨c,h1,rfl⟩,h2⟩)
theorem PD {C:Ctx}{aD:List (Nat×List FV)}{b:Builtin}{args:List FV}{types:List TypeId}{K:FV->Prop}(h:jG C aD b args types K):∃v,jG C aD b args types (λu=>u=v)/\K v:=by
 unfold jG at h⊢;repeat' split at h
 all_goals first|exact h.elim|exact GB h|(obtain⟨c,h1,h2⟩:=h;exact⟨_,⟨c,h1,rfl⟩,h2⟩)|(obtain⟨c,h1,h2⟩:=h;exact⟨_,⟨c,by simp_all<;>omega,rfl⟩,h2⟩)
def MW (C:Ctx)(f:FV)(args:List FV)(K:FV->Prop):Prop:=match f with
 |.p (.fn (.func g) first captured)=>match FV.fQ args with|some xs=>∃x,au C g (first++xs++captured) (λr=>r=.val x)/\K (.p x)|none=>False
 |.fn (.func g) first captured=>match FV.fQ (first++args++captured)with|some xs=>∃x,au C g xs (λr=>r=.val x)/\K (.p x)|none=>False
 |_=>False
theorem ZA {C:Ctx}{f:FV}{args:List FV}{K:FV->Prop}(h:MW C f args K):∃v,zv C f args (λu=>u=v)/\K v:=by unfold MW at h;split at h;simp only[zv];split at h;rename_i xs hx;simp only[hx];obtain⟨x,h1,h2⟩:=h;exact⟨_,⟨_,h1,λr hr=>by subst hr;rfl⟩,h2⟩;grind;simp only[zv];split at h;rename_i xs hx;simp only[hx];obtain⟨x,h1,h2⟩:=h;exact⟨_,⟨_,h1,λr hr=>by subst hr;rfl⟩,h2⟩;grind;grind
def afB (C:Ctx)(S:ag)(op:Op)(K:FV->Prop):Prop:=match op with
 |.move x=>force (S.val x) K
 |.assign x=>force (S.val x) K
 |.pick c a b=>match S.val c with|.p (.bool true)=>force (S.val a) K|.p (.bool false)=>force (S.val b) K|_=>False
 |.binOp op t x y _=>match Mj y with|true=>AR C t op (S.val x) K|false=>match Mk y with|true=>∃v,Ml C t op (S.val x) (λu=>u=v)/\K v|false=>Hf C t op (S.val x) (S.val y) K
 |.unOp op _ x=>RA op (S.val x) K
 |.load t a=>mI C S.aD t (S.val a) K
 |.fieldAddr s x f=>mJ C s (S.val x) f K
 |.field s x f=>vA C s (S.val x) f K
 |.indexAddr t x i=>jw C S.aD t (S.val x) (S.val i) K
 |.index t x i=>vB C t (S.val x) (S.val i) K
 |.call c=>match c.callee with|.builtin b=>jG C S.aD b (c.args.toList.map S.val) c.argTypes.toList K|.value f=>MW C (S.val f) (c.args.toList.map S.val) K|.invoke _ _=>False
 |.nilCheck x=>match S.val x with|.ptr b off=>K (.ptr b off)|.p (.imp xs)=>K (.p (.imp xs))|.gB o base off=>K (.gB o base off)|.p (.fn (.func f) a b)=>K (.p (.fn (.func f) a b))|.fn (.func f) a b=>K (.fn (.func f) a b)|_=>False
 |.extract x i=>match S.val x with
  |.eS xs=>match gb i xs with|y::_=>K y|[]=>False
  |.p (.eS xs)=>match gb i xs with|y::_=>K (.p y)|[]=>False
  |_=>False
 |op=>∃v,ej C S op (λu=>u=v)/\K v
theorem UJ {C:Ctx}{S:ag}{op:Op}{K:FV->Prop}(h:afB C S op K):∃v,ej C S op (λu=>u=v)/\K v:=by unfold afB at h;split at h;exact zI h;exact zI h;simp only[ej];split at h;rename_i hc;simp only[hc];exact zI h;rename_i hc;simp only[hc];exact zI h;grind;simp only[ej];split at h;rename_i hc;simp only[hc];exact Zz h;rename_i hc;simp only[hc];split at h;grind;rename_i YM;simp only[YM];exact acR h;exact afA h;exact Zx h;exact JV h;exact Wu h;exact JW h;exact Wv h;simp only[ej];split at h;rename_i hc;simp only[hc];exact PD h;rename_i hc;simp only[hc];exact ZA h;grind;simp only[ej];grind;simp only[ej];grind;exact h
def acS (C:Ctx)(o:Oper)(K:ag->Prop)(S:ag):Prop:=afB C S o.op λv=>K (S.put o.dst v)
def JX (C:Ctx)(ops:Array Oper):List Oper->(ag->Prop)->ag->Prop
 |[],K,S=>K S
 |o::rest,K,S=>match o.guard with
  |none=>acS C o (JX C ops rest K) S
  |some (j,want)=>match(ops[j]?).bind (·.dst)with
   |none=>False
   |some d=>match S.get d with
    |.p (.bool b)=>match Hq b want with|true=>acS C o (JX C ops rest K) S|false=>JX C ops rest K (S.put o.dst (.p (.eS [])))
    |.p (.eS [])=>JX C ops rest K (S.put o.dst (.p (.eS [])))
    |_=>False
theorem yx {C:Ctx}{ops:Array Oper}{K:ag->Prop}:∀(l:List Oper)(S:ag),JX C ops l K S->Gw C ops l K S|[],S,h=>h|o::rest,S,h=>by unfold JX at h;unfold Gw;split at h;rename_i hg;simp only[hg];unfold acS at h;obtain⟨v,h1,h2⟩:=UJ h;exact⟨v,h1,yx rest _ h2⟩;rename_i j want hg;simp only[hg];split at h;grind;rename_i d hd;simp only[hd];split at h;rename_i b hb;simp only[hb];split at h;rename_i hs;simp only[hs];unfold acS at h;obtain⟨v,h1,h2⟩:=UJ h;exact⟨v,h1,yx rest _ h2⟩;rename_i hs;simp only[hs];exact yx rest _ h;rename_i hb;simp only[hb];exact yx rest _ h;grind
theorem cw {C:Ctx}{call:iG}{Y:ov}{ops:Array Oper}{K:ag->Prop}{S:ag}(m:Nat)(hd:AT ops m=true)(h:JX C ops (ops.toList.take m) (oE C call Y ops (ops.toList.drop m) K) S):jW C call Y ops true K S:=by unfold jW;exact⟨.lex m,hd,yx _ _ h⟩
theorem PF {C:Ctx}{call:iG}{Y:ov}{ops:Array Oper}{K:ag->Prop}{S:ag}(x:FV)(d:Nat)(hd:AT ops ops.size=true)(hk:oU ops.toList=[d])(h:JX C ops ops.toList (λS'=>S'.get d=x) S)(hK:K ((S.ur (dstsOf ops.toList)).put (some d) x)):jW C call Y ops true K S:=by
 unfold jW;refine⟨.keep (λvs=>vs=[x]),hd,?_,?_⟩;refine yx _ _ ?_;have e:(λS':ag=>getAll S' (oU ops.toList)=[x])=λS'=>S'.get d=x:=by funext S';rw[hk];show([S'.get d]=[x])=_;rw[kg];simp
 grind;rw[hk];exact⟨λv=>⟨λhv=>by grind⟩⟩
theorem UK {C:Ctx}{ops:Array Oper}{K:ag->Prop}{S:ag}(x:FV)(d:Nat)(hk:oU ops.toList=[d])(h:JX C ops ops.toList (λS'=>S'.get d=x) S)(hK:K ((S.ur (dstsOf ops.toList)).put (some d) x)):Gw C ops ops.toList (λS'=>getAll S' (oU ops.toList)=[x]) S/\Eb K (S.ur (dstsOf ops.toList)) (oU ops.toList) (λvs=>vs=[x]):=by
 refine⟨?_,?_⟩;refine yx _ _ ?_;have e:(λS':ag=>getAll S' (oU ops.toList)=[x])=λS'=>S'.get d=x:=by funext S';rw[hk];show([S'.get d]=[x])=_;rw[kg];simp
 grind;rw[hk];exact⟨λv=>⟨λhv=>by grind⟩⟩
end Qv
open Go Go.Proofs Go.RowKit
namespace Qv
theorem mM {p:Prop}(h:p:=by first|omega|(dsimp only;omega)):p:=h
def ZB (w:World):Prop:=Lib.TabIs Tryz.prog w "internal/strconv.uint64pow10" .u64 Lib.pow10Tab
theorem Ij:Tryz.prog.globalNamed "internal/strconv.uint64pow10" =some 1:=kK
theorem PG (w w':World)(h:∀k,k<4->w'.heap[k]?=w.heap[k]?)(hJ:ZB w):ZB w':=by unfold ZB Lib.TabIs at*;rw[<-hJ];simp only[World.var?,Ij,rV,h 1 dD]
abbrev v8:Value:=.int .u8 0
def jh:List (TypeId×jE):=[(3,⟨1,8,.int .i64,[.int .i64 0]⟩),(4,⟨1,1,.bool,[.bool false]⟩),(54,⟨33,40,.struct [(0,33),(32,3)],[v8,v8,v8,v8,v8,v8,v8,v8,v8,v8,v8,v8,v8,v8,v8,v8,v8,v8,v8,v8,v8,v8,v8,v8,v8,v8,v8,v8,v8,v8,v8,v8,.int .i64 0]⟩),(9,⟨1,16,.str,[.string ⟨#[]⟩]⟩),(28,⟨1,24,.slice 109,[.slice none 0 0]⟩),(23,⟨1,24,.slice 39,[.slice none 0 0]⟩),(62,⟨1,24,.slice 54,[.slice none 0 0]⟩),(33,⟨32,32,.array 32 5,[v8,v8,v8,v8,v8,v8,v8,v8,v8,v8,v8,v8,v8,v8,v8,v8,v8,v8,v8,v8,v8,v8,v8,v8,v8,v8,v8,v8,v8,v8,v8,v8]⟩),(209,⟨1,4,.int .u32,[.int .u32 0]⟩),(109,⟨172,296,.struct [(0,54),(33,3),(34,54),(67,3),(68,54),(101,9),(102,3),(103,9),(104,9),(105,54),(138,54),(171,62)],[v8,v8,v8,v8,v8,v8,v8,v8,v8,v8,v8,v8,v8,v8,v8,v8,v8,v8,v8,v8,v8,v8,v8,v8,v8,v8,v8,v8,v8,v8,v8,v8,.int .i64 0,.int .i64 0,v8,v8,v8,v8,v8,v8,v8,v8,v8,v8,v8,v8,v8,v8,v8,v8,v8,v8,v8,v8,v8,v8,v8,v8,v8,v8,v8,v8,v8,v8,v8,v8,.int .i64 0,.int .i64 0,v8,v8,v8,v8,v8,v8,v8,v8,v8,v8,v8,v8,v8,v8,v8,v8,v8,v8,v8,v8,v8,v8,v8,v8,v8,v8,v8,v8,v8,v8,v8,v8,.int .i64 0,.string ⟨#[]⟩,.int .i64 0,.string ⟨#[]⟩,.string ⟨#[]⟩,v8,v8,v8,v8,v8,v8,v8,v8,v8,v8,v8,v8,v8,v8,v8,v8,v8,v8,v8,v8,v8,v8,v8,v8,v8,v8,v8,v8,v8,v8,v8,v8,.int .i64 0,v8,v8,v8,v8,v8,v8,v8,v8,v8,v8,v8,v8,v8,v8,v8,v8,v8,v8,v8,v8,v8,v8,v8,v8,v8,v8,v8,v8,v8,v8,v8,v8,.int .i64 0,.slice none 0 0]⟩),(34,⟨1,24,.slice 33,[.slice none 0 0]⟩),(42,⟨1,8,.int .i64,[.int .i64 0]⟩),(83,⟨139,264,.struct [(0,3),(1,54),(34,3),(35,54),(68,9),(69,3),(70,9),(71,54),(104,54),(137,81),(138,62)],[.int .i64 0,v8,v8,v8,v8,v8,v8,v8,v8,v8,v8,v8,v8,v8,v8,v8,v8,v8,v8,v8,v8,v8,v8,v8,v8,v8,v8,v8,v8,v8,v8,v8,v8,.int .i64 0,.int .i64 0,v8,v8,v8,v8,v8,v8,v8,v8,v8,v8,v8,v8,v8,v8,v8,v8,v8,v8,v8,v8,v8,v8,v8,v8,v8,v8,v8,v8,v8,v8,v8,v8,.int .i64 0,.string ⟨#[]⟩,.int .i64 0,.string ⟨#[]⟩,v8,v8,v8,v8,v8,v8,v8,v8,v8,v8,v8,v8,v8,v8,v8,v8,v8,v8,v8,v8,v8,v8,v8,v8,v8,v8,v8,v8,v8,v8,v8,v8,.int .i64 0,v8,v8,v8,v8,v8,v8,v8,v8,v8,v8,v8,v8,v8,v8,v8,v8,v8,v8,v8,v8,v8,v8,v8,v8,v8,v8,v8,v8,v8,v8,v8,v8,.int .i64 0,.slice none 0 0,.slice none 0 0]⟩),(37,⟨5,88,.struct [(0,9),(1,9),(2,3),(3,34),(4,35)],[.string ⟨#[]⟩,.string ⟨#[]⟩,.int .i64 0,.slice none 0 0,.slice none 0 0]⟩),(259,⟨1,24,.slice 261,[.slice none 0 0]⟩),(261,⟨3,48,.struct [(0,4),(1,9),(2,259)],[.bool false,.string ⟨#[]⟩,.slice none 0 0]⟩),(5,⟨1,1,.int .u8,[.int .u8 0]⟩),(81,⟨1,24,.slice 9,[.slice none 0 0]⟩),(35,⟨1,24,.slice 83,[.slice none 0 0]⟩),(210,⟨8,32,.array 8 209,[.int .u32 0,.int .u32 0,.int .u32 0,.int .u32 0,.int .u32 0,.int .u32 0,.int .u32 0,.int .u32 0]⟩),(24,⟨1,24,.slice 5,[.slice none 0 0]⟩),(117,⟨1,8,.func,[.nilFunc]⟩),(39,⟨37,120,.struct [(0,33),(32,37)],[v8,v8,v8,v8,v8,v8,v8,v8,v8,v8,v8,v8,v8,v8,v8,v8,v8,v8,v8,v8,v8,v8,v8,v8,v8,v8,v8,v8,v8,v8,v8,v8,.string ⟨#[]⟩,.string ⟨#[]⟩,.int .i64 0,.slice none 0 0,.slice none 0 0]⟩),(269,⟨64,256,.array 64 209,List.replicate 64 (.int .u32 0)⟩),(194,⟨1,8,.int .u64,[.int .u64 0]⟩),(41,⟨1,24,.slice 3,[.slice none 0 0]⟩),(148,⟨1,8,.map 54 4,[.map none]⟩),(198,⟨1,8,.map 33 34,[.map none]⟩),(200,⟨1,8,.map 33 4,[.map none]⟩),(163,⟨1,24,.slice 166,[.slice none 0 0]⟩),(166,⟨34,48,.struct [(0,54),(33,117)],[v8,v8,v8,v8,v8,v8,v8,v8,v8,v8,v8,v8,v8,v8,v8,v8,v8,v8,v8,v8,v8,v8,v8,v8,v8,v8,v8,v8,v8,v8,v8,v8,.int .i64 0,.nilFunc]⟩),(337,⟨1,8,.ptr 339,[.pointer none]⟩),(153,⟨1,8,.map 54 62,[.map none]⟩),(316,⟨1,8,.map 3 318,[.map none]⟩),(257,⟨1,8,.int .u64,[.int .u64 0]⟩),(347,⟨1,8,.ptr 349,[.pointer none]⟩),(296,⟨1,8,.func,[.nilFunc]⟩),(188,⟨1,8,.map 54 28,[.map none]⟩),(335,⟨1,8,.func,[.nilFunc]⟩),(236,⟨1,8,.func,[.nilFunc]⟩),(349,⟨2,16,.struct [(0,3),(1,4)],[.int .i64 0,.bool false]⟩),(121,⟨1,8,.func,[.nilFunc]⟩),(275,⟨1,8,.func,[.nilFunc]⟩),(290,⟨1,8,.map 3 3,[.map none]⟩),(158,⟨1,8,.func,[.nilFunc]⟩),(152,⟨1,8,.func,[.nilFunc]⟩),(132,⟨1,8,.func,[.nilFunc]⟩),(93,⟨1,8,.func,[.nilFunc]⟩),(227,⟨1,8,.func,[.nilFunc]⟩),(145,⟨1,8,.func,[.nilFunc]⟩),(61,⟨1,8,.func,[.nilFunc]⟩),(234,⟨1,8,.func,[.nilFunc]⟩),(243,⟨1,8,.func,[.nilFunc]⟩),(280,⟨1,8,.func,[.nilFunc]⟩),(283,⟨1,8,.func,[.nilFunc]⟩),(339,⟨2,32,.struct [(0,337),(1,24)],[.pointer none,.slice none 0 0]⟩),(352,⟨1,16,.iface,[.nilIface]⟩),(70,⟨1,8,.func,[.nilFunc]⟩),(226,⟨1,8,.func,[.nilFunc]⟩),(282,⟨1,8,.func,[.nilFunc]⟩),(86,⟨1,8,.func,[.nilFunc]⟩),(219,⟨1,8,.func,[.nilFunc]⟩),(38,⟨37,120,.struct [(0,33),(32,37)],[v8,v8,v8,v8,v8,v8,v8,v8,v8,v8,v8,v8,v8,v8,v8,v8,v8,v8,v8,v8,v8,v8,v8,v8,v8,v8,v8,v8,v8,v8,v8,v8,.string ⟨#[]⟩,.string ⟨#[]⟩,.int .i64 0,.slice none 0 0,.slice none 0 0]⟩),(104,⟨1,8,.func,[.nilFunc]⟩),(100,⟨1,8,.func,[.nilFunc]⟩),(245,⟨1,8,.func,[.nilFunc]⟩),(185,⟨1,8,.func,[.nilFunc]⟩),(279,⟨1,8,.func,[.nilFunc]⟩),(237,⟨1,8,.func,[.nilFunc]⟩),(322,⟨1,8,.func,[.nilFunc]⟩),(281,⟨1,8,.func,[.nilFunc]⟩),(318,⟨1,8,.func,[.nilFunc]⟩),(310,⟨1,8,.func,[.nilFunc]⟩),(313,⟨1,8,.func,[.nilFunc]⟩),(321,⟨1,8,.func,[.nilFunc]⟩),(183,⟨1,8,.func,[.nilFunc]⟩),(235,⟨1,8,.func,[.nilFunc]⟩),(233,⟨1,8,.func,[.nilFunc]⟩),(80,⟨1,8,.func,[.nilFunc]⟩),(22,⟨1,24,.slice 39,[.slice none 0 0]⟩),(32,⟨32,32,.array 32 5,[v8,v8,v8,v8,v8,v8,v8,v8,v8,v8,v8,v8,v8,v8,v8,v8,v8,v8,v8,v8,v8,v8,v8,v8,v8,v8,v8,v8,v8,v8,v8,v8]⟩),(53,⟨33,40,.struct [(0,33),(32,3)],[v8,v8,v8,v8,v8,v8,v8,v8,v8,v8,v8,v8,v8,v8,v8,v8,v8,v8,v8,v8,v8,v8,v8,v8,v8,v8,v8,v8,v8,v8,v8,v8,.int .i64 0]⟩),(36,⟨5,88,.struct [(0,9),(1,9),(2,3),(3,34),(4,35)],[.string ⟨#[]⟩,.string ⟨#[]⟩,.int .i64 0,.slice none 0 0,.slice none 0 0]⟩),(108,⟨172,296,.struct [(0,54),(33,3),(34,54),(67,3),(68,54),(101,9),(102,3),(103,9),(104,9),(105,54),(138,54),(171,62)],[v8,v8,v8,v8,v8,v8,v8,v8,v8,v8,v8,v8,v8,v8,v8,v8,v8,v8,v8,v8,v8,v8,v8,v8,v8,v8,v8,v8,v8,v8,v8,v8,.int .i64 0,.int .i64 0,v8,v8,v8,v8,v8,v8,v8,v8,v8,v8,v8,v8,v8,v8,v8,v8,v8,v8,v8,v8,v8,v8,v8,v8,v8,v8,v8,v8,v8,v8,v8,v8,.int .i64 0,.int .i64 0,v8,v8,v8,v8,v8,v8,v8,v8,v8,v8,v8,v8,v8,v8,v8,v8,v8,v8,v8,v8,v8,v8,v8,v8,v8,v8,v8,v8,v8,v8,v8,v8,.int .i64 0,.string ⟨#[]⟩,.int .i64 0,.string ⟨#[]⟩,.string ⟨#[]⟩,v8,v8,v8,v8,v8,v8,v8,v8,v8,v8,v8,v8,v8,v8,v8,v8,v8,v8,v8,v8,v8,v8,v8,v8,v8,v8,v8,v8,v8,v8,v8,v8,.int .i64 0,v8,v8,v8,v8,v8,v8,v8,v8,v8,v8,v8,v8,v8,v8,v8,v8,v8,v8,v8,v8,v8,v8,v8,v8,v8,v8,v8,v8,v8,v8,v8,v8,.int .i64 0,.slice none 0 0]⟩),(82,⟨139,264,.struct [(0,3),(1,54),(34,3),(35,54),(68,9),(69,3),(70,9),(71,54),(104,54),(137,81),(138,62)],[.int .i64 0,v8,v8,v8,v8,v8,v8,v8,v8,v8,v8,v8,v8,v8,v8,v8,v8,v8,v8,v8,v8,v8,v8,v8,v8,v8,v8,v8,v8,v8,v8,v8,v8,.int .i64 0,.int .i64 0,v8,v8,v8,v8,v8,v8,v8,v8,v8,v8,v8,v8,v8,v8,v8,v8,v8,v8,v8,v8,v8,v8,v8,v8,v8,v8,v8,v8,v8,v8,v8,v8,.int .i64 0,.string ⟨#[]⟩,.int .i64 0,.string ⟨#[]⟩,v8,v8,v8,v8,v8,v8,v8,v8,v8,v8,v8,v8,v8,v8,v8,v8,v8,v8,v8,v8,v8,v8,v8,v8,v8,v8,v8,v8,v8,v8,v8,v8,.int .i64 0,v8,v8,v8,v8,v8,v8,v8,v8,v8,v8,v8,v8,v8,v8,v8,v8,v8,v8,v8,v8,v8,v8,v8,v8,v8,v8,v8,v8,v8,v8,v8,v8,.int .i64 0,.slice none 0 0,.slice none 0 0]⟩),(27,⟨1,24,.slice 99,[.slice none 0 0]⟩),(29,⟨2,48,.struct [(0,27),(1,28)],[.slice none 0 0,.slice none 0 0]⟩),(30,⟨2,48,.struct [(0,27),(1,28)],[.slice none 0 0,.slice none 0 0]⟩),(40,⟨1,24,.slice 30,[.slice none 0 0]⟩),(55,⟨1,24,.slice 123,[.slice none 0 0]⟩),(56,⟨1,24,.slice 125,[.slice none 0 0]⟩),(57,⟨2,48,.struct [(0,55),(1,56)],[.slice none 0 0,.slice none 0 0]⟩),(58,⟨2,48,.struct [(0,55),(1,56)],[.slice none 0 0,.slice none 0 0]⟩),(88,⟨1,8,.map 54 109,[.map none]⟩),(89,⟨2,16,.struct [(0,87),(1,88)],[.map none,.map none]⟩),(90,⟨2,16,.struct [(0,87),(1,88)],[.map none,.map none]⟩),(98,⟨33,56,.struct [(0,33),(32,34)],[v8,v8,v8,v8,v8,v8,v8,v8,v8,v8,v8,v8,v8,v8,v8,v8,v8,v8,v8,v8,v8,v8,v8,v8,v8,v8,v8,v8,v8,v8,v8,v8,.slice none 0 0]⟩),(99,⟨33,56,.struct [(0,33),(32,34)],[v8,v8,v8,v8,v8,v8,v8,v8,v8,v8,v8,v8,v8,v8,v8,v8,v8,v8,v8,v8,v8,v8,v8,v8,v8,v8,v8,v8,v8,v8,v8,v8,.slice none 0 0]⟩),(118,⟨1,8,.ptr 190,[.pointer none]⟩),(120,⟨1,8,.map 54 3,[.map none]⟩),(122,⟨35,64,.struct [(0,54),(33,9),(34,4)],[v8,v8,v8,v8,v8,v8,v8,v8,v8,v8,v8,v8,v8,v8,v8,v8,v8,v8,v8,v8,v8,v8,v8,v8,v8,v8,v8,v8,v8,v8,v8,v8,.int .i64 0,.string ⟨#[]⟩,.bool false]⟩),(123,⟨35,64,.struct [(0,54),(33,9),(34,4)],[v8,v8,v8,v8,v8,v8,v8,v8,v8,v8,v8,v8,v8,v8,v8,v8,v8,v8,v8,v8,v8,v8,v8,v8,v8,v8,v8,v8,v8,v8,v8,v8,.int .i64 0,.string ⟨#[]⟩,.bool false]⟩),(124,⟨2,16,.struct [(0,3),(1,3)],[.int .i64 0,.int .i64 0]⟩),(125,⟨2,16,.struct [(0,3),(1,3)],[.int .i64 0,.int .i64 0]⟩),(134,⟨1,8,.ptr 203,[.pointer none]⟩),(144,⟨1,8,.map 33 3,[.map none]⟩),(169,⟨1,24,.slice 173,[.slice none 0 0]⟩),(171,⟨1,8,.func,[.nilFunc]⟩),(172,⟨34,48,.struct [(0,54),(33,171)],[v8,v8,v8,v8,v8,v8,v8,v8,v8,v8,v8,v8,v8,v8,v8,v8,v8,v8,v8,v8,v8,v8,v8,v8,v8,v8,v8,v8,v8,v8,v8,v8,.int .i64 0,.nilFunc]⟩),(173,⟨34,48,.struct [(0,54),(33,171)],[v8,v8,v8,v8,v8,v8,v8,v8,v8,v8,v8,v8,v8,v8,v8,v8,v8,v8,v8,v8,v8,v8,v8,v8,v8,v8,v8,v8,v8,v8,v8,v8,.int .i64 0,.nilFunc]⟩),(189,⟨2,16,.struct [(0,188),(1,148)],[.map none,.map none]⟩),(190,⟨2,16,.struct [(0,188),(1,148)],[.map none,.map none]⟩),(201,⟨1,8,.map 33 28,[.map none]⟩),(202,⟨2,32,.struct [(0,23),(1,201)],[.slice none 0 0,.map none]⟩),(203,⟨2,32,.struct [(0,23),(1,201)],[.slice none 0 0,.map none]⟩),(204,⟨1,24,.slice 207,[.slice none 0 0]⟩),(207,⟨34,48,.struct [(0,54),(33,117)],[v8,v8,v8,v8,v8,v8,v8,v8,v8,v8,v8,v8,v8,v8,v8,v8,v8,v8,v8,v8,v8,v8,v8,v8,v8,v8,v8,v8,v8,v8,v8,v8,.int .i64 0,.nilFunc]⟩)]
theorem ZC:∀t i,(t,i)∈jh->fO Tryz.prog t i:=by
 intro t i h;simp only[jh,aC,Prod.mk.injEq,gy]at h;repeat (rcases h with⟨rfl,rfl⟩|h;exact⟨kK,kK,kK⟩)
 exact h.elim
noncomputable def C:Ctx:=⟨Tryz.prog,jh,ZC,ZB,4,rfl,339,5,PG,[],{opens:=[],Mg:=[],full:=false}⟩
end Qv
open Go Go.RowKit
namespace Qv
abbrev Dg:={l:Bytes//l.length=32}
def bg:Dg:=⟨List.replicate 32 0,rfl⟩
instance:Inhabited Dg:=⟨bg⟩
structure bB where
 p:Dg
 n:Int deriving DecidableEq,Inhabited
structure bO where
 id:bB
 kind:Int
 file:bB
 type:Int
 parent:bB
 name:Bytes
 mode:Int
 data:Bytes
 text:Bytes
 fr:bB
 to:bB
 over:List bB deriving DecidableEq,Inhabited
structure dH where
 kind:Int
 file:bB
 type:Int
 parent:bB
 name:Bytes
 mode:Int
 data:Bytes
 eH:bB
 eY:bB
 lines:List Bytes
 over:List bB deriving DecidableEq,Inhabited
structure iA where
 ja:Bytes
 message:Bytes
 time:Int
 deps:List Dg
 changes:List dH deriving DecidableEq,Inhabited
structure fk where
 id:Dg
 pat:iA deriving DecidableEq,Inhabited
def cD (d:Dg):List AV:=[.int .u8 (d.1.getD 0 0).toNat,.int .u8 (d.1.getD 1 0).toNat,.int .u8 (d.1.getD 2 0).toNat,.int .u8 (d.1.getD 3 0).toNat,.int .u8 (d.1.getD 4 0).toNat,.int .u8 (d.1.getD 5 0).toNat,.int .u8 (d.1.getD 6 0).toNat,.int .u8 (d.1.getD 7 0).toNat,.int .u8 (d.1.getD 8 0).toNat,.int .u8 (d.1.getD 9 0).toNat,.int .u8 (d.1.getD 10 0).toNat,.int .u8 (d.1.getD 11 0).toNat,.int .u8 (d.1.getD 12 0).toNat,.int .u8 (d.1.getD 13 0).toNat,.int .u8 (d.1.getD 14 0).toNat,.int .u8 (d.1.getD 15 0).toNat,.int .u8 (d.1.getD 16 0).toNat,.int .u8 (d.1.getD 17 0).toNat,.int .u8 (d.1.getD 18 0).toNat,.int .u8 (d.1.getD 19 0).toNat,.int .u8 (d.1.getD 20 0).toNat,.int .u8 (d.1.getD 21 0).toNat,.int .u8 (d.1.getD 22 0).toNat,.int .u8 (d.1.getD 23 0).toNat,.int .u8 (d.1.getD 24 0).toNat,.int .u8 (d.1.getD 25 0).toNat,.int .u8 (d.1.getD 26 0).toNat,.int .u8 (d.1.getD 27 0).toNat,.int .u8 (d.1.getD 28 0).toNat,.int .u8 (d.1.getD 29 0).toNat,.int .u8 (d.1.getD 30 0).toNat,.int .u8 (d.1.getD 31 0).toNat]
def cI (x:bB):List AV:=cD x.p++[.int .i64 x.n]
def pX (l:List bB):List (List AV):=l.map cI
def tK (l:List Dg):List (List AV):=l.map cD
def cA (a:bO):List AV:=cI a.id++([.int .i64 a.kind]++(cI a.file++([.int .i64 a.type]++(cI a.parent++([.str a.name,.int .i64 a.mode,.str a.data,.str a.text]++(cI a.fr++(cI a.to++[.sl (pX a.over)])))))))
def kB (l:List bO):List (List AV):=l.map cA
def cC (c:dH):List AV:=[.int .i64 c.kind]++(cI c.file++([.int .i64 c.type]++(cI c.parent++([.str c.name,.int .i64 c.mode,.str c.data]++(cI c.eH++(cI c.eY++[acJ c.lines,.sl (pX c.over)]))))))
def JB (l:List dH):List (List AV):=l.map cC
def cP (p:iA):List AV:=[.str p.ja,.str p.message,.int .i64 p.time,.sl (tK p.deps),.sl (JB p.changes)]
def mP (s:fk):List AV:=cD s.id++cP s.pat
def jR (s:List fk):List (List AV):=s.map mP
theorem afC (a:bO):(cA a).length=172:=rfl
theorem su (s:fk):(mP s).length=37:=rfl
theorem Ik (d:Dg):cD d=(List.range 32).map λi=>.int .u8 (d.1.getD i 0).toNat:=rfl
theorem Il (d:Dg):cD d=d.1.map λb=>.int .u8 b.toNat:=by rw[Ik];refine gU λi=>?_;rw[aJ,aJ];have hd:=d.2;by_cases h:i<32;rw[wq h,an oO];simp[List.getD,an (show i<d.1.length by omega)];rw[nt (by simp;omega),nt oO];rfl
theorem yy:∀{a b c d:List AV},a.length=b.length->sameAs (a++c) (b++d)=(sameAs a b&&sameAs c d)
 |[],[],c,d,_=>by simp[sameAs]
 |x::a,y::b,c,d,h=>by have ih:=yy (a:=a) (b:=b) (c:=c) (d:=d) (by simpa using h);simp only[cr,sameAs,ih,Bool.and_assoc]
 |[],_::_,_,_,h=>by simp at h
 |_::_,[],_,_,h=>by simp at h
theorem CQ:∀a b:Bytes,sameAs (a.map λb=>.int .u8 b.toNat) (b.map λb=>.int .u8 b.toNat)=decide (a=b)
 |[],[]=>rfl
 |[],y::b=>by simp[sameAs]
 |x::a,[]=>by simp[sameAs]
 |x::a,y::b=>by simp only[bw,sameAs,nK,xI,VJ,iN,gw,CQ a b];rw[jq];simp only[aR,beq_iff_eq,decide_eq_true_eq,kg];constructor;rintro⟨h1,h2⟩;exact⟨ahM h1,h2⟩;rintro⟨rfl,rfl⟩;exact⟨rfl,rfl⟩
theorem UL (a b:Dg):sameAs (cD a) (cD b)=decide (a=b):=by rw[Il,Il,CQ];exact decide_eq_decide.2 ⟨λh=>wu h,λh=>aV _ h⟩
theorem UM (a b:bB):sameAs (cI a) (cI b)=decide (a=b):=by obtain⟨p,n⟩:=a;obtain⟨q,m⟩:=b;show sameAs (cD p++[.int .i64 n]) (cD q++[.int .i64 m])=_;rw[yy (show(cD p).length=(cD q).length from rfl),UL];simp only[sameAs,nK,xI,VJ,iN,gw,pG];rw[jq];simp[bB.mk.injEq]
theorem aeH (d:Dg){k:Nat}(h:k<32):aI (cD d)=(aI (cD d)).take k++([.p (.int .u8 (d.1.getD k 0).toNat)]++(aI (cD d)).drop (k+1))/\((aI (cD d)).take k).length=k:=by
 have hl:(aI (cD d)).length=32:=rfl;refine⟨?_,by rw[aN,hl];omega⟩;have h1:(aI (cD d))[k]?=some (.p (.int .u8 (d.1.getD k 0).toNat)):=by rw[uM,Ik,aJ,wq h];rfl
 have h2:(aI (cD d)).drop k=.p (.int .u8 (d.1.getD k 0).toNat)::(aI (cD d)).drop (k+1):=by
  have hlt:k<(aI (cD d)).length:=by rw[hl];exact h
  rw[bM hlt];congr 1;rw[an hlt]at h1;exact ak h1
 rw[pq,<-h2,dU]
def cmpL:Bytes->Bytes->Int|[],[]=>0|[],_::_=>-1|_::_,[]=>1|x::xs,y::ys=>if x.toNat<y.toNat then-1 else if y.toNat<x.toNat then 1 else cmpL xs ys
def dA (a b:Dg):Int:=cmpL a.1 b.1
def gq (a b:bB):Int:=if dA a.p b.p≠0 then dA a.p b.p else if a.n<b.n then-1 else if b.n<a.n then 1 else 0
theorem KY {l:Bytes}{k:Nat}(h:k<l.length):l.drop k=l.getD k 0::l.drop (k+1):=by rw[bM h];simp[List.getD,an h]
end Qv
open Go Go.Proofs Go.RowKit
namespace Qv
def vp:List gC:=[.int .u8,.int .u8,.int .u8,.int .u8,.int .u8,.int .u8,.int .u8,.int .u8,.int .u8,.int .u8,.int .u8,.int .u8,.int .u8,.int .u8,.int .u8,.int .u8,.int .u8,.int .u8,.int .u8,.int .u8,.int .u8,.int .u8,.int .u8,.int .u8,.int .u8,.int .u8,.int .u8,.int .u8,.int .u8,.int .u8,.int .u8,.int .u8]
def FB:List gC:=vp++[.int .i64]
theorem cR:dZ Tryz.prog 40 33=some vp:=kK
theorem gr:dZ Tryz.prog 40 54=some FB:=kK
theorem uf:Tryz.prog.eqGuardType Tryz.prog.depth 33=false:=kK
theorem acT:Tryz.prog.eqGuardType Tryz.prog.depth 54=false:=kK
theorem pZ {xs ys:List AV}{K:Prop}(h:K)(e1:fF FB xs=true:=by rfl)(e2:fF FB ys=true:=by rfl):∃L,dZ Tryz.prog 40 54=some L/\Tryz.prog.eqGuardType Tryz.prog.depth 54=false/\fF L xs=true/\fF L ys=true/\K:=⟨FB,gr,acT,e1,e2,h⟩
theorem CR {a b:Dg}{K:Bool->Prop}(h:K (decide (a=b))):Al λt:Bool=>t=sameAs (cD a) (cD b)->K t:=⟨λt ht=>by rw[ht,UL];exact h⟩
theorem jH {a b:bB}{K:Bool->Prop}(h:K (decide (a=b))):Al λt:Bool=>t=sameAs (cI a) (cI b)->K t:=⟨λt ht=>by rw[ht,UM];exact h⟩
theorem qX {a b:Dg}{K:Bool->Prop}(h:K (!decide (a=b))):Al λt:Bool=>t=!sameAs (cD a) (cD b)->K t:=⟨λt ht=>by rw[ht,UL];exact h⟩
theorem AD {a b:bB}{K:Bool->Prop}(h:K (!decide (a=b))):Al λt:Bool=>t=!sameAs (cI a) (cI b)->K t:=⟨λt ht=>by rw[ht,UM];exact h⟩
theorem yz (a b:Dg):au C 99 [.agg (cD a),.agg (cD b)] (λr=>r=.val (.int .i64 (dA a b))):=by
 refine aq Tryz.func99 rfl rfl rfl (bW 24 (λk:Nat=>[(2,.ptr 2 0),(3,.ptr 3 0),(5,.p (.int .i64 k))]) (λ_=>[(2,aI (cD a)),(3,aI (cD b))]) (λk=>k<=32/\cmpL (a.1.drop k) (b.1.drop k)=dA a b) (λk=>32-k) 0 ⟨oO,by simp[dA]⟩ rfl wS oS ?_);rintro k ⟨hk,hc⟩;have ha:=a.2;have hb:=b.2;refine aQ (λhlt=>?_) (λhge=>?_);have hlt:k<32:=oO
 obtain⟨a1,a2⟩:=aeH a hlt;obtain⟨b1,b2⟩:=aeH b hlt;rw[KY (l:=a.1) (k:=k) oO,KY (l:=b.1) (k:=k) oO]at hc;generalize a.1.getD k 0=x at a1 hc;generalize b.1.getD k 0=y at b1 hc;have hc:(if x.toNat<y.toNat then-1 else if y.toNat<x.toNat then 1 else cmpL (a.1.drop (k+1)) (b.1.drop (k+1)))=dA a b:=hc;refine cw 7 kK ⟨k,rfl,hlt,true,k,(by show 0+k*1=k;omega),?_⟩;refine⟨_,_,_,a1,a2,k,rfl,hlt,true,k,(by show 0+k*1=k;omega),?_⟩;refine⟨_,_,_,b1,b2,aQ (λh=>?_) (λh=>?_)⟩;rw[af oO]at hc;rw[<-hc];exact rfl;rw[aa oO]at hc;refine cw 7 kK ⟨k,rfl,hlt,true,k,(by show 0+k*1=k;omega),?_⟩;refine⟨_,_,_,a1,a2,k,rfl,hlt,true,k,(by show 0+k*1=k;omega),?_⟩;refine⟨_,_,_,b1,b2,aQ (λh=>?_) (λh=>?_)⟩;rw[af oO]at hc;rw[<-hc];exact rfl;rw[aa oO]at hc;exact nx (k+1) (aU (k+1) ⟨hlt,hc⟩ oO rfl wS oS);obtain rfl:k=32:=oO
 rw[cQ oO,cQ oO]at hc;rw[<-hc];exact rfl
theorem FC (a b:bB):au C 123 [.agg (cI a),.agg (cI b)] (λr=>r=.val (.int .i64 (gq a b))):=by refine aq Tryz.func123 rfl rfl rfl (cl (yz a.p b.p) ?_);unfold gq;generalize dA a.p b.p=c;refine eD (λh=>?_) (λh=>?_);rw[af h];exact rfl;rw[aa oO];refine aQ (λh=>?_) (λh=>?_);rw[af h];exact rfl;rw[aa h];refine aQ (λh=>?_) (λh=>?_);rw[af oO];exact rfl;rw[aa oO];exact rfl
end Qv
