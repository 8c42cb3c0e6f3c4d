/- Part 6 of the proof: its lemmas. No condition. -/
import Derived.Test.YtiboombocnfngaaGreatDoorU5
import Derived.Sort.LoopGhostIn
import Derived.OpenShut
import Derived.RowKit
import Derived.ChangeBears
import Derived.Below
import Derived.Carry
import Derived.ChangeOld
import Derived.ChangeSame
import Derived.Lib.LaidTab
import Derived.Test.YtiboombocnfngaaGreatDoorProg
import Derived.KernelRfl
import Derived.Lib.ItoaNum
set_option maxRecDepth 10000
set_option maxHeartbeats 80000000
set_option linter.all false
namespace Qv
open Go Go.RowKit
section
variable {E:Env}{G:bf}{S:aj}{a:Act}{w:World}
theorem Ke (hs:bt E G S a w)(fn:FuncId)(ps:Array Tmp)(assign body:Code):∃(l:Nat) (ms:List Nat) (w1:World) (rec:Loop),(Instr.enterLoop fn a.tmps ps assign body E.mj).run E.C.P w=.ok (l,ms.map mark) w1/\Below w.heap.size w w1/\rec.tmps=a.tmps/\rec.params=ps/\rec.assign=assign/\rec.body=body/\rec.state=.ready/\rec.pending=none/\w1.heap[l]?=some (.loop rec)/\w.heap.size<=l/\(∀m,m∈ms->w.heap.size<=m/\w1.heap[m]?=some (.deferred (some [])))/\ms.Nodup:=by
 cases hr:E.mj with
 |none=>refine⟨_,[w.heap.size],_,{state:=.ready,pending:=none,fn,tmps:=a.tmps,params:=ps,assign,body,defers:=w.heap.size},run_enterLoop_outer fn a.tmps ps assign body,?_,rfl,rfl,rfl,rfl,rfl,rfl,?_,oO,λm hm=>?_,by simp⟩;exact((Below.refl _ w).alloc (aA _) _).alloc (by simp) _;have :=World.alloc_heap_new (w.alloc (.deferred (some []))) (.loop {state:=.ready,pending:=none,fn,tmps:=a.tmps,params:=ps,assign,body,defers:=w.heap.size});simp_all;obtain rfl:=aP.1 hm;exact⟨aA _,(Below.heap_alloc _ _ _ (by simp)).trans (World.alloc_heap_new w _)⟩
 |some l0=>
  obtain⟨i,r,h1⟩:=hs.ext'.mj l0 hr;have hlt:i<S.cF.length:=by rw[hs.ext'.kg];exact(aJ.1 h1).1
  obtain⟨h2,h3⟩:=hs.ext'.loops i l0 r _ h1 (av hlt);refine⟨_,[],_,{state:=.ready,pending:=none,fn,tmps:=a.tmps,params:=ps,assign,body,defers:=((S.cF[i]).of r).defers},run_enterLoop_inner h3 fn a.tmps ps assign body,?_,rfl,rfl,rfl,rfl,rfl,rfl,World.alloc_heap_new w _,aA _,by simp,by simp⟩;exact(Below.refl _ w).alloc (aA _) _
theorem FC {call:iQ}{Y:pH}(dJ:mS E.C call)(hY:eR E Y){assign body:Code}(ha:Ik assign)(hb:Ik body){g:Operand}{ps:Array Tmp}{Q:Exit->aj->Prop}(hs:bt E G S a w){f:FuncId}{cs:List Value}{captured:List FV}(hg:a.eval g=.func (.func f) #[] cs.toArray)(hcs:cs.length=captured.length)(oC:∀(i:Nat)(c:Value)(x:FV),cs[i]?=some c->captured[i]?=some x->aT G w c x)(h:call (wm Y (yc E.C call Y assign) (yc E.C call Y body) ps.toList S.cF.length S.bK.length) f (.lX (1000000+S.cF.length)::FV.eD (1000000+S.cF.length) captured) (λ_ S'=>Cn S.cF.length Q S') {S.kill (1000000+S.cF.length)with cF:=S.cF++[.ready]}):(Code.rangeFunc g ps assign body).wpIn E.jb 0 E.C.P (λe a' w'=>∃S',Q e S'/\nO E S' a' w') a w:=by
 refine wpIn_rangeFunc λfn hfn=>?_;obtain⟨l,ms,w1,rec,hrun,Gn,hr1,Zf,hr3,hr4,hr5,hr6,hl,akj,xR,MN⟩:=Ke hs fn ps assign body;have hs1:=hs.ext Gn;have akk:∀v x,aT G w v x->aT {G with bk:=λb o=>G.bk b o\/(w.heap.size<=b/\b<w1.heap.size)} w1 v x:=λv x hv=>hv.keep (λb o hi=>.inl hi) (λb o c hi hc=>by rw[Gn.cell (p:=⟨b,o,none⟩) (hs.fh b o hi)];omega) ((fV.Cq Gn).pY _) (λ_ _ e=>e) (λ_ _ e=>e);obtain⟨ms0,hm1,hm2,hm3⟩:=hs.ext'.marks;have hold:∀r,r∈ms0++E.fixed->r<w.heap.size:=λr hr=>(bq.1 (hm3 r hr).2).1;obtain⟨G1,hs2,YM,hup⟩:=hs1.Zd (l:=l) (rec:=rec) (ms:=ms) (by rw[Pz rec hr5 hr6];omega) (ck hs.kept.size akj) (λi k r q=>by
  have hlt:i<S.cF.length:=by rw[hs.ext'.kg];exact(aJ.1 q).1
  obtain⟨-,q2⟩:=hs.ext'.loops i k r _ q (av hlt);grind) (λm hm=>⟨ck hs.kept.size (xR m hm).1,(xR m hm).2⟩) (by rw[hm1,mc];grind);have hlv:S.cF.length=E.loops.length:=hs.ext'.kg;have RX:S.bK.length=E.bK.length:=hs.ext'.lz;have hYr:=PB (E:=E) dJ hY ha hb (a1:={a with defers:=ms.map mark++a.defers}) (l:=l) (rec:=rec) (Ze:=marksOf (ms.map mark++a.defers)++E.fixed) hr1 hr3 hr4 hr5 hr6;rw[Zf,<-hlv,<-RX]at hYr;obtain⟨⟨func,hf1,Og,hf3⟩,af4⟩:=dJ {E with loops:=E.loops++[(l,rec)]} rfl _ f _ _ G1 _ _ w1 (.func (.yield l) #[] #[]::cs) hs2 hYr h (by simp[FV.fB,hcs]) (λi c x hc hx=>by
  cases i with
  |zero=>simp at hc hx;subst hc;subst hx;exact .lX _ l YM
  |succ i=>simp only[nT]at hc hx;rw[FV.fB,aN]at hx;grind)
 refine⟨l,ms.map mark,w1,{target:=.fn (.func f) cs.toArray,args:=#[.func (.yield l) #[] #[]]},w1,f,(.func (.yield l) #[] #[]::cs).toArray,w1,?_,?_,λf' _=>Env.gi f',?_,λh=>(by rw[Env.kq]at h;grind),Po (CallsIn.mono af4 ?_)⟩;rw[Env.yH];omega;simp only[resolve,hg];simp[go_sem];have h3':¬func.name= "runtime.NumGoroutine" :=by simpa using hf3
 have h2':¬func.body=none:=λe=>by simp_all
 simp[invoke,callFunc,hf1,h2',h3'];rintro e w' ⟨v,x,G',S',rfl,hq,hs',-⟩;unfold Cn at hq;have hrn:∀q,E.mj=some q->∃(i:Nat) (r:Loop),E.loops[i]?=some (q,r):=hs.ext'.mj;have fin:∀{st:zS},Hy S'.cF S.cF.length=some st->(st.of rec).state≠.busy->∃w4,(Instr.endLoop l).run E.C.P w'=.ok (st.of rec).pending w4/\bt E G' {S' with cF:=S'.cF.take S.cF.length} {a with defers:=ms.map mark++a.defers} w4:=λ{st} hst hnb=>by rw[hlv]at hst;obtain⟨-,hl4⟩:=hs'.EB (i:=E.loops.length) (k:=l) (r:=rec) (by simp_all) hst;refine⟨_,run_endLoop hl4 hnb,?_⟩;have :=bt.acZ (E:=E) hs' hst hrn (o':={st.of rec with state:=.exhausted});simp_all
 split at hq;rename_i hst;obtain⟨w4,he,hs4⟩:=fin hst (by simp[zS.of]);exact⟨_,w4,he,_,hq,G',hs4⟩;rename_i hst;obtain⟨w4,he,hs4⟩:=fin hst (by simp[zS.of]);exact⟨_,w4,he,wpIn_ret ⟨_,hq,G',hs4⟩⟩;rename_i id hst;obtain⟨w4,he,hs4⟩:=fin hst (by simp[zS.of]);exact⟨_,w4,he,wpIn_exit ⟨_,hq,G',hs4⟩⟩;simp_all
theorem tF (c:Code):Ik c:=by
 induction c with
 |skip=>intro E call Y dJ hY Q S a w h hs;exact wpIn_skip ⟨S,h,hs⟩
 |region id ops draw=>intro E call Y dJ hY Q S a w h hs;unfold yc at h;split at h;obtain⟨T,hw,h⟩:=h;exact jJ dJ hY (λS a w hk hs'=>⟨S,hk,hs'⟩) (hs.weaken hw) h;split at h;rcases h with⟨d,Z,qK,hf,h⟩|h;obtain⟨G,hs⟩:=hs;exact jJ dJ hY (λS a w hk hs'=>⟨S,hk,hs'⟩) (hs.Ow hf) h;exact jJ dJ hY (λS a w hk hs'=>⟨S,hk,hs'⟩) hs h;split at h;rcases h with⟨d,ks,vs,hf,h⟩|h;obtain⟨G,hs⟩:=hs;exact jJ dJ hY (λS a w hk hs'=>⟨S,hk,hs'⟩) (hs.Oq hf) h;exact jJ dJ hY (λS a w hk hs'=>⟨S,hk,hs'⟩) hs h;split at h;obtain⟨fr,h⟩:=h;obtain⟨S',h,hs'⟩:=yP fr h hs;exact jJ dJ hY (λS a w hk hs'=>⟨S,hk,hs'⟩) hs' h;split at h;exact Kc dJ hY (λS a w hk hs'=>⟨S,hk,hs'⟩) hs h;exact jJ dJ hY (λS a w hk hs'=>⟨S,hk,hs'⟩) hs h
 |seq x y ihx ihy=>
  intro E call Y dJ hY Q S a w h hs;refine wpIn_seq (wpIn_mono (ihx dJ hY (Q:=uy (yc E.C call Y y Q) Q) h hs) ?_);rintro e a' w' ⟨S',hq,hs'⟩;cases e with
  |normal=>exact ihy dJ hY hq hs'
  |_=>exact⟨S',hq,hs'⟩
 |cond c x y ihx ihy=>intro E call Y dJ hY Q S a w h hs;have hs':=hs;obtain⟨G,hs'⟩:=hs';simp only[yc]at h;have hv:=aT.val hs' c;split at h;rename_i ht;rw[ht]at hv;exact wpIn_cond_true hv.nB (ihx dJ hY h hs);rename_i ht;rw[ht]at hv;exact wpIn_cond_false hv.nB (ihy dJ hY h hs);simp_all
 |block id c ih=>
  intro E call Y dJ hY Q S a w h hs;refine wpIn_block (wpIn_mono (ih dJ hY (Q:=Hw id Q) h hs) ?_);rintro e a' w' ⟨S',hq,hs'⟩;cases e with
  |exit n=>simp only[Hw]at hq;simp only[Exit.inBlock];split at hq;rename_i hb;rw[ag (aM hb)];grind;rename_i hb;rw[af (bD hb)];grind
  |_=>exact⟨S',hq,hs'⟩
 |loop c ih=>
  intro E call Y dJ hY Q S a w h hs;obtain⟨α,I,μ,⟨a0,S0,hw0,hI0⟩,round⟩:=h;refine wpIn_loop_ghost (λn a w=>∃x S,I x S/\μ x=n/\nO E S a w) (μ a0) ⟨a0,S0,hI0,rfl,hs.weaken hw0⟩ ?_;rintro n a w ⟨x,S,hI,rfl,hs⟩;refine wpIn_mono (ih dJ hY (Q:=uy (λS'=>∃a' um,cK S' um/\I a' um/\μ a'<μ x) Q) (round x S hI) hs) ?_;rintro e a' w' ⟨S',hq,hs'⟩;cases e with
  |normal=>obtain⟨x',um,hw,hI',hlt⟩:=hq;exact⟨μ x',hlt,x',um,hI',rfl,hs'.weaken hw⟩
  |_=>exact⟨S',hq,hs'⟩
 |exit id=>intro E call Y dJ hY Q S a w h hs;exact wpIn_exit ⟨S,h,hs⟩
 |ret=>intro E call Y dJ hY Q S a w h hs;exact wpIn_ret ⟨S,h,hs⟩
 |rangeFunc g ps assign body iha ihb=>
  intro E call Y dJ hY Q S a w h hs;obtain⟨G,hs⟩:=hs;simp only[yc,Oo]at h;have hv:=aT.val hs g;generalize KQ:a.eval g=v at hv;split at h;rename_i f captured hf;rw[hf]at hv;obtain⟨fs,cs,rfl,h1,h2⟩:=RY hv;have :fs=[]:=bQ.1 h1.1;subst this;have h3:=yQ (G:=G) h2 rfl;have hk:FV.eD (1000000+S.cF.length) (aG captured)=aG captured:=by rw[FV.fB,eN];simp[FV.kill]
  exact FC dJ hY iha ihb hs KQ h3.1 h3.2 (by simp_all);rename_i f captured hf;rw[hf]at hv;obtain⟨fs,cs,rfl,h1,h2⟩:=ME hv;have :fs=[]:=bQ.1 h1.1;subst this;exact FC dJ hY iha ihb hs KQ h2.1 h2.2 h;simp_all
 |_=>intro E call Y dJ hY Q S a w h hs;exact h.elim
theorem vC {n:Nat}{vals:List Value}{args:List FV}(hlen:vals.length=args.length)(hn:args.length<=n)(hr:∀(i:Nat)(v:Value)(x:FV),vals[i]?=some v->args[i]?=some x->aT G w v x):(vals.toArray++Array.replicate (n-vals.toArray.size) undef).size=n/\∀i,i<n->aT G w ((vals.toArray++Array.replicate (n-vals.toArray.size) undef).getD i undef) (uA args i):=by
 refine⟨by simp_all,λi hi=>?_⟩;have tN:(vals.toArray++Array.replicate (n-vals.toArray.size) undef).getD i undef=(vals[i]?).getD undef:=by rw[Da];by_cases hlt:i<vals.length;simp_all;simp_all
 rw[tN];unfold uA;by_cases hlt:i<args.length;grind;rw[oa oO,oa oO];exact jB _ _
theorem yW (C:Ctx):∀k,mS C (Yq C k)
 |0=>λE hC Y g args K G S a w vals hs hY h=>h.elim
 |k+1=>by
  intro E hC Y g args K G S a w vals hs hY h hlen hr;subst hC;obtain⟨fn,hf,hb,hname,hn,h⟩:=h;obtain⟨c,hc⟩:=oh.1 hb;rw[hc]at h;refine⟨⟨fn,hf,by simp_all,hname⟩,?_⟩;obtain⟨hsz,ht⟩:=vC (n:=fn.ntmps) hlen (gZ hn) hr;have hs1:=hs.enter (mj:=none) hsz ht (λl h=>by grind);obtain⟨ms,xR,-,-⟩:=hs.ext'.marks;refine callsIn_of_wp_marks hf hc trivial ?_ rfl;have :=tF c (E:=E.push a) (yW E.C k) hY h ⟨_,hs1⟩;refine wpIn_mono this ?_;have fin:∀{S':aj}{a':Act}{w':World},qL E.C S' fn.results.toList (λvs=>S'.leave (K (JT vs)))->nO (E.push a) S' a' w'->LeavesInM Fence.wide 0 E.C.P fn a'.tmps (λe w'=>∃v x G' S',e=.returned v/\K x S'/\bt E G' S' a w'/\aT G' w' v x) a'.defers .returning w':=λ{S' a' w'} hq ⟨G',hs'⟩=>by obtain⟨ms',hm',-,-⟩:=hs'.ext'.marks;rw[hm'];refine Ae (E:=E.push a) ms' rfl hs' rfl hm' λG2 a2 w2 hs2 ht2 hd2=>?_;obtain⟨vs,xs,r1,r2,r3,r4,r5⟩:=og hs2 _ _ hq;obtain⟨f,r,hf',hK⟩:=EA r2;have hlv:=bt.leave (E:=E) (a:=a) (mj:=none) (ms:=ms) hs2 hf' xR hs.ext'.mj;rw[<-ht2];exact⟨_,kU fn a2.tmps E.C.P w2 r1,_,_,G2,_,rfl,hK,hlv,Ad r4 r5⟩
  rintro e a' w' ⟨S',hq,hs'⟩;cases e with
  |normal=>exact fin hq hs'
  |ret=>exact fin hq hs'
  |_=>exact hq.elim
theorem uI (E:Env):eR E tM:=λ_ _ _ _ _ _ _ _ _ _ _ _ _ _ _ h=>h.elim
theorem Db {G:bf}{w:World}(hs:bt E G S a w){v:Value}{x:AV}(h:dA G.bk w v x):dA (kW E.Ek E.w0.heap.size) w v x:=sU hs h
abbrev ac1 {C:Ctx}{bk:Nat->Nat->Prop}{w:World}(hJ:C.J w/\pW bk w)(hn:C.mV<=w.heap.size):Env:={C:=C,w0:=w,Ek:=bk,hJ:=hJ.1,hn:=hn,mj:=none,bK:=[],loops:=[],fixed:=[]}
theorem ako {C:Ctx}{bk:Nat->Nat->Prop}{w:World}{n:Nat}{args:List AV}{vs:List Value}(hJ:C.J w/\pW bk w)(hn:C.mV<=w.heap.size)(hi:∀b o,bk b o->b<w.heap.size)(hlen:args.length<=n)(hl:vs.length=args.length)(hr:∀(i:Nat)(v:Value)(x:AV),vs[i]?=some v->args[i]?=some x->dA bk w v x):bt (ac1 hJ hn) (bare bk) (AF n args) {tmps:=vs.toArray++Array.replicate (n-vs.toArray.size) undef,defers:=[]} w:=by
 have hg:∀i:Nat,(aG args)[i]?=args[i]?.map .p:=λi=>by rw[eN,aN]
 obtain⟨hsz,ht⟩:=vC (G:=bare bk) (w:=w) (n:=n) (vals:=vs) (args:=aG args) (by rw[iR,hl]) (by rw[iR];omega) λi v x h1 h2=>by rw[hg]at h2;obtain⟨y,h3,rfl⟩:=sM.1 h2;exact .p _ _ (hr i v y h1 h3)
 refine⟨⟨rfl,rfl,rfl,aA _,λ_ _ _=>rfl,λk _ _ _ hk=>by simp_all⟩,hsz,⟨⟨(λo l h=>by cases h),(λo b h=>by cases h),(λo o' b h=>by cases h),(λq x h=>by cases h),(λq r h=>by cases h),(λq q' r h=>by cases h),(λo o' b h=>by cases h),(λo T z k l b gu es h=>by cases h)⟩,rfl,λi vs fr h=>by grind,rfl,λi k r st h=>by grind,λi j k r r' h=>by grind,λi k r h=>by grind,λl h=>by grind,⟨[],rfl,by simp,by simp⟩,hJ.2⟩,⟨(λo bs h=>by cases h),(λo r h=>by cases h),(λo r h=>by cases h)⟩,λb o h=>.inl h,hi,λi hi'=>?_,(λo cells ho=>by cases ho),(λo b h=>by cases h),(λo o' b h=>by cases h),(λo t b r h=>by cases h),(λt b s e T h=>by cases h),(λt t' b r r' h=>by cases h)⟩;have :=ht i hi';simp only[uA,hg]at this;simp only[AF];grind
theorem xS {C:Ctx}{call:iQ}(hco:mS C call){f:FuncId}{fn:Func}{c:Code}{args:List AV}{R:dx->Prop}(hf:C.P.funcs[f]?=some fn)(hb:fn.body=some c)(hname:(fn.name== "runtime.NumGoroutine")=false)(hlen:args.length<=fn.ntmps)(h:yc C call tM c (uB C fn.results.toList R) (AF fn.ntmps args)):aq C f args R:=by
 refine⟨⟨fn,hf,by simp_all,hname⟩,λbk w vs hJ hn hi hl hr=>?_⟩;have hs:=ako (n:=fn.ntmps) hJ hn hi hlen hl hr;refine(callsIn_wide (n:=0)).1 (callsIn_of_wp_marks hf hb trivial ?_ rfl);refine wpIn_mono (tF c (E:=ac1 hJ hn) hco (uI _) h ⟨_,hs⟩) ?_;have fin:∀{S':aj}{a':Act}{w':World},yy C fn.results.toList R S'->nO (ac1 hJ hn) S' a' w'->LeavesInM Fence.wide 0 C.P fn a'.tmps (λe w'=>∃v r,e=.returned v/\R r/\oy bk w.heap.size w' v r/\Below w.heap.size w w') a'.defers .returning w':=λ{S' a' w'} hq ⟨G',hs'⟩=>by obtain⟨ms',hm',-,-⟩:=hs'.ext'.marks;rw[hm'];refine Ae (E:=ac1 hJ hn) ms' rfl hs' rfl hm' λG2 a2 w2 hs2 ht2 hd2=>?_;obtain⟨v,r,h1,h2,h3⟩:=Ij hs2 hq;rw[<-ht2];exact⟨v,h1,v,r,rfl,h2,h3,hs2.kept.os,hs2.kept.tape,hs2.kept.output,hs2.kept.size,λk hk=>hs2.kept.block k hk (by simp)⟩
 rintro e a' w' ⟨S',hq,hs'⟩;cases e with
 |normal=>exact fin hq hs'
 |ret=>exact fin hq hs'
 |_=>exact hq.elim
theorem Kf {C:Ctx}{f:FuncId}{fn:Func}{c:Code}{args:List AV}{R:dx->Prop}(hf:C.P.funcs[f]?=some fn)(hb:fn.body=some c)(hname:(fn.name== "runtime.NumGoroutine")=false)(hlen:args.length<=fn.ntmps)(h:ev C c (uB C fn.results.toList R) (AF fn.ntmps args)):aq C f args R:=xS (yW C 6) hf hb hname hlen h
theorem PC {C:Ctx}{f:FuncId}{fn:Func}{c:Code}{cells args:List AV}{R:AV->List AV->Prop}(hf:C.P.funcs[f]?=some fn)(hb:fn.body=some c)(hname:(fn.name== "runtime.NumGoroutine")=false)(hlen:args.length+1<=fn.ntmps)(h:ev C c (OA C fn.results.toList cells.length R) (Uh fn.ntmps cells args)):Hg C f cells args R:=by
 refine⟨⟨fn,hf,by simp_all,hname⟩,λbk w b vs hJ hn hi hbn ac2 hbi hbc hl hr=>?_⟩;let E:Env:={C:=C,w0:=w,Ek:=bk,hJ:=hJ.1,hn:=hn,mj:=none,bK:=[],loops:=[],fixed:=[],own:=[b],hown:=λk hk=>by simp_all,rP:=[(999999,b)],Co:=λp hp=>by simp_all};let G0:bf:=⟨bk,λo=>if o=999999 then some b else none,λ_=>none,λ_=>none,λ_=>none,λ_=>none,λ_=>none⟩;have oC:∀(i:Nat)(v:Value)(x:FV),(Value.pointer (some ⟨b,0,none⟩)::vs)[i]?=some v->(FV.ptr 999999 0::aG args)[i]?=some x->aT G0 w v x:=λi v x h1 h2=>by
  cases i with
  |zero=>simp at h1 h2;subst h1;subst h2;exact .ptr _ _ _ rfl
  |succ i=>
   simp only[nT,eN,aN]at h1 h2;cases hq:args[i]?with
   |none=>simp_all
   |some y=>simp[hq]at h2;subst h2;exact .p _ _ (hr i v y h1 hq)
 obtain⟨hsz,ht⟩:=vC (n:=fn.ntmps) (vals:=Value.pointer (some ⟨b,0,none⟩)::vs) (args:=FV.ptr 999999 0::aG args) (by simp[eN,hl]) (by simp[eN];omega) oC;have hs:bt E G0 (Uh fn.ntmps cells args) {tmps:=(Value.pointer (some ⟨b,0,none⟩)::vs).toArray++Array.replicate (fn.ntmps-(Value.pointer (some ⟨b,0,none⟩)::vs).toArray.size) undef,defers:=[]} w:=by
  refine⟨⟨rfl,rfl,rfl,aA _,λ_ _ _=>rfl,λk cs T fr _ q=>⟨cs,q,rfl⟩⟩,hsz,⟨⟨(λo l h=>by cases h),(λo b h=>by grind),(λo o' b h=>by grind),(λq x h=>by cases h),(λq r h=>by grind),(λq q' r h=>by grind),(λo o' b h=>by grind),(λo T z k l b gu es h=>by grind)⟩,rfl,λi vs fr h=>by grind,rfl,λi k r st h=>by grind,λi j k r r' h=>by grind,λi k r h=>by simp_all,λl h=>by simp_all,⟨[],rfl,by grind,by grind⟩,hJ.2⟩,⟨(λo bs h=>by cases h),(λo r h=>by grind),(λo r h=>by grind)⟩,λb o h=>.inl h,hi,λi hi'=>ht i hi',(λo cs ho=>?_),(λo b2 h=>?_),(λo o' b2 h h'=>?_),(λo t b r _ h=>by grind),(λt b s e T h=>by grind),(λt t' b r r' h=>by grind)⟩;simp only[Uh,getObj]at ho;split at ho;rename_i hq;obtain rfl:=aM hq;obtain rfl:=au ho;refine⟨b,rfl,λi x hx=>?_⟩;rw[eN,aN]at hx;cases hq:cells[i]?with
  |none=>simp_all
  |some y=>simp[hq]at hx;subst hx;obtain⟨c,h1,h2⟩:=hbc i y hq;exact⟨c,h1,.p _ _ h2⟩
  simp_all;simp only[G0]at h;split at h;rename_i e;obtain rfl:=au h;exact⟨ac2,.inr (by subst e;exact⟨rfl,.head _⟩),hbi⟩;simp_all;grind
 refine(callsIn_wide (n:=0)).1 (callsIn_of_wp_marks hf hb trivial ?_ rfl);refine wpIn_mono (tF c (E:=E) (yW C 6) (uI E) h ⟨_,hs⟩) ?_;have fin:∀{S':aj}{a':Act}{w':World},zW C fn.results.toList cells.length R S'->nO E S' a' w'->LeavesInM Fence.wide 0 C.P fn a'.tmps (λe w'=>∃v r cells',e=.returned v/\R r cells'/\cells'.length=cells.length/\dA (kW bk w.heap.size) w' v r/\(∀(i:Nat)(x:AV),cells'[i]?=some x->∃c,w'.cell? ⟨b,i,none⟩=some c/\dA (kW bk w.heap.size) w' c x)/\w'.os=w.os/\w'.tape=w.tape/\w'.output=w.output/\w.heap.size<=w'.heap.size/\(∀k,k<w.heap.size->k≠b->w'.heap[k]?=w.heap[k]?)/\(∀cs T fr,w.heap[b]?=some (.cells cs T fr)->∃cs',w'.heap[b]?=some (.cells cs' T fr)/\cs'.size=cs.size)) a'.defers .returning w':=λ{S' a' w'} hq ⟨G',hs'⟩=>by obtain⟨ms',hm',-,-⟩:=hs'.ext'.marks;rw[hm'];refine Ae (E:=E) ms' rfl hs' rfl hm' λG2 a2 w2 hs2 ht2 hd2=>?_;unfold zW at hq;obtain⟨vs,xs,r1,r2,r3,r4,r5⟩:=og hs2 _ _ hq;split at r2;rename_i r cs Zf ho;split at r2;rename_i ys hys;obtain⟨hn,r2⟩:=r2;rw[<-ht2];obtain⟨b2,g1,g2⟩:=hs2.aI 999999 cs ho;obtain⟨g3,g4⟩:=FV.iC hys;obtain rfl:b2=b:=Env.OD (E:=E) (hs2.gG _ _ g1).2.1 rfl;refine⟨_,kU fn a2.tmps E.C.P w2 r1,_,r,ys,rfl,r2,aM hn,Db hs2 ((Ad r4 r5).eG Zf),λi x hx=>?_,hs2.kept.os,hs2.kept.tape,hs2.kept.output,hs2.kept.size,λk hk hkb=>hs2.kept.block k hk (by grind),λc1 T fr h=>hs2.kept.shape _ c1 T fr ⟨999999,.head _⟩ h⟩;obtain⟨y,hy,hxy⟩:=g4 i x hx;obtain⟨c,q1,q2⟩:=g2 i y hy;exact⟨c,q1,Db hs2 (q2.eG hxy)⟩;simp_all;simp_all
 rintro e a' w' ⟨S',hq,hs'⟩;cases e with
 |normal=>exact fin hq hs'
 |ret=>exact fin hq hs'
 |_=>exact hq.elim
end
section
variable {E:Env}{G:bf}{S:aj}{a:Act}{w:World}
theorem aq.mono {C:Ctx}{f:FuncId}{args:List AV}{R R':dx->Prop}(h:aq C f args R)(hr:∀r,R r->R' r):aq C f args R':=⟨h.1,λbk w vs a b c d e=>(h.2 bk w vs a b c d e).mono λ_ _ ⟨v,r,h1,h2,h3⟩=>⟨v,r,h1,hr _ h2,h3⟩⟩
def FD:List (Nat×FV)->Nat->FV|[],_=>.dR|(j,v)::r,i=>match Nat.beq i j with|true=>v|false=>FD r i
def PD:List (Nat×Nat×List (Nat×FV))->List Fr|[]=>[]|(n,off,rel)::r=>⟨n,off,FD rel⟩::PD r
def MS (n off:Nat)(rel:List (Nat×FV))(aI:List (Nat×List FV))(bK:List (Nat×Nat×List (Nat×FV)))(cF:List zS)(cT:List (Nat×List UInt8):=[]):aj:={n:=n,off:=off,tmps:=FD rel,aI:=aI,bK:=PD bK,cF:=cF,cT:=cT}
def yX (f:Nat->FV):List (Nat×FV)->Prop|[]=>True|(j,v)::r=>bh (f j) v/\yX f r
def MT:List Fr->List (Nat×Nat×List (Nat×FV))->Prop|[],[]=>True|f::fs,(n,off,rel)::r=>(n,off)=(f.n,f.off)/\yX f.tmps rel/\MT fs r|_,_=>False
def Az (aI:List (Nat×List FV)):List (Nat×List FV)->Prop|[]=>True|(o,ys)::r=>(∃xs,Qv.getObj aI o=some xs/\xs.length=ys.length/\∀(i:Nat)(x y:FV),xs[i]?=some x->ys[i]?=some y->bh x y)/\Az aI r
theorem EC {f:Nat->FV}:∀{rel:List (Nat×FV)},yX f rel->∀i,bh (f i) (FD rel i)|[],_,_=>bh.dR _|(j,v)::rel,h,i=>by simp only[FD];split;rename_i hb;obtain rfl:=aM hb;exact h.1;exact EC h.2 i
theorem Uw:∀{fs:List Fr}{l:List (Nat×Nat×List (Nat×FV))},MT fs l->(PD l).length=fs.length/\∀(i:Nat)(f f':Fr),fs[i]?=some f->(PD l)[i]?=some f'->f'.n=f.n/\f'.off=f.off/\∀j,bh (f.tmps j) (f'.tmps j)
 |[],[],_=>⟨rfl,by simp⟩
 |f::fs,(n,off,rel)::r,h=>by
  obtain⟨h1,h2,h3⟩:=h;obtain⟨h4,h5⟩:=Uw h3;injection h1 with e1 e2;refine⟨by simp[PD,h4],λi g g' hg hg'=>?_⟩;cases i with
  |zero=>simp[PD]at hg hg';subst hg;subst hg';exact⟨e1,e2,EC h2⟩
  |succ i=>simp[PD]at hg hg';grind
 |[],_::_,h=>h.elim
 |_::_,[],h=>h.elim
def Kg (l:List (Nat×List UInt8)):List (Nat×List UInt8)->Prop|[]=>True|(o,bs)::r=>lT l o=some bs/\Kg l r
theorem PE {l:List (Nat×List UInt8)}{o:Nat}{bs:List UInt8}:∀{r:List (Nat×List UInt8)},Kg l r->lT r o=some bs->lT l o=some bs
 |[],_,h=>by cases h
 |(u,c)::r,hb,h=>by simp only[lT]at h;split at h;rename_i hu;obtain rfl:=aM hu;obtain rfl:=au h;exact hb.1;exact PE hb.2 h
theorem Bt {l:List (Nat×List FV)}{o:Nat}{ys:List FV}:∀{r:List (Nat×List FV)},Az l r->Qv.getObj r o=some ys->∃xs,Qv.getObj l o=some xs/\xs.length=ys.length/\∀(i:Nat)(x y:FV),xs[i]?=some x->ys[i]?=some y->bh x y
 |[],_,h=>by cases h
 |(u,c)::r,hb,h=>by simp only[Qv.getObj]at h;split at h;rename_i hu;obtain rfl:=aM hu;obtain rfl:=au h;exact hb.1;exact Bt hb.2 h
def mkW (n off:Nat)(rel:List (Nat×FV))(aI:List (Nat×List FV))(bK:List (Nat×Nat×List (Nat×FV)))(cF:List zS)(cT:List (Nat×List UInt8))(maps:List (Nat×List (AV×FV)))(je:List (Nat×(Option (AV×AV)×List (AV×AV)))):aj:={n:=n,off:=off,tmps:=FD rel,aI:=aI,bK:=PD bK,cF:=cF,cT:=cT,maps:=maps,je:=je}
def Zk (maps:List (Nat×List (AV×FV))):List (Nat×List (AV×FV))->Prop|[]=>True|(o,l')::r=>(∃l,getM maps o=some l/\l.length=l'.length/\∀(i:Nat)(p p':AV×FV),l[i]?=some p->l'[i]?=some p'->p'.1=p.1/\bh p.2 p'.2)/\Zk maps r
def Zl (je:List (Nat×(Option (AV×AV)×List (AV×AV)))):List (Nat×(Option (AV×AV)×List (AV×AV)))->Prop|[]=>True|(q,x)::r=>getM je q=some x/\Zl je r
theorem PF {l:List (Nat×List (AV×FV))}{o:Nat}{ys:List (AV×FV)}:∀{r:List (Nat×List (AV×FV))},Zk l r->getM r o=some ys->∃xs,getM l o=some xs/\xs.length=ys.length/\∀(i:Nat)(p p':AV×FV),xs[i]?=some p->ys[i]?=some p'->p'.1=p.1/\bh p.2 p'.2
 |[],_,h=>by cases h
 |(u,c)::r,hb,h=>by simp only[getM]at h;split at h;rename_i hu;obtain rfl:=aM hu;obtain rfl:=au h;exact hb.1;exact PF hb.2 h
theorem PG {l:List (Nat×(Option (AV×AV)×List (AV×AV)))}{q:Nat}{x:Option (AV×AV)×List (AV×AV)}:∀{r:List (Nat×(Option (AV×AV)×List (AV×AV)))},Zl l r->getM r q=some x->getM l q=some x
 |[],_,h=>by cases h
 |(u,c)::r,hb,h=>by simp only[getM]at h;split at h;rename_i hu;obtain rfl:=aM hu;obtain rfl:=au h;exact hb.1;exact PG hb.2 h
theorem Dc {maps:List (Nat×List (AV×FV))}{o:Nat}{l:List (AV×FV)}(h:getM maps o=some l):∃l0,getM maps o=some l0/\l0.length=l.length/\∀(i:Nat)(p p':AV×FV),l0[i]?=some p->l[i]?=some p'->p'.1=p.1/\bh p.2 p'.2:=⟨l,h,rfl,λi p p' h1 h2=>by rw[h1]at h2;obtain rfl:=au h2;exact⟨rfl,bh.refl _⟩⟩
theorem Bu {n off:Nat}{rel:List (Nat×FV)}{aI:List (Nat×List FV)}{bK:List (Nat×Nat×List (Nat×FV))}{cF:List zS}{cT:List (Nat×List UInt8)}{maps:List (Nat×List (AV×FV))}{je:List (Nat×(Option (AV×AV)×List (AV×AV)))}(hn:(n,off,cF)=(S.n,S.off,S.cF))(h1:yX S.tmps rel)(h2:Az S.aI aI)(h3:MT S.bK bK)(h4:Kg S.cT cT)(h5:Zk S.maps maps)(h6:Zl S.je je):cK S (mkW n off rel aI bK cF cT maps je):=by
 injection hn with e1 e2;injection e2 with e2 e3;refine⟨e1,e2,e3,λo bs q=>⟨PE h4 q,λq2=>?_⟩,Uw h3,λi=>EC h1 i,λo ys ho=>Bt h2 ho,λo l hl=>PF h5 hl,λq x hx=>PG h6 hx⟩;cases hq:Qv.getObj aI o with
 |none=>exact hq
 |some ys=>obtain⟨xs,h5,-⟩:=Bt h2 hq;simp_all
theorem bL {n off:Nat}{rel:List (Nat×FV)}{aI:List (Nat×List FV)}{bK:List (Nat×Nat×List (Nat×FV))}{cF:List zS}{cT:List (Nat×List UInt8)}(hn:(n,off,cF)=(S.n,S.off,S.cF))(h1:yX S.tmps rel)(h2:Az S.aI aI)(h3:MT S.bK bK)(h4:Kg S.cT cT):cK S (MS n off rel aI bK cF cT):=Bu (maps:=[]) (je:=[]) hn h1 h2 h3 h4 trivial trivial
theorem tV {C:Ctx}{call:iQ}{Y:pH}{c:Code}{Q:Exit->aj->Prop}{α:Type}(n off:Nat)(rel:α->List (Nat×FV))(aI:α->List (Nat×List FV))(bK:α->List (Nat×Nat×List (Nat×FV)))(cF:List zS)(cT:α->List (Nat×List UInt8))(maps:α->List (Nat×List (AV×FV)))(je:α->List (Nat×(Option (AV×AV)×List (AV×AV))))(Inv:α->Prop)(μ:α->Nat)(x0:α)(h0:Inv x0)(hn:(n,off,cF)=(S.n,S.off,S.cF))(h1:yX S.tmps (rel x0))(h2:Az S.aI (aI x0))(h3:MT S.bK (bK x0))(h4:Kg S.cT (cT x0))(h5:Zk S.maps (maps x0))(h6:Zl S.je (je x0))(round:∀x,Inv x->yc C call Y c (uy (λS'=>∃x' um,cK S' um/\(Inv x'/\um=mkW n off (rel x') (aI x') (bK x') cF (cT x') (maps x') (je x'))/\μ x'<μ x) Q) (mkW n off (rel x) (aI x) (bK x) cF (cT x) (maps x) (je x))):∃(α:Type) (I:α->aj->Prop) (μ:α->Nat),(∃a S',cK S S'/\I a S')/\∀a S,I a S->yc C call Y c (uy (λS'=>∃a' um,cK S' um/\I a' um/\μ a'<μ a) Q) S:=⟨α,λx S=>Inv x/\S=mkW n off (rel x) (aI x) (bK x) cF (cT x) (maps x) (je x),μ,⟨x0,_,Bu hn h1 h2 h3 h4 h5 h6,h0,rfl⟩,λx S ⟨hI,hS⟩=>hS▸round x hI⟩
theorem oD {S':aj}{α:Type}{n off:Nat}{rel:α->List (Nat×FV)}{aI:α->List (Nat×List FV)}{bK:α->List (Nat×Nat×List (Nat×FV))}{cF:List zS}{cT:α->List (Nat×List UInt8)}{maps:α->List (Nat×List (AV×FV))}{je:α->List (Nat×(Option (AV×AV)×List (AV×AV)))}{Inv:α->Prop}{μ:α->Nat}{x:α}(x':α)(h0:Inv x')(hμ:μ x'<μ x)(hn:(n,off,cF)=(S'.n,S'.off,S'.cF))(h1:yX S'.tmps (rel x'))(h2:Az S'.aI (aI x'))(h3:MT S'.bK (bK x'))(h4:Kg S'.cT (cT x'))(h5:Zk S'.maps (maps x'))(h6:Zl S'.je (je x')):∃x' um,cK S' um/\(Inv x'/\um=mkW n off (rel x') (aI x') (bK x') cF (cT x') (maps x') (je x'))/\μ x'<μ x:=⟨x',_,Bu hn h1 h2 h3 h4 h5 h6,⟨h0,rfl⟩,hμ⟩
theorem Wf (aI:List (Nat×List FV))(xs:List FV)(o:Nat)(h:Qv.getObj aI o=some xs):∃ys,Qv.getObj aI o=some ys/\ys.length=xs.length/\∀(i:Nat)(x y:FV),ys[i]?=some x->xs[i]?=some y->bh x y:=FB h
theorem aH {aI:List (Nat×List FV)}{o:Nat}{xs:List FV}(h:Qv.getObj aI o=some xs):∃ys,Qv.getObj aI o=some ys/\ys.length=xs.length/\∀(i:Nat)(x y:FV),ys[i]?=some x->xs[i]?=some y->bh x y:=Wf aI xs o h
theorem Dd {C:Ctx}{call:iQ}{Y:pH}{c:Code}{Q:Exit->aj->Prop}{α:Type}(n off:Nat)(rel:α->List (Nat×FV))(aI:α->List (Nat×List FV))(bK:α->List (Nat×Nat×List (Nat×FV)))(cF:List zS)(cT:α->List (Nat×List UInt8))(Inv:α->Prop)(μ:α->Nat)(x0:α)(h0:Inv x0)(hn:(n,off,cF)=(S.n,S.off,S.cF))(h1:yX S.tmps (rel x0))(h2:Az S.aI (aI x0))(h3:MT S.bK (bK x0))(h4:Kg S.cT (cT x0))(round:∀x,Inv x->yc C call Y c (uy (λS'=>∃x' um,cK S' um/\(Inv x'/\um=MS n off (rel x') (aI x') (bK x') cF (cT x'))/\μ x'<μ x) Q) (MS n off (rel x) (aI x) (bK x) cF (cT x))):∃(α:Type) (I:α->aj->Prop) (μ:α->Nat),(∃a S',cK S S'/\I a S')/\∀a S,I a S->yc C call Y c (uy (λS'=>∃a' um,cK S' um/\I a' um/\μ a'<μ a) Q) S:=⟨α,λx S=>Inv x/\S=MS n off (rel x) (aI x) (bK x) cF (cT x),μ,⟨x0,_,bL hn h1 h2 h3 h4,h0,rfl⟩,λx S ⟨hI,hS⟩=>hS▸round x hI⟩
theorem sk {S':aj}{α:Type}{n off:Nat}{rel:α->List (Nat×FV)}{aI:α->List (Nat×List FV)}{bK:α->List (Nat×Nat×List (Nat×FV))}{cF:List zS}{cT:α->List (Nat×List UInt8)}{Inv:α->Prop}{μ:α->Nat}{x:α}(x':α)(h0:Inv x')(hμ:μ x'<μ x)(hn:(n,off,cF)=(S'.n,S'.off,S'.cF))(h1:yX S'.tmps (rel x'))(h2:Az S'.aI (aI x'))(h3:MT S'.bK (bK x'))(h4:Kg S'.cT (cT x')):∃x' um,cK S' um/\(Inv x'/\um=MS n off (rel x') (aI x') (bK x') cF (cT x'))/\μ x'<μ x:=⟨x',_,bL hn h1 h2 h3 h4,⟨h0,rfl⟩,hμ⟩
theorem afa {C:Ctx}{call:iQ}{Y:pH}{c:Code}{Q:Exit->aj->Prop}{α:Type}(n:Nat)(rel:α->List (Nat×FV))(aI:α->List (Nat×List FV))(cT:α->List (Nat×List UInt8))(Inv:α->Prop)(μ:α->Nat)(x0:α)(h0:Inv x0)(hn:(n,0,[],[])=(S.n,S.off,S.cF,S.bK))(h1:yX S.tmps (rel x0))(h2:Az S.aI (aI x0))(h4:Kg S.cT (cT x0))(round:∀x,Inv x->yc C call Y c (uy (λS'=>∃x' um,cK S' um/\(Inv x'/\um=MS n 0 (rel x') (aI x') [] [] (cT x'))/\μ x'<μ x) Q) (MS n 0 (rel x) (aI x) [] [] (cT x))):∃(α:Type) (I:α->aj->Prop) (μ:α->Nat),(∃a S',cK S S'/\I a S')/\∀a S,I a S->yc C call Y c (uy (λS'=>∃a' um,cK S' um/\I a' um/\μ a'<μ a) Q) S:=by injection hn with e1 e2;injection e2 with e2 e3;injection e3 with e3 e4;exact Dd n 0 rel aI (λ_=>[]) [] cT Inv μ x0 h0 (by simp_all) h1 h2 (by rw[<-e4];trivial) h4 round
theorem ahY {S':aj}{α:Type}{n:Nat}{rel:α->List (Nat×FV)}{aI:α->List (Nat×List FV)}{cT:α->List (Nat×List UInt8)}{Inv:α->Prop}{μ:α->Nat}{x:α}(x':α)(h0:Inv x')(hμ:μ x'<μ x)(hn:(n,0,[],[])=(S'.n,S'.off,S'.cF,S'.bK))(h1:yX S'.tmps (rel x'))(h2:Az S'.aI (aI x'))(h4:Kg S'.cT (cT x')):∃x' um,cK S' um/\(Inv x'/\um=MS n 0 (rel x') (aI x') [] [] (cT x'))/\μ x'<μ x:=by injection hn with e1 e2;injection e2 with e2 e3;injection e3 with e3 e4;exact⟨x',_,bL (by simp_all) h1 h2 (by rw[<-e4];trivial) h4,⟨h0,rfl⟩,hμ⟩
theorem bJ {C:Ctx}{call:iQ}{Y:pH}{c:Code}{Q:Exit->aj->Prop}{α:Type}(n:Nat)(rel:α->List (Nat×FV))(aI:α->List (Nat×List FV))(Inv:α->Prop)(μ:α->Nat)(x0:α)(h0:Inv x0)(hn:(n,0,[],[])=(S.n,S.off,S.cF,S.bK))(h1:yX S.tmps (rel x0))(h2:Az S.aI (aI x0))(round:∀x,Inv x->yc C call Y c (uy (λS'=>∃x' um,cK S' um/\(Inv x'/\um=MS n 0 (rel x') (aI x') [] [])/\μ x'<μ x) Q) (MS n 0 (rel x) (aI x) [] [])):∃(α:Type) (I:α->aj->Prop) (μ:α->Nat),(∃a S',cK S S'/\I a S')/\∀a S,I a S->yc C call Y c (uy (λS'=>∃a' um,cK S' um/\I a' um/\μ a'<μ a) Q) S:=afa n rel aI (λ_=>[]) Inv μ x0 h0 hn h1 h2 trivial round
theorem aQ {S':aj}{α:Type}{n:Nat}{rel:α->List (Nat×FV)}{aI:α->List (Nat×List FV)}{Inv:α->Prop}{μ:α->Nat}{x:α}(x':α)(h0:Inv x')(hμ:μ x'<μ x)(hn:(n,0,[],[])=(S'.n,S'.off,S'.cF,S'.bK))(h1:yX S'.tmps (rel x'))(h2:Az S'.aI (aI x')):∃x' um,cK S' um/\(Inv x'/\um=MS n 0 (rel x') (aI x') [] [])/\μ x'<μ x:=ahY (cT:=λ_=>[]) x' h0 hμ hn h1 h2 trivial
end
theorem ai {C:Ctx}{f:FuncId}{fn:Func}{args:List AV}{R:dx->Prop}(hf:C.P.funcs[f]?=some fn)(hb:fn.body.isSome=true)(hname:(fn.name== "runtime.NumGoroutine")=false)(hlen:Nat.ble args.length fn.ntmps=true)(h:ev C (match fn.body with|some c=>c|none=>.skip) (uB C fn.results.toList R) (AF fn.ntmps args)):aq C f args R:=by obtain⟨c,hc⟩:=oh.1 hb;rw[hc]at h;exact Kf hf hc hname (gZ hlen) h
theorem ej {C:Ctx}(l:List Nat){f:FuncId}{fn:Func}{args:List AV}{R:dx->Prop}(hf:C.P.funcs[f]?=some fn)(hb:fn.body.isSome=true)(hname:(fn.name== "runtime.NumGoroutine")=false)(hlen:Nat.ble args.length fn.ntmps=true)(h:ev (C.cut l) (match fn.body with|some c=>c|none=>.skip) (uB (C.cut l) fn.results.toList R) (AF fn.ntmps args)):aq C f args R:=ai (C:=C.cut l) hf hb hname hlen h
theorem aq.cut {C:Ctx}{l:List Nat}{f:FuncId}{args:List AV}{R:dx->Prop}(h:aq C f args R):aq (C.cut l) f args R:=h
theorem aY {C:Ctx}(e:Extra)(l:List Nat){f:FuncId}{fn:Func}{args:List AV}{R:dx->Prop}(hf:C.P.funcs[f]?=some fn)(hb:fn.body.isSome=true)(hname:(fn.name== "runtime.NumGoroutine")=false)(hlen:Nat.ble args.length fn.ntmps=true)(h:ev ((C.cut l).open e) (match fn.body with|some c=>c|none=>.skip) (uB ((C.cut l).open e) fn.results.toList R) (AF fn.ntmps args)):aq C f args R:=ai (C:=(C.cut l).open e) hf hb hname hlen h
theorem aq.dz {C:Ctx}{e:Extra}{l:List Nat}{f:FuncId}{args:List AV}{R:dx->Prop}(h:aq C f args R):aq ((C.cut l).open e) f args R:=h
theorem De {C:Ctx}(e:Extra)(l:List Nat){f:FuncId}{fn:Func}{cells args:List AV}{R:AV->List AV->Prop}(hf:C.P.funcs[f]?=some fn)(hb:fn.body.isSome=true)(hname:(fn.name== "runtime.NumGoroutine")=false)(hlen:Nat.ble (args.length+1) fn.ntmps=true)(h:ev ((C.cut l).open e) (match fn.body with|some c=>c|none=>.skip) (OA ((C.cut l).open e) fn.results.toList cells.length R) (Uh fn.ntmps cells args)):Hg C f cells args R:=by obtain⟨c,hc⟩:=oh.1 hb;rw[hc]at h;exact PC (C:=(C.cut l).open e) hf hc hname (gZ hlen) h
theorem Hg.dz {C:Ctx}{e:Extra}{l:List Nat}{f:FuncId}{cells args:List AV}{R:AV->List AV->Prop}(h:Hg C f cells args R):Hg ((C.cut l).open e) f cells args R:=h
theorem dc {S:aj}(n:Nat)(rel:List (Nat×FV))(aI:List (Nat×List FV)){K:aj->Prop}(hn:(n,0,[],[])=(S.n,S.off,S.cF,S.bK))(h1:yX S.tmps rel)(h2:Az S.aI aI)(h:K (MS n 0 rel aI [] [])):∃T,cK S T/\K T:=by injection hn with e1 e2;injection e2 with e2 e3;injection e3 with e3 e4;exact⟨_,bL (cT:=[]) (by simp_all) h1 h2 (by rw[<-e4];trivial) trivial,h⟩
theorem wrap64 {n:Int}(h1:-9223372036854775808<=n)(h2:n<=9223372036854775807):IntKind.i64.wrap n=n:=by simp[IntKind.wrap,IntKind.bits,IntKind.signed];omega
theorem Zm {n:Int}(h1:0<=n)(h2:n<=255):IntKind.u8.wrap n=n:=by simp[IntKind.wrap,IntKind.bits,IntKind.signed];omega
abbrev Bytes:=List UInt8
def mT (s:Bytes):List AV:=[.str s]
def PI (l:List Bytes):AV:=.sl (l.map mT)
theorem dL {α:Type}{f:α->List AV}{l:List α}{n:Int}{k:Nat}(hn:n=k)(hk:k<l.length):(l.map f)[n.toNat]?=some (f l[k]):=by simp_all
theorem bh.eq {x y:FV}(h:x=y):bh x y:=h▸bh.refl x
theorem wS {p:Prop}(h:p:=by(repeat refine⟨bh.eq kK,?_⟩);exact trivial):p:=h
theorem oS {p:Prop}(h:p:=by(repeat refine⟨aH kK,?_⟩);exact trivial):p:=h
theorem cl {C:Ctx}{f:FuncId}{args:List AV}{v:dx}{K:dx->Prop}(h:aq C f args λr=>r=v)(k:K v):∃R,aq C f args R/\∀r,R r->K r:=⟨_,h,λ_ hr=>hr▸k⟩
theorem nx (m:Nat){a:Int}{K:Int->Prop}(h:K (m:Int))(e:IntKind.i64.wrap a=(m:Int):=by rw[wrap64 oO oO];omega):∃c,IntKind.i64.wrap a=c/\K c:=⟨_,e,h⟩
theorem ix {α:Type}{f:α->List AV}{l:List α}{k m:Nat}{K:List AV->Prop}(hk:k<l.length)(h:K (f l[k]))(e:(f l[k]).length=m:=by exact rfl):0<=(k:Int)/\∃ys,(l.map f)[(k:Int).toNat]?=some ys/\ys.length=m/\K ys:=⟨oO,_,dL rfl hk,e,h⟩
theorem bh.jK (t:Nat)(T:TypeId)(bM:Nat):bh (.full []) (.fM t T bM []):=λG w v h=>by
 cases h with
 |full _ a h=>exact .fM t T bM [] a 0 h (.inl ⟨rfl,rfl⟩)
theorem bh.PJ (t:Nat)(T:TypeId)(bM:Nat)(xs:List (List AV)):bh (.fM t T bM xs) (.p (.sl xs)):=λG w v h=>.p _ _ (h.eG rfl)
theorem bh.yY (xs:List (List AV)):bh (.full xs) (.p (.sl xs)):=λG w v h=>.p _ _ (h.eG rfl)
theorem Zn {α:Type}{f:α->AV}(l:List α):∀zs,zs∈l.map (λx=>[f x])->zs.length=1:=by simp_all
theorem ahZ {c d:UInt8}(h:(c.toNat:Int)=(d.toNat:Int)):c=d:=UInt8.toNat.inj oO
theorem aF {p:Prop}[Decidable p]{K:Bool->Prop}(h1:p->K true)(h2:¬p->K false):Al λt:Bool=>t=decide p->K t:=⟨λt ht=>by by_cases h:p;simp_all;simp_all⟩
theorem aB {α:Type}[BEq α][LawfulBEq α]{a b:α}{K:Bool->Prop}(h1:a=b->K true)(h2:a≠b->K false):Al λt:Bool=>t=(a==b)->K t:=⟨λt ht=>by cases h:a==b;simp_all;simp_all⟩
theorem cu {α:Type}[BEq α][LawfulBEq α]{a b:α}{K:Bool->Prop}(h1:a≠b->K true)(h2:a=b->K false):Al λt:Bool=>t=(a !=b)->K t:=⟨λt ht=>by cases h:a==b;rw[ht];simp only[bne,h,Bool.not_false];simp_all;simp_all⟩
theorem Bv {α:Type}[BEq α][LawfulBEq α]{a b:α}{K:Bool->Prop}(h1:a≠b->K true)(h2:a=b->K false):Al λt:Bool=>t=!(a==b)->K t:=cu h1 h2
theorem cg {α β:Type}{k:Nat}{l:List α}{f:α->β}{K:Bool->Prop}(h1:k<l.length->K true)(h2:¬k<l.length->K false):Al λt:Bool=>t=decide ((k:Int)<((l.map f).length:Int))->K t:=aF (λh=>h1 (by simp_all)) (λh=>h2 (by simp_all))
theorem bH {b:Bool}{K:Bool->Prop}(h:K !b):Al λt:Bool=>t=!b->K t:=⟨λt ht=>ht▸h⟩
end Qv
namespace Qv
open Go
inductive gq {H:Type}(P:Program):TypeId->DataW H->List AV->Prop|bool (t:TypeId)(b:Bool):P.underlying t=some .bool->gq P t (.lit (.bool b)) [.bool b]|int (t:TypeId)(k:IntKind)(n:Int):P.underlying t=some (.int k)->(Lit.int k n).wf=true->gq P t (.lit (.int k n)) [.int k n]|str (t:TypeId)(s:List UInt8):P.underlying t=some .string->gq P t (.lit (.string s)) [.str s]|nil (t e:TypeId):P.underlying t=some (.slice e)->gq P t .nil [.sl []]|slice (t e:TypeId)(ds sp:List (DataW H))(xs:List (List AV)):P.underlying t=some (.slice e)->ds.length=xs.length->(∀(i:Nat)(d:DataW H)(x:List AV),ds[i]?=some d->xs[i]?=some x->gq P e d x)->gq P t (.slice ds sp) [.sl xs]|struct (t:TypeId)(fs:Array Field)(ds:List (DataW H))(pieces:List (List AV)):P.underlying t=some (.struct fs)->fs.toList.length=ds.length->pieces.length=ds.length->(∀(i:Nat)(f:Field)(d:DataW H)(x:List AV),fs.toList[i]?=some f->ds[i]?=some d->pieces[i]?=some x->gq P f.type d x)->gq P t (.agg ds) pieces.flatten|arr (t e:TypeId)(n:Nat)(ds:List (DataW H))(pieces:List (List AV)):P.underlying t=some (.array n e)->ds.length=n->pieces.length=n->(∀(i:Nat)(d:DataW H)(x:List AV),ds[i]?=some d->pieces[i]?=some x->gq P e d x)->gq P t (.agg ds) pieces.flatten
def KX (P:Program)(ts:List TypeId)(t:TypeId):Bool:=match P.underlying t with|some .bool=>true|some (.int _)=>true|some .string=>true|some (.slice e)=>ts.contains e&&!(P.cellsOf e==0)|some (.struct fs)=>fs.toList.all λf=>ts.contains f.type|some (.array _ e)=>ts.contains e|_=>false
def Bw (P:Program)(ts:List TypeId):Bool:=ts.all λt=>decide (t<P.types.size)&&KX P ts t
theorem PK {α β:Type}{f:α->Option β}:∀{l:List α}{ys:List β},l.mapM f=some ys->ys.length=l.length/\∀(i:Nat)(x:α)(y:β),l[i]?=some x->ys[i]?=some y->f x=some y
 |[],ys,h=>by simp at h;subst h;exact⟨rfl,λi x y h=>by simp at h⟩
 |a::l,ys,h=>by
  rw[List.mapM_cons]at h;cases ha:f a with
  |none=>rw[ha]at h;cases h
  |some b=>
   rw[ha]at h;cases hl:l.mapM f with
   |none=>rw[hl]at h;cases h
   |some bs=>
    rw[hl]at h;obtain rfl:=au h;obtain⟨h1,h2⟩:=PK hl;refine⟨by simp[h1],λi x y hx hy=>?_⟩;cases i with
    |zero=>simp at hx hy;subst hx;subst hy;exact ha
    |succ i=>simp at hx hy;exact h2 i x y hx hy
theorem uJ {β:Type}(n:Nat)(R:Nat->β->Prop)(h:∀i,i<n->∃x,R i x):∃l:List β,l.length=n/\∀i x,l[i]?=some x->R i x:=by
 induction n with
 |zero=>exact⟨[],rfl,by simp⟩
 |succ n ih=>
  obtain⟨l,h1,h2⟩:=ih λi hi=>h i oO;obtain⟨x,hx⟩:=h n oO;refine⟨l++[x],by simp[h1],λi y hy=>?_⟩;by_cases hi:i<n;rw[cG oO]at hy;exact h2 i y hy;have hlt:i<(l++[x]).length:=(aJ.1 hy).1;simp[h1]at hlt;obtain rfl:i=n:=oO
  rw[dH oO]at hy;simp[h1]at hy;subst hy;exact hx
def yd (bk:Nat->Nat->Prop)(w:World)(cs:List Value)(xs:List AV):Prop:=cs.length=xs.length/\(∀x,x∈xs->x.one=true)/\∀(i:Nat)(c:Value)(x:AV),cs[i]?=some c->xs[i]?=some x->dA bk w c x
theorem yd.nil (bk:Nat->Nat->Prop)(w:World):yd bk w [] []:=⟨rfl,by simp,by simp⟩
theorem yd.append {bk:Nat->Nat->Prop}{w:World}{cs cs':List Value}{xs xs':List AV}(h:yd bk w cs xs)(h':yd bk w cs' xs'):yd bk w (cs++cs') (xs++xs'):=by refine⟨by simp[h.1,h'.1],λx hx=>?_,λi c x hc hx=>?_⟩;rcases aZ.1 hx with hx|hx;exact h.2.1 x hx;exact h'.2.1 x hx;by_cases hi:i<cs.length;rw[cG hi]at hc;rw[cG (by rw[<-h.1];exact hi)]at hx;exact h.2.2 i c x hc hx;rw[dH oO]at hc;rw[dH (by rw[<-h.1];omega),<-h.1]at hx;exact h'.2.2 _ c x hc hx
theorem yd.one {bk:Nat->Nat->Prop}{w:World}{c:Value}{x:AV}(h:dA bk w c x)(hx:x.one=true):yd bk w [c] [x]:=⟨rfl,by simpa using hx,λi c' x' h1 h2=>by
 cases i with
 |zero=>simp at h1 h2;subst h1;subst h2;exact h
 |succ i=>simp at h1⟩
theorem Il {bk:Nat->Nat->Prop}{w:World}(size:Field->Nat)(cs:List Value):∀(fs:List Field)(o:Nat)(pieces:List (List AV)),pieces.length=fs.length->(∀(j:Nat)(f:Field),fs[j]?=some f->f.offset=o+((fs.take j).map size).sum)->(cs.drop o).length=(fs.map size).sum->(∀(j:Nat)(f:Field)(x:List AV),fs[j]?=some f->pieces[j]?=some x->yd bk w ((cs.drop f.offset).take (size f)) x)->yd bk w (cs.drop o) pieces.flatten
 |[],o,pieces,hp,ho,hl,hr=>by have h1:pieces=[]:=bQ.1 (by simpa using hp);have h2:cs.drop o=[]:=bQ.1 (by simpa using hl);rw[h1,h2];exact .nil _ _
 |f::fs,o,[],hp,ho,hl,hr=>by simp at hp
 |f::fs,o,x::pieces,hp,ho,hl,hr=>by
  have hf:f.offset=o:=by simpa using ho 0 f rfl
  have h0:=hr 0 f x rfl rfl;rw[hf]at h0;simp only[cQ,bR,sX]at hl;have ih:=Il size cs fs (o+size f) pieces (by simpa using hp) (λj g hg=>by have :=ho (j+1) g hg;simp only[CC,bR,sX]at this;omega) (by simp only[cQ];omega) (λj g y hg hy=>hr (j+1) g y hg hy);have :cs.drop o=(cs.drop o).take (size f)++cs.drop (o+size f):=by rw[<-wE,dI]
  rw[this,nP];exact h0.append ih
theorem KY {bk:Nat->Nat->Prop}{w:World}(z:Nat):∀(l:List (List AV))(cs:List Value),cs.length=l.length*z->(∀(i:Nat)(x:List AV),l[i]?=some x->yd bk w ((cs.drop (i*z)).take z) x)->yd bk w cs l.flatten
 |[],cs,hl,hr=>by have h1:cs=[]:=bQ.1 (by simpa using hl);rw[h1];exact .nil _ _
 |x::l,cs,hl,hr=>by have h0:=hr 0 x rfl;rw[Nat.zero_mul,List.drop_zero]at h0;simp only[aR,bw,kn]at hl;have ih:=KY z l (cs.drop z) (by simp only[cQ];omega) (λi y hy=>by have :=hr (i+1) y (by simpa using hy);rw[wE];rw[bw,kn,nQ]at this;exact this);rw[<-dI z cs,nP];exact h0.append ih
theorem KZ {w:World}{base:Nat}{a:Addr}{n:Nat}{cs:List Value}(h:w.cells? base a n=some cs):cs.length=n/\∀(i:Nat)(c:Value),cs[i]?=some c->w.cell? (a.add i)=some c:=by
 unfold World.cells? at h;split at h;obtain⟨h1,h2⟩:=PK h;simp at h1;refine⟨h1,λi c hc=>?_⟩;have hi:i<n:=by rw[<-h1];exact(aJ.1 hc).1
 exact h2 i i c (by simp[hi]) hc;cases h
theorem Ux {w:World}{a:Addr}{c:Value}(h:w.cell? a=some c):a.block<w.heap.size/\a.spot=none:=by
 unfold World.cell? at h;split at h;rename_i hq;refine⟨(bq.1 hq).1,?_⟩;split at h;cases h;rename_i hs;cases hsp:a.spot with
 |none=>rfl
 |some x=>rw[hsp]at hs;simp at hs
 cases h
theorem Df {P:Program}{ts:List TypeId}(h:Bw P ts=true){t:TypeId}(ht:t∈ts):t<P.types.size/\KX P ts t=true:=by have :=bA.1 h t ht;simpa using this
theorem lay_of {P:Program}(hl:laidOutB P=true){t:TypeId}(ht:t<P.types.size):rowFine P t=true:=by simp only[laidOutB,br]at hl;exact bA.1 hl.1.1 t (by simpa using ht)
theorem Zo {H:Type}{enc:TypeId×Value->H}{P:Program}{w:World}{held:Bool}{spare:Nat->Bool}{ts:List TypeId}(hl:laidOutB P=true)(hf:Bw P ts=true):∀(fuel:Nat)(t:TypeId)(cs:List Value)(d:DataW H)(ps:List MemPlace),t∈ts->DataW.trod enc P w 0 spare held fuel t cs=some (d,ps)->∃xs,gq P t d xs/\cs.length=P.cellsOf t/\yd (λb _=>b<w.heap.size) w cs xs:=by
 intro fuel;induction fuel with
 |zero=>intro t cs d ps ht h;cases h
 |succ fuel ih=>
  intro t cs d ps ht h;obtain⟨hlt,hft⟩:=Df hf ht;have hrow:=lay_of hl hlt;unfold KX at hft;have hone:∀{u:TypeDesc},P.underlying t=some u->(match u with|.bool|.int _|.string|.slice _=>True|_=>False)->P.cellsOf t=1:=λ{u} hu hm=>by unfold rowFine isVar at hrow;simp only[hu,hlt,decide_true,iI]at hrow;cases u<;>simp_all[kindOk]
  split at hft;rename_i hu;obtain⟨b,rfl,hx⟩:=DataW.trod_bool hu h;obtain⟨rfl,rfl⟩:=fJ hx;exact⟨_,.bool t b hu,(hone hu trivial).symm,.one (.bool b) rfl⟩;rename_i k hu;obtain⟨n,rfl,hx,hwf⟩:=DataW.trod_int hu h;obtain⟨rfl,rfl⟩:=fJ hx;exact⟨_,.int t k n hu hwf,(hone hu trivial).symm,.one (.int k n) rfl⟩;rename_i hu;obtain⟨⟨⟨s⟩⟩,rfl,hx,hwf⟩:=DataW.trod_string hu h;obtain⟨rfl,rfl⟩:=fJ hx;exact⟨_,.str t s hu,(hone hu trivial).symm,.one (.str s) rfl⟩
  ·rename_i e hu;simp only[br,dY,wP,ne_eq,Dh]at hft;obtain⟨he,Yx⟩:=hft;rcases DataW.trod_slice hu h with⟨rfl,hx⟩|⟨a,len,cap,elems,rest,m,hm,rfl,hx,hb,hlc,hcm,hel,tN,_,_⟩;obtain⟨rfl,rfl⟩:=fJ hx;exact⟨_,.nil t e hu,(hone hu trivial).symm,.one (.TZ none 0) rfl⟩;obtain⟨rfl,rfl⟩:=fJ hx;obtain rfl:fuel=m:=oO
   have ah0:=hone hu trivial;have each:∀i,i<len->∃(x:List Value×List AV) (d:DataW H),(elems.map (·.1))[i]?=some d/\gq P e d x.2/\x.1.length=P.cellsOf e/\yd (λb _=>b<w.heap.size) w x.1 x.2/\w.cells? 0 (a.add (i*P.cellsOf e)) (P.cellsOf e)=some x.1:=λi hi=>by
    have h1:=tN i hi;have hlt':i<elems.length:=oO
    rw[av hlt']at h1;obtain⟨cs',hcs,htr⟩:=Option.bind_eq_some_iff.1 h1;obtain⟨xs,g1,g2,g3⟩:=ih e cs' elems[i].1 elems[i].2 he htr;exact⟨(cs',xs),elems[i].1,by simp[hlt'],g1,g2,g3,hcs⟩
   obtain⟨l,GH,Gp⟩:=uJ len _ each;refine⟨[.sl (l.map (·.2))],.slice t e _ _ _ hu (by simp[hel,GH]) (λi d x hd hx=>?_),ah0.symm,.one ?_ rfl⟩;rw[aN]at hx;cases Sq:l[i]?with
   |none=>rw[Sq]at hx;cases hx
   |some y=>rw[Sq]at hx;obtain rfl:=au hx;obtain⟨d',k1,k2,_⟩:=Gp i y Sq;rw[hd]at k1;obtain rfl:=au k1;exact k2
   by_cases h0:len=0;subst h0;obtain rfl:l=[]:=bQ.1 GH;exact .TZ _ _;have hpos:0<P.cellsOf e:=wL Yx;have hsp:a.spot=none:=by
    obtain⟨y,hy⟩:∃y,l[0]?=some y:=⟨l[0]'oO,av _⟩;obtain⟨d',_,_,k3,_,k5⟩:=Gp 0 y hy;obtain⟨c1,c2⟩:=KZ k5;have akp:0<y.1.length:=oO
    have :=(Ux (c2 0 y.1[0] (av akp))).2;simpa[Addr.add]using this
   obtain⟨b,off,spot⟩:=a;obtain rfl:spot=none:=hsp;have key:∀(i:Nat)(ys:List AV)(j:Nat)(y:AV),(l.map (·.2))[i]?=some ys->ys[j]?=some y->∃z c,l[i]?=some z/\z.2=ys/\z.1[j]?=some c/\w.cell? ⟨b,off+i*P.cellsOf e+j,none⟩=some c/\dA (λb _=>b<w.heap.size) w c y/\y.one=true/\ys.length=P.cellsOf e:=λi ys j y h1 h2=>by
    rw[aN]at h1;cases Sq:l[i]?with
    |none=>rw[Sq]at h1;cases h1
    |some z=>
     rw[Sq]at h1;obtain rfl:=au h1;simp only at h2;obtain⟨d',_,_,k3,⟨r1,r2,r3⟩,k5⟩:=Gp i z Sq;obtain⟨c1,c2⟩:=KZ k5;have hjl:j<z.1.length:=by rw[r1];exact(aJ.1 h2).1
     refine⟨z,z.1[j],rfl,rfl,av hjl,?_,r3 j _ _ (av hjl) h2,r2 _ (bU h2),by show z.2.length=_;omega⟩;have :=c2 j _ (av hjl);rwa[Go.WideShapes.add_plain,Go.WideShapes.add_plain]at this
   have hlen:(l.map (·.2)).length=len:=by simp[GH]
   rw[<-hlen];refine .sl b off cap (P.cellsOf e) _ (λi j=>match l[i]?with|some z=>z.1.getD j undef|none=>undef) ?_ ?_ ?_ ?_ ?_ oO;intro i ys h1;rw[aN]at h1;cases Sq:l[i]?with
   |none=>rw[Sq]at h1;cases h1
   |some z=>rw[Sq]at h1;obtain rfl:=au h1;obtain⟨d',_,_,k3,⟨r1,_⟩,_⟩:=Gp i z Sq;show z.2.length=_;omega
   all_goals intro i ys j y h1 h2;obtain⟨z,c,hz,hzy,Cf,hcell,oC,hy1,_⟩:=key i ys j y h1 h2
   exact hy1;simp only[hz,List.getD,Cf,wK];exact hcell;exact(Ux hcell).1;simp only[hz,List.getD,Cf,wK];exact oC
  rename_i fs hu;obtain⟨xs,m,hm,hx,lU,hxl,tN⟩:=DataW.trod_struct hu h;obtain⟨rfl,rfl⟩:=fJ hx;obtain rfl:fuel=m:=oO
  have hall:=bA.1 hft;have hk:isVar P t=true:=by unfold isVar;rw[hu];simp[hlt,kindOk]
  unfold rowFine at hrow;rw[hk,hu]at hrow;simp only[Bool.not_true,od,br,beq_iff_eq]at hrow;obtain⟨⟨_,hsum⟩,hoff⟩:=hrow;have each:∀i,i<fs.size->∃(x:List AV),∀f d,fs.toList[i]?=some f->(xs.map (·.1))[i]?=some d->gq P f.type d x/\yd (λb _=>b<w.heap.size) w ((cs.drop f.offset).take (P.cellsOf f.type)) x:=λi hi=>by
   have h1:=tN i fs[i] (sL hi);have hlt':i<xs.length:=oO
   rw[av hlt']at h1;have hmem:fs[i].type∈ts:=by have :=hall fs[i] (by simp);simpa using this
   obtain⟨x,g1,g2,g3⟩:=ih fs[i].type _ xs[i].1 xs[i].2 hmem h1;refine⟨x,λf d hf hd=>?_⟩;rw[sH,sL hi]at hf;obtain rfl:=au hf;rw[aN,av hlt']at hd;obtain rfl:=au hd;exact⟨g1,g3⟩
  obtain⟨l,GH,Gp⟩:=uJ fs.size _ each;refine⟨l.flatten,.struct t fs _ l hu (by simp[hxl]) (by simp[GH,hxl]) (λi f d x hf hd hx=>(Gp i x hx f d hf hd).1),lU,?_⟩;have hp:=Il (bk:=λb _=>b<w.heap.size) (w:=w) (λf=>P.cellsOf f.type) cs fs.toList 0 l (by simp[GH]) (λj f hf=>by have hj:j<fs.toList.length:=(aJ.1 hf).1;have :=bA.1 hoff j (by simpa using hj);rw[hf]at this;simpa using this) (by simpa[lU]using hsum) (λj f x hf hx=>by
   have hj:j<xs.length:=by rw[hxl];simpa using(aJ.1 hf).1
   exact(Gp j x hx f (xs[j].1) hf (by simp[hj])).2);simpa using hp;rename_i n e hu;rw[Dh]at hft;obtain⟨xs,m,hm,hx,lU,hxl,tN⟩:=DataW.trod_array hu h;obtain⟨rfl,rfl⟩:=fJ hx;obtain rfl:fuel=m:=oO
  have hk:isVar P t=true:=by unfold isVar;rw[hu];simp[hlt,kindOk]
  unfold rowFine at hrow;rw[hk,hu]at hrow;simp only[Bool.not_true,od,br,beq_iff_eq]at hrow;obtain⟨_,hsum⟩:=hrow;have each:∀i,i<n->∃(x:List AV),∀d,(xs.map (·.1))[i]?=some d->gq P e d x/\yd (λb _=>b<w.heap.size) w ((cs.drop (i*P.cellsOf e)).take (P.cellsOf e)) x:=λi hi=>by
   have h1:=tN i hi;have hlt':i<xs.length:=oO
   rw[av hlt']at h1;obtain⟨x,g1,g2,g3⟩:=ih e _ xs[i].1 xs[i].2 hft h1;refine⟨x,λd hd=>?_⟩;rw[aN,av hlt']at hd;obtain rfl:=au hd;exact⟨g1,g3⟩
  obtain⟨l,GH,Gp⟩:=uJ n _ each;refine⟨l.flatten,.arr t e n _ l hu (by simp[hxl]) GH (λi d x hd hx=>(Gp i x hx d hd).1),lU,?_⟩;refine KY (P.cellsOf e) l cs (by rw[lU,hsum,GH]) (λi x hx=>?_);have hj:i<xs.length:=by have :=(aJ.1 hx).1;omega
  exact(Gp i x hx (xs[i].1) (by simp[hj])).2;cases hft
theorem FE {H:Type}{enc:TypeId×Value->H}{P:Program}{w:World}{held:Bool}{spare:Nat->Bool}{ts:List TypeId}(hl:laidOutB P=true)(hf:Bw P ts=true):∀(us:List TypeId)(vs:List Value)(ds:List (DataW H))(ps:List MemPlace),(∀u,u∈us->u∈ts)->DataW.TrodAll enc P w 0 spare held us vs ds ps->vs.length=us.length/\ds.length=us.length/\∀(i:Nat)(u:TypeId)(v:Value)(d:DataW H),us[i]?=some u->vs[i]?=some v->ds[i]?=some d->∃xs,gq P u d xs/\yd (λb _=>b<w.heap.size) w v.cells.toList xs
 |[],[],[],ps,hm,h=>⟨rfl,rfl,λi u v d h=>by simp at h⟩
 |u::us,v::vs,d::ds,ps,hm,h=>by
  obtain⟨p,q,⟨fuel,h1⟩,h2,h3⟩:=h;obtain⟨xs,g1,_,g3⟩:=Zo hl hf fuel u _ d p (hm u (by simp)) h1;obtain⟨k1,k2,k3⟩:=FE hl hf us vs ds q (λu hu=>hm u (by simp[hu])) h2;refine⟨by simp[k1],by simp[k2],λi u' v' d' h4 h5 h6=>?_⟩;cases i with
  |zero=>simp at h4 h5 h6;subst h4;subst h5;subst h6;exact⟨xs,g1,g3⟩
  |succ i=>exact k3 i u' v' d' (by simpa using h4) (by simpa using h5) (by simpa using h6)
end Qv
namespace Qv
open Go Go.RowKit Go.WideShapes Go.ChangeShapes Go.WideElems
def Di (P:Program)(t:TypeId)(xs:List AV):AV:=match P.underlying t with|some (.struct _)=>.agg xs|some (.array _ _)=>.agg xs|_=>xs.headD (.bool false)
theorem yZ {P:Program}{t:TypeId}{u:TypeDesc}{x:AV}(h:P.underlying t=some u)(hu:∀fs,u≠.struct fs)(hu':∀n e,u≠.array n e:=by intro _ _ h;cases h):Di P t [x]=x:=by unfold Di;rw[h];cases u<;>first|rfl|exact absurd rfl (hu _)|exact absurd rfl (hu' _ _)
theorem Im {P:Program}{t:TypeId}{fs:Array Field}{xs:List AV}(h:P.underlying t=some (.struct fs)):Di P t xs=.agg xs:=by unfold Di;rw[h]
theorem Zp {P:Program}{t e:TypeId}{n:Nat}{xs:List AV}(h:P.underlying t=some (.array n e)):Di P t xs=.agg xs:=by unfold Di;rw[h]
def ED {H:Type}(P:Program)(t:TypeId)(d:DataW H)(x:AV):Prop:=∃ys,gq P t d ys/\x=Di P t ys
theorem ac3 {H:Type}{P:Program}{w:World}{r:Reach}{base:Nat}{t:TypeId}{v:Value}{d:DataW H}{xs:List AV}{bk:Nat->Nat->Prop}(hv:Value.okWide P w r base t v)(hd:gq P t d xs)(h:yd bk w v.cells.toList xs):dA bk w v (Di P t xs):=by
 have single:∀{x:AV},xs=[x]->v.cells=#[v]->(∀fs,P.underlying t≠some (.struct fs))->(∀n e,P.underlying t≠some (.array n e))->dA bk w v (Di P t xs):=λ{x} hx hc hs hs'=>by subst hx;rw[hc]at h;have h1:=h.2.2 0 v x rfl rfl;unfold Di;split;rename_i fs hu;exact absurd hu (hs fs);rename_i n e hu;exact absurd hu (hs' n e);exact h1
 cases hd with
 |bool _ b hu=>obtain⟨b',rfl⟩:=okWide_bool hu hv;exact single rfl rfl (by rw[hu];intro _ h;cases h) (by rw[hu];intro _ _ h;cases h)
 |int _ k n hu _=>obtain⟨b',rfl⟩:=okWide_int hu hv;exact single rfl rfl (by rw[hu];intro _ h;cases h) (by rw[hu];intro _ _ h;cases h)
 |str _ s hu=>obtain⟨b',rfl⟩:=okWide_string hu hv;exact single rfl rfl (by rw[hu];intro _ h;cases h) (by rw[hu];intro _ _ h;cases h)
 |nil _ e hu=>obtain⟨a,b,c,rfl⟩:=okWide_slice hu hv;exact single rfl rfl (by rw[hu];intro _ h;cases h) (by rw[hu];intro _ _ h;cases h)
 |slice _ e ds sp xs' hu _ _=>obtain⟨a,b,c,rfl⟩:=okWide_slice hu hv;exact single rfl rfl (by rw[hu];intro _ h;cases h) (by rw[hu];intro _ _ h;cases h)
 |struct _ fs ds pieces hu _ _ _=>obtain⟨cs,rfl,_⟩:=okWide_struct hu hv;unfold Di;rw[hu];have :=dA.agg (bk:=bk) (w:=w) cs.toList pieces.flatten h.1 h.2.1 h.2.2;simpa using this
 |arr _ e n ds pieces hu _ _ _=>simp only[Value.okWide,hu]at hv;obtain⟨cs,rfl,_⟩:=hv;unfold Di;rw[hu];have :=dA.agg (bk:=bk) (w:=w) cs.toList pieces.flatten h.1 h.2.1 h.2.2;simpa using this
theorem Zq {H:Type}{enc:TypeId×Value->H}{P:Program}{w:World}{r:Reach}{base:Nat}{held:Bool}{spare:Nat->Bool}{ts:List TypeId}(hl:laidOutB P=true)(hf:Bw P ts=true){us:List TypeId}{vs:List Value}{ds:List (DataW H)}{ps:List MemPlace}(hm:∀u,u∈us->u∈ts)(h:DataW.TrodAll enc P w 0 spare held us vs ds ps)(hv:∀(j:Nat)(t:TypeId)(v:Value),us[j]?=some t->vs[j]?=some v->Value.okWide P w r base t v):∃xs:List AV,vs.length=xs.length/\xs.length=us.length/\ds.length=us.length/\(∀(i:Nat)(u:TypeId)(d:DataW H)(x:AV),us[i]?=some u->ds[i]?=some d->xs[i]?=some x->ED P u d x)/\∀(i:Nat)(v:Value)(x:AV),vs[i]?=some v->xs[i]?=some x->dA (λb _=>b<w.heap.size) w v x:=by
 obtain⟨k1,k2,k3⟩:=FE hl hf us vs ds ps hm h;have each:∀i,i<us.length->∃x,∀(u:TypeId)(v:Value)(d:DataW H),us[i]?=some u->vs[i]?=some v->ds[i]?=some d->ED P u d x/\dA (λb _=>b<w.heap.size) w v x:=λi hi=>by obtain⟨xs,g1,g2⟩:=k3 i us[i] (vs[i]'oO) (ds[i]'oO) (av hi) (av _) (av _);refine⟨Di P us[i] xs,λu v d hu VR hd=>?_⟩;rw[av hi]at hu;rw[av oO]at VR hd;obtain rfl:=au hu;obtain rfl:=au VR;obtain rfl:=au hd;exact⟨⟨xs,g1,rfl⟩,ac3 (hv i _ _ (av hi) (av _)) g1 g2⟩
 obtain⟨l,GH,Gp⟩:=uJ us.length _ each;refine⟨l,oO,GH,k2,λi u d x hu hd hx=>?_,λi v x VR hx=>?_⟩;have hi:i<us.length:=(aJ.1 hu).1;exact(Gp i x hx u (vs[i]'oO) d hu (av _) hd).1;have hi:i<us.length:=by have :=(aJ.1 hx).1;omega
 exact(Gp i x hx us[i] v (ds[i]'oO) (av hi) VR (av _)).2
def Af (P:Program)(ns:List String):Bool:=ns.all λn=>((P.globalNamed n).bind (P.globals[·]?)).all λgl=>P.readableRec gl.type&&decide (gl.type<P.types.size)
section
variable {H:Type}{enc:TypeId×Value->H}{P:Program}
theorem La (hl:laidOutB P=true){W W':World}(hb:Below W.heap.size W W'){sp:Nat->Bool}:∀{ts:List TypeId}{vs:List Value}{ds:List (DataW H)}{ps:List MemPlace},(ts.all λt=>P.readableRec t&&decide (t<P.types.size))=true->(∀x∈ps,x.block<W.heap.size)->(∀x∈ps,sp x.block=true)->DataW.TrodAll enc P W 0 (λ_=>true) true ts vs ds ps->DataW.TrodAll enc P W' 0 sp true ts vs ds ps
 |[],[],[],_,_,_,_,h=>h
 |t::ts,v::vs,d::ds,ps,hr,hlt,hs,⟨p,q,h1,h2,e⟩=>by
  simp only[wu,br,decide_eq_true_eq]at hr;have m1:∀x∈p,x∈ps:=λx hx=>by rw[e];exact jj _ hx
  have m2:∀x∈q,x∈ps:=λx hx=>by rw[e];exact sV _ hx
  exact⟨p,q,WideElems.Trod_stays hl hr.1.1 hr.1.2 h1 (λx hx=>hb.same (hlt x (m1 x hx))) (λx hx=>hs x (m1 x hx)),La hl hb hr.2 (λx hx=>hlt x (m2 x hx)) (λx hx=>hs x (m2 x hx)) h2,e⟩
theorem Lb (hl:laidOutB P=true){W W':World}(hb:Below W.heap.size W W'){sp:Nat->Bool}:∀{ns:List String}{gs:List (DataW H)}{ps:List MemPlace},Af P ns=true->(∀x∈ps,sp x.block=true)->DataW.TrodVars enc P W (λ_=>true) ns gs ps->DataW.TrodVars enc P W' sp ns gs ps
 |[],[],_,_,_,h=>h
 |[],_::_,_,_,_,h=>h.elim
 |_::_,[],_,_,_,h=>h.elim
 |n::ns,d::ds,ps,hv,hsp,h=>by
  have hlt:=h.lt;obtain⟨g,t,cs,fuel,p,q,h1,h2,h3,h4,hs,e⟩:=h;simp only[Af,wu,br]at hv;have ht:P.readableRec t=true/\t<P.types.size:=by
   have :=hv.1;rw[h1]at this;cases hg:P.globals[g]?with
   |none=>rw[hg]at h2;cases h2
   |some gl=>rw[hg]at h2;obtain rfl:gl.type=t:=au h2;simpa[hg]using this
  have hp:∀x∈p,x.block<W.heap.size:=λx hx=>hlt x (by rw[e];simp[hx]);have h3':W'.var? P n=some cs:=by
   unfold World.var? at h3⊢;rw[h1]at h3⊢;simp only[nW]at h3⊢;have hg:g<W.heap.size:=by
    cases hh:W.heap[g]?with
    |none=>rw[hh]at h3;cases h3
    |some o=>exact(bq.1 hh).1
   rw[hb.block g hg];exact h3
  exact⟨g,t,cs,fuel,p,q,h1,h2,h3',DataW.trod_stays (kids_book hl ht.1) (book_sized ht.1) (λh=>by cases h) ⟨ht.2,book_self t⟩ h4 (λx hx=>hb.same (hp x hx)) (λx hx=>hsp x (by rw[e];simp[hx])),Lb hl hb (by simpa[Af]using hv.2) (λx hx=>hsp x (by rw[e];simp[hx])) hs,e⟩
theorem Su {f:Func}{s:ChangeSpec}{apart fresh handsOn again:Bool}{W W':World}{args:Array Value}{v:Value}{ds gs:List (DataW H)}{before pa pv:List MemPlace}(hW:DataW.Whole enc P f.params.toList s.vars apart W args.toList ds gs before)(hres:∀(b:Nat)(sp:Nat->Bool)(hd:Bool),DataW.TrodAll enc P W' b sp hd f.resultTypes.toList (v.resultList f.resultTypes.size) (s.fn H (ds++gs)).results [])(hargs:∀sp:Nat->Bool,(∀p∈before,sp p.block=true)->DataW.TrodAll enc P W' 0 sp true f.params.toList args.toList (s.fn H (ds++gs)).args pa)(hvars:∀sp:Nat->Bool,(∀p∈before,sp p.block=true)->DataW.TrodVars enc P W' sp s.vars (s.fn H (ds++gs)).vars pv)(hps:before=pa++pv)(hb:Below W.heap.size W W')(hok:∀(j:Nat)(t:TypeId)(r:Value),f.resultTypes[j]?=some t->(v.resultList f.resultTypes.size)[j]?=some r->Value.okWide P W' .any 0 t r):s.post enc P f apart fresh handsOn again W args v W':=by
 have hlt:∀p∈before,p.block<W.heap.size:=λp hp=>hW.lt p hp;have hold:∀p∈before,(λb=>decide (b<W.heap.size)) p.block=true:=λp hp=>by simpa using hlt p hp
 refine⟨ds,gs,before,[],pa,pv,hW,hres _ _ _,hargs _ hold,hvars _ hold,World.keptBut_mono (λp hp=>⟨hp,?_⟩) (hb.frame (·∈before)),λ_=>?_⟩;rw[hps,aZ]at hp;exact Or.inr hp;obtain⟨_,_,_,_,_,hz,hn⟩:=hW;refine⟨hok,_,_,([]++pa)++pv,⟨[]++pa,pv,trodAll_append (hargs _ (λ_ _=>rfl)) (hres _ _ _),hvars _ (λ_ _=>rfl),rfl,?_,?_⟩,?_⟩;intro b off hp;have hin:MemPlace.cell b off∈before:=by rw[hps];simpa using hp
 rw[hb.frozen (hlt _ hin)];exact hz b off hin;intro ha;have :=hn ha;rw[hps]at this;simpa using this;intro p hp _;rw[hps];simpa using hp
end
theorem Lc {H:Type}{enc:TypeId×Value->H}{Cx:Ctx}{fid:FuncId}{f:Func}{s:ChangeSpec}{apart fresh handsOn again:Bool}{W:World}{base:Nat}{args:Array Value}{ds gs:List (DataW H)}{before:List MemPlace}{ts:List TypeId}{tb:TypeId}{r:Reach}(hl:laidOutB Cx.P=true)(hf:Bw Cx.P ts=true)(hsub:f.params.toList.all (λu=>ts.contains u)=true)(hread:(f.params.toList.all λt=>Cx.P.readableRec t&&decide (t<Cx.P.types.size))=true)(hvars:Af Cx.P s.vars=true)(hres:f.resultTypes=#[tb])(htb:Cx.P.underlying tb=some .bool)(hspec:(s.fn H (ds++gs)).results=[.lit (.bool true)]/\(s.fn H (ds++gs)).args=ds/\(s.fn H (ds++gs)).vars=gs)(hval:∀(j:Nat) t v,f.params[j]?=some t->args[j]?=some v->Value.okWide Cx.P W r base t v)(hW:DataW.Whole enc Cx.P f.params.toList s.vars apart W args.toList ds gs before)(hJ:Cx.J W/\pW (λb _=>b<W.heap.size) W)(hng:Cx.mV<=W.heap.size)(akr:∀xs:List AV,xs.length=f.params.size->ds.length=f.params.size->(∀(i:Nat)(u:TypeId)(d:DataW H)(x:AV),f.params[i]?=some u->ds[i]?=some d->xs[i]?=some x->ED Cx.P u d x)->aq Cx fid xs (λq=>q=.val (.bool true))):Calls Cx.P fid args W λe W'=>∃v,e=.returned v/\s.post enc Cx.P f apart fresh handsOn again W args v W':=by
 have hW':=hW;obtain⟨p,q,hA,hV,rfl,hfz,MN⟩:=hW;obtain⟨xs,h1,h2,h3,h4,h5⟩:=Zq hl hf (λu hu=>by have :=bA.1 hsub u hu;simpa using this) hA (r:=r) (base:=base) (λj t v hj hv=>hval j t v (by simpa using hj) (by simpa using hv));obtain⟨_,hc⟩:=akr xs (by simpa using h2) (by simpa using h3) (λi u d x hu hd hx=>h4 i u d x (by simpa using hu) hd hx);have dJ:=hc (λb _=>b<W.heap.size) W args.toList hJ hng (λb o h=>h) h1 h5;simp only[CR]at dJ;refine dJ.mono λe W' ⟨v,rr,he,hr,aks,hb⟩=>?_;subst hr;have hv:v=.bool true:=by cases aks;rfl
 subst hv;refine⟨_,he,Su (pa:=p) (pv:=q) hW' (λb sp hd=>?_) (λsp hs=>?_) (λsp hs=>?_) rfl hb (ok_one hres rfl (okWide_bool_mk htb _))⟩;rw[hspec.1,hres];exact trodAll_mk1 (shut_bool htb _);rw[hspec.2.1];exact La hl hb hread (λx hx=>hW'.lt x (jj _ hx)) (λx hx=>hs x (jj _ hx)) hA;rw[hspec.2.2];exact Lb hl hb hvars (λx hx=>hs x (sV _ hx)) hV
theorem Bx {α β:Type}(enc:α->β):∀(l:List β),(∀x,x∈l->∃a,x=enc a)->∃ls:List α,l=ls.map enc|[],_=>⟨[],rfl⟩|x::l,h=>by obtain⟨a,ha⟩:=h x (by simp);obtain⟨ls,hls⟩:=Bx enc l λy hy=>h y (by simp[hy]);exact⟨a::ls,by simp[ha,hls]⟩
section
variable {H:Type}{P:Program}{t:TypeId}{d:DataW H}{xs:List AV}
theorem gq.nB (hu:P.underlying t=some .bool)(h:gq P t d xs):∃b,xs=[.bool b]:=by
 cases h with
 |bool _ b _=>exact⟨b,rfl⟩
 |_=>simp_all
theorem gq.fo {k:IntKind}(hu:P.underlying t=some (.int k))(h:gq P t d xs):∃n,xs=[.int k n]/\(Lit.int k n).wf=true:=by
 cases h with
 |int _ k' n h1 h2=>
  rw[hu]at h1;obtain rfl:k=k':=by simpa using h1
  exact⟨n,rfl,h2⟩
 |_=>simp_all
theorem gq.jP (hu:P.underlying t=some .string)(h:gq P t d xs):∃s,xs=[.str s]:=by
 cases h with
 |str _ s _=>exact⟨s,rfl⟩
 |_=>simp_all
theorem gq.mQ {e:TypeId}{α:Type}{enc:α->List AV}(hu:P.underlying t=some (.slice e))(he:∀(d:DataW H)(x:List AV),gq P e d x->∃a,x=enc a)(h:gq P t d xs):∃ls:List α,xs=[.sl (ls.map enc)]:=by
 cases h with
 |nil _ _ _=>exact⟨[],rfl⟩
 |slice _ e' ds sp ys h1 h2 h3=>
  rw[hu]at h1;obtain rfl:e=e':=by simpa using h1
  obtain⟨ls,hls⟩:=Bx enc ys λx hx=>by
   obtain⟨i,hi⟩:=iK hx;have hlt:i<ds.length:=by rw[h2];exact(aJ.1 hi).1
   exact he _ x (h3 i _ x (av hlt) hi)
  exact⟨ls,by rw[hls]⟩
 |_=>simp_all
theorem gq.ac4 {e:TypeId}{n:Nat}(hu:P.underlying t=some (.array n e))(h:gq P t d xs):∃(ds:List (DataW H)) (pieces:List (List AV)),d=.agg ds/\xs=pieces.flatten/\ds.length=n/\pieces.length=n/\∀(i:Nat)(d:DataW H)(x:List AV),ds[i]?=some d->pieces[i]?=some x->gq P e d x:=by
 cases h with
 |arr _ e' n' ds pieces h1 h2 h3 h4=>rw[hu]at h1;have h5:=au h1;injection h5 with h5 h6;subst h5;subst h6;exact⟨ds,pieces,rfl,rfl,h2,h3,h4⟩
 |_=>simp_all
theorem gq.pn {fs:Array Field}(hu:P.underlying t=some (.struct fs))(h:gq P t d xs):∃(ds:List (DataW H)) (pieces:List (List AV)),d=.agg ds/\xs=pieces.flatten/\ds.length=fs.size/\pieces.length=fs.size/\∀(i:Nat)(f:Field)(d:DataW H)(x:List AV),fs.toList[i]?=some f->ds[i]?=some d->pieces[i]?=some x->gq P f.type d x:=by
 cases h with
 |struct _ fs' ds pieces h1 h2 h3 h4=>
  rw[hu]at h1;obtain rfl:fs=fs':=by simpa using h1
  exact⟨ds,pieces,rfl,rfl,by simpa using h2.symm,by simp at h2;omega,h4⟩
 |_=>simp_all
end
mutual def AV.wt:AV->Nat|.str s=>s.length+1|.sl xs=>AV.Kh xs+1|.bool _=>1|.int _ _=>1|_=>0 def AV.Zr:List AV->Nat|[]=>0|x::xs=>AV.wt x+AV.Zr xs def AV.Kh:List (List AV)->Nat|[]=>0|x::xs=>AV.Zr x+AV.Kh xs end
theorem Sv (a b:List AV):AV.Zr (a++b)=AV.Zr a+AV.Zr b:=by
 induction a with
 |nil=>simp[AV.Zr]
 |cons x a ih=>simp[AV.Zr,ih];omega
theorem afb (l:List (List AV)):AV.Zr l.flatten=AV.Kh l:=by
 induction l with
 |nil=>simp[AV.Zr,AV.Kh]
 |cons x l ih=>simp[AV.Kh,Sv,ih]
theorem ah1 (l:List (List AV)):AV.Kh l=(l.map AV.Zr).sum:=by
 induction l with
 |nil=>rfl
 |cons x l ih=>simp[AV.Kh,ih]
theorem ac5:∀(l:List (List AV))(ms:List Nat),ms.length=l.length->(∀(i:Nat)(x:List AV)(m:Nat),l[i]?=some x->ms[i]?=some m->AV.Zr x<=m)->AV.Kh l<=ms.sum
 |[],ms,_,_=>by simp[AV.Kh]
 |x::l,[],h,_=>by simp at h
 |x::l,m::ms,h,hi=>by have h0:=hi 0 x m rfl rfl;have ih:=ac5 l ms (by simpa using h) λi y k hy hk=>hi (i+1) y k (by simpa using hy) (by simpa using hk);simp only[AV.Kh,sX];omega
inductive AV.Small (M:Nat):AV->Prop|bool (b:Bool):AV.Small M (.bool b)|int (k:IntKind)(n:Int):AV.Small M (.int k n)|str (s:List UInt8):s.length<=M->AV.Small M (.str s)|sl (xs:List (List AV)):xs.length<=M->(∀ys,ys∈xs->∀y,y∈ys->AV.Small M y)->AV.Small M (.sl xs)
def Ld (P:Program)(ts:List TypeId):Bool:=ts.all λt=>match P.underlying t with|some (.slice e)=>decide (0<P.bytesOf e)|_=>true
theorem tW {H:Type}{P:Program}{e:TypeId}:∀{ds:List (DataW H)}{d:DataW H}{n:Nat},d∈ds->n∈d.weights P e->n∈DataW.weightsAll P e ds|x::ds,d,n,h,hn=>by simp only[DataW.weightsAll,aZ];rcases aK.1 h with rfl|h;exact .inl hn;exact .inr (tW h hn)
theorem sn {H:Type}{P:Program}:∀{ts:List TypeId}{ds:List (DataW H)}{i:Nat}{t:TypeId}{d:DataW H}{n:Nat},ts[i]?=some t->ds[i]?=some d->n∈d.weights P t->n∈DataW.weightsEach P ts ds
 |[],ds,i,t,d,n,h1,h2,h3=>by simp at h1
 |u::ts,[],i,t,d,n,h1,h2,h3=>by simp at h2
 |u::ts,x::ds,0,t,d,n,h1,h2,h3=>by simp at h1 h2;subst h1;subst h2;simp[DataW.weightsEach,h3]
 |u::ts,x::ds,i+1,t,d,n,h1,h2,h3=>by simp only[DataW.weightsEach,aZ];exact .inr (sn (by simpa using h1) (by simpa using h2) h3)
theorem gq.small {H:Type}{P:Program}{M:Nat}{ts:List TypeId}(hf:Bw P ts=true)(hb:Ld P ts=true){t:TypeId}{d:DataW H}{xs:List AV}(h:gq P t d xs):t∈ts->(∀n,n∈d.weights P t->n<=M)->∀x,x∈xs->AV.Small M x:=by
 induction h with
 |bool t b hu=>intro ht _ x hx;simp at hx;subst hx;exact .bool b
 |int t k n hu _=>intro ht _ x hx;simp at hx;subst hx;exact .int k n
 |str t s hu=>intro ht hw x hx;simp at hx;subst hx;exact .str s (hw _ (by simp[DataW.weights]))
 |nil t e hu=>intro ht _ x hx;simp at hx;subst hx;exact .sl [] (zL) (by simp)
 |slice t e ds sp ys hu hl _ ih=>
  intro ht hw x hx;simp at hx;subst hx;have hpos:0<P.bytesOf e:=by have :=bA.1 hb t ht;rw[hu]at this;simpa using this
  have he:e∈ts:=by have :=(Df hf ht).2;unfold KX at this;rw[hu]at this;simp only[br,Dh]at this;exact this.1
  simp only[DataW.weights,hu]at hw;refine .sl ys ?_ λzs hz y hy=>?_;have :=hw _ iN;have h2:(ds.length+sp.length)*1<=(ds.length+sp.length)*P.bytesOf e:=Nat.mul_le_mul_left _ hpos;omega;obtain⟨i,hi⟩:=iK hz;have hlt:i<ds.length:=by rw[hl];exact(aJ.1 hi).1
  refine ih i _ zs (av hlt) hi he (λn hn=>hw n ?_) y hy;exact cR _ (jj _ (tW (aO hlt) hn))
 |struct t fs ds pieces hu hl hp _ ih=>
  intro ht hw x hx;obtain⟨piece,hpm,hxp⟩:=wO.1 hx;obtain⟨i,hi⟩:=iK hpm;have hlt:i<ds.length:=by have :=(aJ.1 hi).1;omega
  have hlf:i<fs.toList.length:=oO
  have he:(fs.toList[i]).type∈ts:=by have :=(Df hf ht).2;unfold KX at this;rw[hu]at this;have :=bA.1 this _ (aO hlf);simpa using this
  simp only[DataW.weights,hu]at hw;exact ih i _ _ piece (av hlf) (av hlt) hi he (λn hn=>hw n (sn (t:=(fs.toList[i]).type) (by rw[aN,av hlf];rfl) (av hlt) hn)) x hxp
 |arr t e n ds pieces hu hl hp _ ih=>
  intro ht hw x hx;obtain⟨piece,hpm,hxp⟩:=wO.1 hx;obtain⟨i,hi⟩:=iK hpm;have hlt:i<ds.length:=by have :=(aJ.1 hi).1;omega
  have he:e∈ts:=by have :=(Df hf ht).2;unfold KX at this;rw[hu]at this;simpa using this
  simp only[DataW.weights,hu]at hw;exact ih i _ piece (av hlt) hi he (λn hn=>hw n (tW (aO hlt) hn)) x hxp
theorem AV.Small.jP {M:Nat}{s:List UInt8}(h:AV.Small M (.str s)):s.length<=M:=by cases h;assumption
theorem AV.Small.mq {M:Nat}{xs:List (List AV)}(h:AV.Small M (.sl xs)):xs.length<=M/\∀ys,ys∈xs->∀y,y∈ys->AV.Small M y:=by cases h;exact⟨by assumption,by assumption⟩
theorem Io {P:Program}{W:World}{n:String}{d:DataW Unit}:∀{l:List (String×DataW Unit)}{ps:List MemPlace},DataW.LaidVars P W l ps->(n,d)∈l->∃g t cs fuel p,P.globalNamed n=some g/\(P.globals[g]?).map (·.type)=some t/\W.var? P n=some cs/\DataW.trod (λ_=>()) P W 0 (λ_=>true) false fuel t cs.toList=some (d,p)|(m,e)::l,ps,⟨g,t,cs,fuel,p,q,h1,h2,h3,h4,h5,h6⟩,h=>by rcases aK.1 h with h|h;cases h;exact⟨g,t,cs,fuel,p,h1,h2,h3,h4⟩;exact Io h5 h
theorem ac6 {P:Program}{W:World}{l:List (String×DataW Unit)}{name:String}{k:IntKind}{zs:List Int}{g:Nat}{t e:TypeId}{n:Nat}(hg:P.globalNamed name=some g)(hty:(P.globals[g]?).map (·.type)=some t)(ht:P.underlying t=some (.array n e))(he:P.underlying e=some (.int k))(hce:P.cellsOf e=1)(hct:P.cellsOf t=n)(h:laidMet P l W)(hm:(name,Lib.tabData k zs)∈l):Lib.TabIs P W name k zs:=by obtain⟨ps,hl,_⟩:=h;obtain⟨g',t',cs,fuel,p,hg',ht',Sw,hd⟩:=Io hl hm;obtain rfl:=au (hg.symm.trans hg');obtain rfl:=au (hty.symm.trans ht');unfold Lib.TabIs;rw[Sw,<-Lib.cells_of_tab ht he hce hct hd]
theorem ac7 {P:Program}{W:World}{l:List (String×DataW Unit)}{name:String}{d:DataW Unit}{g:Nat}(hg:P.globalNamed name=some g)(h:laidMet P l W)(hm:(name,d)∈l):g<W.heap.size:=by
 obtain⟨ps,hl,_⟩:=h;obtain⟨g',t',cs,fuel,p,hg',ht',Sw,hd⟩:=Io hl hm;obtain rfl:=au (hg.symm.trans hg');unfold World.var? at Sw;rw[hg']at Sw;simp only[nW]at Sw;cases hh:W.heap[g]?with
 |none=>rw[hh]at Sw;cases Sw
 |some o=>exact(bq.1 hh).1
theorem FF {H:Type}{enc:TypeId×Value->H}{P:Program}{w:World}{base:Nat}{held:Bool}{spare:Nat->Bool}:∀{us:List TypeId}{vs:List Value}{ds:List (DataW H)}{ps:List MemPlace},DataW.TrodAll enc P w base spare held us vs ds ps->ds.length=us.length|[],[],[],_,_=>rfl|_::us,_::vs,_::ds,_,⟨_,_,_,h,_⟩=>by simp[FF h]
theorem Le {H:Type}{enc:TypeId×Value->H}{P:Program}{ts:List TypeId}{vars:List String}{apart:Bool}{w:World}{vs:List Value}{ds gs:List (DataW H)}{ps:List MemPlace}(h:DataW.Whole enc P ts vars apart w vs ds gs ps):ds.length=ts.length:=by obtain⟨_,_,hA,_⟩:=h;exact FF hA
theorem Ip {H:Type}{enc:TypeId×Value->H}{P:Program}{ts:List TypeId}{apart:Bool}{w:World}{vs:List Value}{ds gs:List (DataW H)}{ps:List MemPlace}(h:DataW.Whole enc P ts [] apart w vs ds gs ps):gs=[]:=by obtain⟨_,_,_,hV,_⟩:=h;exact(trodVars_none hV).1
theorem EE {H:Type}{P:Program}{ts us:List TypeId}{ds gs:List (DataW H)}(h:(DataW.weightsEach P (ts++us) (ds++gs)).all (·<=reachBytes)=true){i:Nat}{t:TypeId}{d:DataW H}(h1:ts[i]?=some t)(h2:ds[i]?=some d):∀n,n∈d.weights P t->n<=reachBytes:=λn hn=>by have l1:i<ts.length:=(aJ.1 h1).1;have l2:i<ds.length:=(aJ.1 h2).1;have :=bA.1 h n (sn (i:=i) (t:=t) (d:=d) (by rw[cG l1,h1]) (by rw[cG l2,h2]) hn);simpa using this
end Qv
namespace Qv
open Go Go.RowKit
theorem Iq {e:Bool}{f:Bool->FV}{K:FV->Prop}(h:Al λt:Bool=>t=e->K (f t)):∃v,(Al λt:Bool=>t=e->f t=v)/\K v:=⟨f e,⟨λt ht=>ht▸rfl⟩,h.out e rfl⟩
theorem sY {x:FV}{K:FV->Prop}(h:K x):∃v,x=v/\K v:=⟨x,rfl,h⟩
theorem Ag {x:FV}{K:FV->Prop}(h:force x K):∃v,force x (λu=>u=v)/\K v:=by rw[force_eq]at h;exact⟨x,by rw[force_eq],h⟩
theorem ac8 {op:BinOp}{k:IntKind}{a b:Int}{K:FV->Prop}(h:Om op k a b K):∃v,Om op k a b (λu=>u=v)/\K v:=by unfold Om at h⊢;cases op<;>first|exact Iq h|exact h.elim|(obtain⟨c,h1,h2⟩:=h;exact⟨_,⟨c,h1,rfl⟩,h2⟩)|(obtain⟨h0,c,h1,h2⟩:=h;exact⟨_,⟨h0,c,h1,rfl⟩,h2⟩)
theorem Wg {op:BinOp}{k:IntKind}{a b:Int}{K:FV->Prop}(h:Ci op k a b K):∃v,Ci op k a b (λu=>u=v)/\K v:=by unfold Ci at h⊢;cases op<;>first|exact h.elim|(obtain⟨h0,c,h1,h2⟩:=h;exact⟨_,⟨h0,c,h1,rfl⟩,h2⟩)
theorem ac9 {op:BinOp}{a b:List UInt8}{K:FV->Prop}(h:On op a b K):∃v,On op a b (λu=>u=v)/\K v:=by unfold On at h⊢;cases op<;>first|exact Iq h|exact h.elim|(obtain⟨h0,h1⟩:=h;exact⟨_,⟨h0,rfl⟩,h1⟩)
theorem Zs {C:Ctx}{aI:List (Nat×List FV)}{t:TypeId}{a:FV}{K:FV->Prop}(h:nu C aI t a K):∃v,nu C aI t a (λu=>u=v)/\K v:=by
 unfold nu at h⊢;repeat' split at h
 all_goals first|exact h.elim|exact sY h|skip
 all_goals obtain⟨A,ys,B,e1,e2,h⟩:=h;repeat' split at h
 all_goals first|exact h.elim|exact⟨_,⟨A,ys,B,e1,e2,by simp_all⟩,h⟩
theorem Ki {C:Ctx}{s:TypeId}{x:FV}{f:Nat}{K:FV->Prop}(h:nv C s x f K):∃v,nv C s x f (λu=>u=v)/\K v:=by
 unfold nv at h⊢;repeat' split at h
 all_goals first|exact h.elim|exact sY h
theorem Wh {C:Ctx}{s:TypeId}{x:FV}{f:Nat}{K:FV->Prop}(h:vZ C s x f K):∃v,vZ C s x f (λu=>u=v)/\K v:=by
 unfold vZ at h⊢;repeat' split at h
 all_goals first|exact h.elim|exact sY h
theorem Wi {C:Ctx}{t:TypeId}{x i:FV}{K:FV->Prop}(h:we C t x i K):∃v,we C t x i (λu=>u=v)/\K v:=by
 unfold we at h⊢;repeat' split at h
 all_goals first|exact h.elim|(obtain⟨h0,c,h1,h2⟩:=h;exact⟨_,⟨h0,c,h1,rfl⟩,h2⟩)|skip
 all_goals obtain⟨m,e1,e2,h⟩:=h;repeat' split at h
 all_goals first|exact h.elim|exact⟨_,⟨m,e1,e2,by simp_all⟩,h⟩
theorem Kj {C:Ctx}{aI:List (Nat×List FV)}{t:TypeId}{x i:FV}{K:FV->Prop}(h:js C aI t x i K):∃v,js C aI t x i (λu=>u=v)/\K v:=by
 unfold js at h⊢;repeat' split at h
 all_goals first|exact h.elim|(obtain⟨m,base,e1,e2,e3,h⟩:=h;exact⟨_,⟨m,base,e1,e2,e3,rfl⟩,h⟩)|(obtain⟨g0,ys,g1,g2,h⟩:=h;exact⟨_,⟨g0,ys,g1,g2,rfl⟩,h⟩)|skip
 all_goals obtain⟨m,e1,e2,h⟩:=h;repeat' split at h
 all_goals first|exact h.elim|(obtain⟨base,g1,h⟩:=h;exact⟨_,⟨m,e1,e2,base,g1,rfl⟩,h⟩)|(obtain⟨ys,g1,h⟩:=h;exact⟨_,⟨m,e1,e2,ys,g1,rfl⟩,h⟩)|skip
 all_goals obtain⟨sym,h⟩:=h;cases sym
 exact⟨_,⟨m,e1,e2,false,rfl⟩,h⟩;obtain⟨base,g1,h⟩:=h;exact⟨_,⟨m,e1,e2,true,base,g1,rfl⟩,h⟩
theorem Zt {C:Ctx}{t:TypeId}{op:BinOp}{x y:FV}{K:FV->Prop}(h:Ef C t op x y K):∃v,Ef C t op x y (λu=>u=v)/\K v:=by
 unfold Ef at h⊢;repeat' split at h
 all_goals first|exact h.elim|skip
 all_goals obtain⟨L,e1,e2,e3,e4,h⟩:=h;repeat' split at h
 all_goals first|exact h.elim|(obtain⟨v,g1,g2⟩:=Iq h;exact⟨v,⟨L,e1,e2,e3,e4,g1⟩,g2⟩)
theorem ada {C:Ctx}{t:TypeId}{op:BinOp}{x y:FV}{K:FV->Prop}(h:Hj C t op x y K):∃v,Hj C t op x y (λu=>u=v)/\K v:=by
 unfold Hj at h⊢;repeat' split at h
 all_goals first|exact h.elim|exact Wg h|exact ac8 h|exact ac9 h|exact sY h|exact Iq h|exact Zt h
theorem Zu {C:Ctx}{t:TypeId}{op:BinOp}{x:FV}{K:FV->Prop}(h:Be C t op x K):∃v,Be C t op x (λu=>u=v)/\K v:=by
 unfold Be at h⊢;repeat' split at h
 all_goals first|exact h.elim|exact sY h
theorem af5 {op:UnOp}{x:FV}{K:FV->Prop}(h:RJ op x K):∃v,RJ op x (λu=>u=v)/\K v:=by
 unfold RJ at h⊢;repeat' split at h
 all_goals first|exact h.elim|exact Iq h|(obtain⟨c,h1,h2⟩:=h;exact⟨_,⟨c,h1,rfl⟩,h2⟩)
theorem PL {C:Ctx}{aI:List (Nat×List FV)}{b:Builtin}{args:List FV}{types:List TypeId}{K:FV->Prop}(h:jI C aI b args types K):∃v,jI C aI b args types (λu=>u=v)/\K v:=by
 unfold jI at h⊢;repeat' split at h
 all_goals first|exact h.elim|exact sY h|(obtain⟨c,h1,h2⟩:=h;exact⟨_,⟨c,h1,rfl⟩,h2⟩)|(obtain⟨c,h1,h2⟩:=h;exact⟨_,⟨c,by simp_all<;>omega,rfl⟩,h2⟩)
def MU (C:Ctx)(f:FV)(args:List FV)(K:FV->Prop):Prop:=match f with
 |.p (.fn (.func g) first captured)=>match FV.fe args with|some xs=>∃x,aq C g (first++xs++captured) (λr=>r=.val x)/\K (.p x)|none=>False
 |.fn (.func g) first captured=>match FV.fe (first++args++captured)with|some xs=>∃x,aq C g xs (λr=>r=.val x)/\K (.p x)|none=>False
 |_=>False
theorem Zv {C:Ctx}{f:FV}{args:List FV}{K:FV->Prop}(h:MU C f args K):∃v,zT C f args (λu=>u=v)/\K v:=by unfold MU at h;split at h;simp only[zT];split at h;rename_i xs hx;simp only[hx];obtain⟨x,h1,h2⟩:=h;exact⟨_,⟨_,h1,λr hr=>by subst hr;rfl⟩,h2⟩;exact h.elim;simp only[zT];split at h;rename_i xs hx;simp only[hx];obtain⟨x,h1,h2⟩:=h;exact⟨_,⟨_,h1,λr hr=>by subst hr;rfl⟩,h2⟩;exact h.elim;exact h.elim
def af6 (C:Ctx)(S:aj)(op:Op)(K:FV->Prop):Prop:=match op with
 |.move x=>force (S.val x) K
 |.assign x=>force (S.val x) K
 |.pick c a b=>match S.val c with|.p (.bool true)=>force (S.val a) K|.p (.bool false)=>force (S.val b) K|_=>False
 |.binOp op t x y _=>match Mk y with|true=>Be C t op (S.val x) K|false=>match Ml y with|true=>∃v,Mm C t op (S.val x) (λu=>u=v)/\K v|false=>Hj C t op (S.val x) (S.val y) K
 |.unOp op _ x=>RJ op (S.val x) K
 |.load t a=>nu C S.aI t (S.val a) K
 |.fieldAddr s x f=>nv C s (S.val x) f K
 |.field s x f=>vZ C s (S.val x) f K
 |.indexAddr t x i=>js C S.aI t (S.val x) (S.val i) K
 |.index t x i=>we C t (S.val x) (S.val i) K
 |.call c=>match c.callee with|.builtin b=>jI C S.aI b (c.args.toList.map S.val) c.argTypes.toList K|.value f=>MU C (S.val f) (c.args.toList.map S.val) K|.invoke _ _=>False
 |.nilCheck x=>match S.val x with|.ptr b off=>K (.ptr b off)|.p (.imp xs)=>K (.p (.imp xs))|.gD o base off=>K (.gD o base off)|.p (.fn (.func f) a b)=>K (.p (.fn (.func f) a b))|.fn (.func f) a b=>K (.fn (.func f) a b)|_=>False
 |.extract x i=>match S.val x with
  |.eW xs=>match gh i xs with|y::_=>K y|[]=>False
  |.p (.eW xs)=>match gh i xs with|y::_=>K (.p y)|[]=>False
  |_=>False
 |op=>∃v,eH C S op (λu=>u=v)/\K v
theorem Uy {C:Ctx}{S:aj}{op:Op}{K:FV->Prop}(h:af6 C S op K):∃v,eH C S op (λu=>u=v)/\K v:=by
 unfold af6 at h;split at h;exact Ag h;exact Ag h;simp only[eH];split at h;rename_i hc;simp only[hc];exact Ag h;rename_i hc;simp only[hc];exact Ag h;exact h.elim;simp only[eH];split at h;rename_i hc;simp only[hc];exact Zu h;rename_i hc;simp only[hc];split at h;rename_i hc2;simp only[hc2];exact h;rename_i hc2;simp only[hc2];exact ada h;exact af5 h;exact Zs h;exact Ki h;exact Wh h;exact Kj h;exact Wi h;simp only[eH];split at h;rename_i hc;simp only[hc];exact PL h;rename_i hc;simp only[hc];exact Zv h;exact h.elim
 ·simp only[eH];split at h;all_goals first|exact h.elim|(rename_i hc;simp only[hc];exact sY h)
 simp only[eH];split at h;rename_i hc;simp only[hc];split at h;rename_i hd;simp only[hd];exact sY h;exact h.elim;rename_i hc;simp only[hc];split at h;rename_i hd;simp only[hd];exact sY h;exact h.elim;exact h.elim;exact h
def adb (C:Ctx)(o:Oper)(K:aj->Prop)(S:aj):Prop:=af6 C S o.op λv=>K (S.put o.dst v)
def PM (C:Ctx)(ops:Array Oper):List Oper->(aj->Prop)->aj->Prop
 |[],K,S=>K S
 |o::rest,K,S=>match o.guard with
  |none=>adb C o (PM C ops rest K) S
  |some (j,want)=>match(ops[j]?).bind (·.dst)with
   |none=>False
   |some d=>match S.get d with
    |.p (.bool b)=>match Hu b want with|true=>adb C o (PM C ops rest K) S|false=>PM C ops rest K (S.put o.dst (.p (.eW [])))
    |.p (.eW [])=>PM C ops rest K (S.put o.dst (.p (.eW [])))
    |_=>False
theorem EF {C:Ctx}{ops:Array Oper}{K:aj->Prop}:∀(l:List Oper)(S:aj),PM C ops l K S->Hv C ops l K S|[],S,h=>h|o::rest,S,h=>by unfold PM at h;unfold Hv;split at h;rename_i hg;simp only[hg];unfold adb at h;obtain⟨v,h1,h2⟩:=Uy h;exact⟨v,h1,EF rest _ h2⟩;rename_i j want hg;simp only[hg];split at h;exact h.elim;rename_i d hd;simp only[hd];split at h;rename_i b hb;simp only[hb];split at h;rename_i hs;simp only[hs];unfold adb at h;obtain⟨v,h1,h2⟩:=Uy h;exact⟨v,h1,EF rest _ h2⟩;rename_i hs;simp only[hs];exact EF rest _ h;rename_i hb;simp only[hb];exact EF rest _ h;exact h.elim
theorem bW {C:Ctx}{call:iQ}{Y:pH}{ops:Array Oper}{K:aj->Prop}{S:aj}(m:Nat)(hd:Ej ops m=true)(h:PM C ops (ops.toList.take m) (pI C call Y ops (ops.toList.drop m) K) S):ny C call Y ops true K S:=by unfold ny;exact⟨.lex m,hd,EF _ _ h⟩
end Qv
open Go Go.Proofs Go.RowKit
namespace Qv
def Zw (w:World):Prop:=Lib.TabIs Tryz.prog w "internal/strconv.uint64pow10" .u64 Lib.pow10Tab
theorem Ir:Tryz.prog.globalNamed "internal/strconv.uint64pow10" =some 1:=kK
theorem PN (w w':World)(h:∀k,k<4->w'.heap[k]?=w.heap[k]?)(hJ:Zw w):Zw w':=by unfold Zw Lib.TabIs at*;rw[<-hJ];simp only[World.var?,Ir,nW,h 1 dD]
abbrev v8:Value:=.int .u8 0
def iZ:List (TypeId×jF):=[(3,⟨1,8,.int .i64,[.int .i64 0]⟩),(4,⟨1,1,.bool,[.bool false]⟩),(54,⟨33,40,.struct [(0,33),(32,3)],[v8,v8,v8,v8,v8,v8,v8,v8,v8,v8,v8,v8,v8,v8,v8,v8,v8,v8,v8,v8,v8,v8,v8,v8,v8,v8,v8,v8,v8,v8,v8,v8,.int .i64 0]⟩),(9,⟨1,16,.str,[.string ⟨#[]⟩]⟩),(28,⟨1,24,.slice 109,[.slice none 0 0]⟩),(23,⟨1,24,.slice 39,[.slice none 0 0]⟩),(62,⟨1,24,.slice 54,[.slice none 0 0]⟩),(33,⟨32,32,.array 32 5,[v8,v8,v8,v8,v8,v8,v8,v8,v8,v8,v8,v8,v8,v8,v8,v8,v8,v8,v8,v8,v8,v8,v8,v8,v8,v8,v8,v8,v8,v8,v8,v8]⟩),(209,⟨1,4,.int .u32,[.int .u32 0]⟩),(109,⟨172,296,.struct [(0,54),(33,3),(34,54),(67,3),(68,54),(101,9),(102,3),(103,9),(104,9),(105,54),(138,54),(171,62)],[v8,v8,v8,v8,v8,v8,v8,v8,v8,v8,v8,v8,v8,v8,v8,v8,v8,v8,v8,v8,v8,v8,v8,v8,v8,v8,v8,v8,v8,v8,v8,v8,.int .i64 0,.int .i64 0,v8,v8,v8,v8,v8,v8,v8,v8,v8,v8,v8,v8,v8,v8,v8,v8,v8,v8,v8,v8,v8,v8,v8,v8,v8,v8,v8,v8,v8,v8,v8,v8,.int .i64 0,.int .i64 0,v8,v8,v8,v8,v8,v8,v8,v8,v8,v8,v8,v8,v8,v8,v8,v8,v8,v8,v8,v8,v8,v8,v8,v8,v8,v8,v8,v8,v8,v8,v8,v8,.int .i64 0,.string ⟨#[]⟩,.int .i64 0,.string ⟨#[]⟩,.string ⟨#[]⟩,v8,v8,v8,v8,v8,v8,v8,v8,v8,v8,v8,v8,v8,v8,v8,v8,v8,v8,v8,v8,v8,v8,v8,v8,v8,v8,v8,v8,v8,v8,v8,v8,.int .i64 0,v8,v8,v8,v8,v8,v8,v8,v8,v8,v8,v8,v8,v8,v8,v8,v8,v8,v8,v8,v8,v8,v8,v8,v8,v8,v8,v8,v8,v8,v8,v8,v8,.int .i64 0,.slice none 0 0]⟩),(34,⟨1,24,.slice 33,[.slice none 0 0]⟩),(42,⟨1,8,.int .i64,[.int .i64 0]⟩),(83,⟨139,264,.struct [(0,3),(1,54),(34,3),(35,54),(68,9),(69,3),(70,9),(71,54),(104,54),(137,81),(138,62)],[.int .i64 0,v8,v8,v8,v8,v8,v8,v8,v8,v8,v8,v8,v8,v8,v8,v8,v8,v8,v8,v8,v8,v8,v8,v8,v8,v8,v8,v8,v8,v8,v8,v8,v8,.int .i64 0,.int .i64 0,v8,v8,v8,v8,v8,v8,v8,v8,v8,v8,v8,v8,v8,v8,v8,v8,v8,v8,v8,v8,v8,v8,v8,v8,v8,v8,v8,v8,v8,v8,v8,v8,.int .i64 0,.string ⟨#[]⟩,.int .i64 0,.string ⟨#[]⟩,v8,v8,v8,v8,v8,v8,v8,v8,v8,v8,v8,v8,v8,v8,v8,v8,v8,v8,v8,v8,v8,v8,v8,v8,v8,v8,v8,v8,v8,v8,v8,v8,.int .i64 0,v8,v8,v8,v8,v8,v8,v8,v8,v8,v8,v8,v8,v8,v8,v8,v8,v8,v8,v8,v8,v8,v8,v8,v8,v8,v8,v8,v8,v8,v8,v8,v8,.int .i64 0,.slice none 0 0,.slice none 0 0]⟩),(37,⟨5,88,.struct [(0,9),(1,9),(2,3),(3,34),(4,35)],[.string ⟨#[]⟩,.string ⟨#[]⟩,.int .i64 0,.slice none 0 0,.slice none 0 0]⟩),(259,⟨1,24,.slice 261,[.slice none 0 0]⟩),(261,⟨3,48,.struct [(0,4),(1,9),(2,259)],[.bool false,.string ⟨#[]⟩,.slice none 0 0]⟩),(5,⟨1,1,.int .u8,[.int .u8 0]⟩),(81,⟨1,24,.slice 9,[.slice none 0 0]⟩),(35,⟨1,24,.slice 83,[.slice none 0 0]⟩),(210,⟨8,32,.array 8 209,[.int .u32 0,.int .u32 0,.int .u32 0,.int .u32 0,.int .u32 0,.int .u32 0,.int .u32 0,.int .u32 0]⟩),(24,⟨1,24,.slice 5,[.slice none 0 0]⟩),(117,⟨1,8,.func,[.nilFunc]⟩),(39,⟨37,120,.struct [(0,33),(32,37)],[v8,v8,v8,v8,v8,v8,v8,v8,v8,v8,v8,v8,v8,v8,v8,v8,v8,v8,v8,v8,v8,v8,v8,v8,v8,v8,v8,v8,v8,v8,v8,v8,.string ⟨#[]⟩,.string ⟨#[]⟩,.int .i64 0,.slice none 0 0,.slice none 0 0]⟩),(269,⟨64,256,.array 64 209,List.replicate 64 (.int .u32 0)⟩),(194,⟨1,8,.int .u64,[.int .u64 0]⟩),(41,⟨1,24,.slice 3,[.slice none 0 0]⟩),(148,⟨1,8,.map 54 4,[.map none]⟩),(198,⟨1,8,.map 33 34,[.map none]⟩),(200,⟨1,8,.map 33 4,[.map none]⟩),(163,⟨1,24,.slice 166,[.slice none 0 0]⟩),(166,⟨34,48,.struct [(0,54),(33,117)],[v8,v8,v8,v8,v8,v8,v8,v8,v8,v8,v8,v8,v8,v8,v8,v8,v8,v8,v8,v8,v8,v8,v8,v8,v8,v8,v8,v8,v8,v8,v8,v8,.int .i64 0,.nilFunc]⟩),(337,⟨1,8,.ptr 339,[.pointer none]⟩),(153,⟨1,8,.map 54 62,[.map none]⟩),(316,⟨1,8,.map 3 318,[.map none]⟩),(257,⟨1,8,.int .u64,[.int .u64 0]⟩),(347,⟨1,8,.ptr 349,[.pointer none]⟩),(296,⟨1,8,.func,[.nilFunc]⟩),(188,⟨1,8,.map 54 28,[.map none]⟩),(335,⟨1,8,.func,[.nilFunc]⟩),(236,⟨1,8,.func,[.nilFunc]⟩),(349,⟨2,16,.struct [(0,3),(1,4)],[.int .i64 0,.bool false]⟩),(121,⟨1,8,.func,[.nilFunc]⟩),(275,⟨1,8,.func,[.nilFunc]⟩),(290,⟨1,8,.map 3 3,[.map none]⟩),(158,⟨1,8,.func,[.nilFunc]⟩),(152,⟨1,8,.func,[.nilFunc]⟩),(132,⟨1,8,.func,[.nilFunc]⟩),(93,⟨1,8,.func,[.nilFunc]⟩),(227,⟨1,8,.func,[.nilFunc]⟩),(145,⟨1,8,.func,[.nilFunc]⟩),(61,⟨1,8,.func,[.nilFunc]⟩),(234,⟨1,8,.func,[.nilFunc]⟩),(243,⟨1,8,.func,[.nilFunc]⟩),(280,⟨1,8,.func,[.nilFunc]⟩),(283,⟨1,8,.func,[.nilFunc]⟩),(339,⟨2,32,.struct [(0,337),(1,24)],[.pointer none,.slice none 0 0]⟩),(352,⟨1,16,.iface,[.nilIface]⟩),(70,⟨1,8,.func,[.nilFunc]⟩),(226,⟨1,8,.func,[.nilFunc]⟩),(282,⟨1,8,.func,[.nilFunc]⟩),(86,⟨1,8,.func,[.nilFunc]⟩),(219,⟨1,8,.func,[.nilFunc]⟩),(38,⟨37,120,.struct [(0,33),(32,37)],[v8,v8,v8,v8,v8,v8,v8,v8,v8,v8,v8,v8,v8,v8,v8,v8,v8,v8,v8,v8,v8,v8,v8,v8,v8,v8,v8,v8,v8,v8,v8,v8,.string ⟨#[]⟩,.string ⟨#[]⟩,.int .i64 0,.slice none 0 0,.slice none 0 0]⟩),(104,⟨1,8,.func,[.nilFunc]⟩),(100,⟨1,8,.func,[.nilFunc]⟩),(245,⟨1,8,.func,[.nilFunc]⟩),(185,⟨1,8,.func,[.nilFunc]⟩),(279,⟨1,8,.func,[.nilFunc]⟩),(237,⟨1,8,.func,[.nilFunc]⟩),(322,⟨1,8,.func,[.nilFunc]⟩),(281,⟨1,8,.func,[.nilFunc]⟩),(318,⟨1,8,.func,[.nilFunc]⟩),(310,⟨1,8,.func,[.nilFunc]⟩),(313,⟨1,8,.func,[.nilFunc]⟩),(321,⟨1,8,.func,[.nilFunc]⟩),(183,⟨1,8,.func,[.nilFunc]⟩),(235,⟨1,8,.func,[.nilFunc]⟩),(233,⟨1,8,.func,[.nilFunc]⟩),(80,⟨1,8,.func,[.nilFunc]⟩),(22,⟨1,24,.slice 39,[.slice none 0 0]⟩),(32,⟨32,32,.array 32 5,[v8,v8,v8,v8,v8,v8,v8,v8,v8,v8,v8,v8,v8,v8,v8,v8,v8,v8,v8,v8,v8,v8,v8,v8,v8,v8,v8,v8,v8,v8,v8,v8]⟩),(53,⟨33,40,.struct [(0,33),(32,3)],[v8,v8,v8,v8,v8,v8,v8,v8,v8,v8,v8,v8,v8,v8,v8,v8,v8,v8,v8,v8,v8,v8,v8,v8,v8,v8,v8,v8,v8,v8,v8,v8,.int .i64 0]⟩),(36,⟨5,88,.struct [(0,9),(1,9),(2,3),(3,34),(4,35)],[.string ⟨#[]⟩,.string ⟨#[]⟩,.int .i64 0,.slice none 0 0,.slice none 0 0]⟩),(108,⟨172,296,.struct [(0,54),(33,3),(34,54),(67,3),(68,54),(101,9),(102,3),(103,9),(104,9),(105,54),(138,54),(171,62)],[v8,v8,v8,v8,v8,v8,v8,v8,v8,v8,v8,v8,v8,v8,v8,v8,v8,v8,v8,v8,v8,v8,v8,v8,v8,v8,v8,v8,v8,v8,v8,v8,.int .i64 0,.int .i64 0,v8,v8,v8,v8,v8,v8,v8,v8,v8,v8,v8,v8,v8,v8,v8,v8,v8,v8,v8,v8,v8,v8,v8,v8,v8,v8,v8,v8,v8,v8,v8,v8,.int .i64 0,.int .i64 0,v8,v8,v8,v8,v8,v8,v8,v8,v8,v8,v8,v8,v8,v8,v8,v8,v8,v8,v8,v8,v8,v8,v8,v8,v8,v8,v8,v8,v8,v8,v8,v8,.int .i64 0,.string ⟨#[]⟩,.int .i64 0,.string ⟨#[]⟩,.string ⟨#[]⟩,v8,v8,v8,v8,v8,v8,v8,v8,v8,v8,v8,v8,v8,v8,v8,v8,v8,v8,v8,v8,v8,v8,v8,v8,v8,v8,v8,v8,v8,v8,v8,v8,.int .i64 0,v8,v8,v8,v8,v8,v8,v8,v8,v8,v8,v8,v8,v8,v8,v8,v8,v8,v8,v8,v8,v8,v8,v8,v8,v8,v8,v8,v8,v8,v8,v8,v8,.int .i64 0,.slice none 0 0]⟩),(82,⟨139,264,.struct [(0,3),(1,54),(34,3),(35,54),(68,9),(69,3),(70,9),(71,54),(104,54),(137,81),(138,62)],[.int .i64 0,v8,v8,v8,v8,v8,v8,v8,v8,v8,v8,v8,v8,v8,v8,v8,v8,v8,v8,v8,v8,v8,v8,v8,v8,v8,v8,v8,v8,v8,v8,v8,v8,.int .i64 0,.int .i64 0,v8,v8,v8,v8,v8,v8,v8,v8,v8,v8,v8,v8,v8,v8,v8,v8,v8,v8,v8,v8,v8,v8,v8,v8,v8,v8,v8,v8,v8,v8,v8,v8,.int .i64 0,.string ⟨#[]⟩,.int .i64 0,.string ⟨#[]⟩,v8,v8,v8,v8,v8,v8,v8,v8,v8,v8,v8,v8,v8,v8,v8,v8,v8,v8,v8,v8,v8,v8,v8,v8,v8,v8,v8,v8,v8,v8,v8,v8,.int .i64 0,v8,v8,v8,v8,v8,v8,v8,v8,v8,v8,v8,v8,v8,v8,v8,v8,v8,v8,v8,v8,v8,v8,v8,v8,v8,v8,v8,v8,v8,v8,v8,v8,.int .i64 0,.slice none 0 0,.slice none 0 0]⟩),(27,⟨1,24,.slice 99,[.slice none 0 0]⟩),(29,⟨2,48,.struct [(0,27),(1,28)],[.slice none 0 0,.slice none 0 0]⟩),(30,⟨2,48,.struct [(0,27),(1,28)],[.slice none 0 0,.slice none 0 0]⟩),(40,⟨1,24,.slice 30,[.slice none 0 0]⟩),(55,⟨1,24,.slice 123,[.slice none 0 0]⟩),(56,⟨1,24,.slice 125,[.slice none 0 0]⟩),(57,⟨2,48,.struct [(0,55),(1,56)],[.slice none 0 0,.slice none 0 0]⟩),(58,⟨2,48,.struct [(0,55),(1,56)],[.slice none 0 0,.slice none 0 0]⟩),(88,⟨1,8,.map 54 109,[.map none]⟩),(89,⟨2,16,.struct [(0,87),(1,88)],[.map none,.map none]⟩),(90,⟨2,16,.struct [(0,87),(1,88)],[.map none,.map none]⟩),(98,⟨33,56,.struct [(0,33),(32,34)],[v8,v8,v8,v8,v8,v8,v8,v8,v8,v8,v8,v8,v8,v8,v8,v8,v8,v8,v8,v8,v8,v8,v8,v8,v8,v8,v8,v8,v8,v8,v8,v8,.slice none 0 0]⟩),(99,⟨33,56,.struct [(0,33),(32,34)],[v8,v8,v8,v8,v8,v8,v8,v8,v8,v8,v8,v8,v8,v8,v8,v8,v8,v8,v8,v8,v8,v8,v8,v8,v8,v8,v8,v8,v8,v8,v8,v8,.slice none 0 0]⟩),(118,⟨1,8,.ptr 190,[.pointer none]⟩),(120,⟨1,8,.map 54 3,[.map none]⟩),(122,⟨35,64,.struct [(0,54),(33,9),(34,4)],[v8,v8,v8,v8,v8,v8,v8,v8,v8,v8,v8,v8,v8,v8,v8,v8,v8,v8,v8,v8,v8,v8,v8,v8,v8,v8,v8,v8,v8,v8,v8,v8,.int .i64 0,.string ⟨#[]⟩,.bool false]⟩),(123,⟨35,64,.struct [(0,54),(33,9),(34,4)],[v8,v8,v8,v8,v8,v8,v8,v8,v8,v8,v8,v8,v8,v8,v8,v8,v8,v8,v8,v8,v8,v8,v8,v8,v8,v8,v8,v8,v8,v8,v8,v8,.int .i64 0,.string ⟨#[]⟩,.bool false]⟩),(124,⟨2,16,.struct [(0,3),(1,3)],[.int .i64 0,.int .i64 0]⟩),(125,⟨2,16,.struct [(0,3),(1,3)],[.int .i64 0,.int .i64 0]⟩),(134,⟨1,8,.ptr 203,[.pointer none]⟩),(144,⟨1,8,.map 33 3,[.map none]⟩),(169,⟨1,24,.slice 173,[.slice none 0 0]⟩),(171,⟨1,8,.func,[.nilFunc]⟩),(172,⟨34,48,.struct [(0,54),(33,171)],[v8,v8,v8,v8,v8,v8,v8,v8,v8,v8,v8,v8,v8,v8,v8,v8,v8,v8,v8,v8,v8,v8,v8,v8,v8,v8,v8,v8,v8,v8,v8,v8,.int .i64 0,.nilFunc]⟩),(173,⟨34,48,.struct [(0,54),(33,171)],[v8,v8,v8,v8,v8,v8,v8,v8,v8,v8,v8,v8,v8,v8,v8,v8,v8,v8,v8,v8,v8,v8,v8,v8,v8,v8,v8,v8,v8,v8,v8,v8,.int .i64 0,.nilFunc]⟩),(189,⟨2,16,.struct [(0,188),(1,148)],[.map none,.map none]⟩),(190,⟨2,16,.struct [(0,188),(1,148)],[.map none,.map none]⟩),(201,⟨1,8,.map 33 28,[.map none]⟩),(202,⟨2,32,.struct [(0,23),(1,201)],[.slice none 0 0,.map none]⟩),(203,⟨2,32,.struct [(0,23),(1,201)],[.slice none 0 0,.map none]⟩),(204,⟨1,24,.slice 207,[.slice none 0 0]⟩),(207,⟨34,48,.struct [(0,54),(33,117)],[v8,v8,v8,v8,v8,v8,v8,v8,v8,v8,v8,v8,v8,v8,v8,v8,v8,v8,v8,v8,v8,v8,v8,v8,v8,v8,v8,v8,v8,v8,v8,v8,.int .i64 0,.nilFunc]⟩)]
theorem Zx:∀t i,(t,i)∈iZ->fN Tryz.prog t i:=by intro t i h;simp only[iZ,aK,Prod.mk.injEq,gy,or_false]at h;rcases h with⟨rfl,rfl⟩|⟨rfl,rfl⟩|⟨rfl,rfl⟩|⟨rfl,rfl⟩|⟨rfl,rfl⟩|⟨rfl,rfl⟩|⟨rfl,rfl⟩|⟨rfl,rfl⟩|⟨rfl,rfl⟩|⟨rfl,rfl⟩|⟨rfl,rfl⟩|⟨rfl,rfl⟩|⟨rfl,rfl⟩|⟨rfl,rfl⟩|⟨rfl,rfl⟩|⟨rfl,rfl⟩|⟨rfl,rfl⟩|⟨rfl,rfl⟩|⟨rfl,rfl⟩|⟨rfl,rfl⟩|⟨rfl,rfl⟩|⟨rfl,rfl⟩|⟨rfl,rfl⟩|⟨rfl,rfl⟩|⟨rfl,rfl⟩|⟨rfl,rfl⟩|⟨rfl,rfl⟩|⟨rfl,rfl⟩|⟨rfl,rfl⟩|⟨rfl,rfl⟩|⟨rfl,rfl⟩|⟨rfl,rfl⟩|⟨rfl,rfl⟩|⟨rfl,rfl⟩|⟨rfl,rfl⟩|⟨rfl,rfl⟩|⟨rfl,rfl⟩|⟨rfl,rfl⟩|⟨rfl,rfl⟩|⟨rfl,rfl⟩|⟨rfl,rfl⟩|⟨rfl,rfl⟩|⟨rfl,rfl⟩|⟨rfl,rfl⟩|⟨rfl,rfl⟩|⟨rfl,rfl⟩|⟨rfl,rfl⟩|⟨rfl,rfl⟩|⟨rfl,rfl⟩|⟨rfl,rfl⟩|⟨rfl,rfl⟩|⟨rfl,rfl⟩|⟨rfl,rfl⟩|⟨rfl,rfl⟩|⟨rfl,rfl⟩|⟨rfl,rfl⟩|⟨rfl,rfl⟩|⟨rfl,rfl⟩|⟨rfl,rfl⟩|⟨rfl,rfl⟩|⟨rfl,rfl⟩|⟨rfl,rfl⟩|⟨rfl,rfl⟩|⟨rfl,rfl⟩|⟨rfl,rfl⟩|⟨rfl,rfl⟩|⟨rfl,rfl⟩|⟨rfl,rfl⟩|⟨rfl,rfl⟩|⟨rfl,rfl⟩|⟨rfl,rfl⟩|⟨rfl,rfl⟩|⟨rfl,rfl⟩|⟨rfl,rfl⟩|⟨rfl,rfl⟩|⟨rfl,rfl⟩|⟨rfl,rfl⟩|⟨rfl,rfl⟩|⟨rfl,rfl⟩|⟨rfl,rfl⟩|⟨rfl,rfl⟩|⟨rfl,rfl⟩|⟨rfl,rfl⟩|⟨rfl,rfl⟩|⟨rfl,rfl⟩|⟨rfl,rfl⟩|⟨rfl,rfl⟩|⟨rfl,rfl⟩|⟨rfl,rfl⟩|⟨rfl,rfl⟩|⟨rfl,rfl⟩|⟨rfl,rfl⟩|⟨rfl,rfl⟩|⟨rfl,rfl⟩|⟨rfl,rfl⟩|⟨rfl,rfl⟩|⟨rfl,rfl⟩|⟨rfl,rfl⟩|⟨rfl,rfl⟩|⟨rfl,rfl⟩|⟨rfl,rfl⟩|⟨rfl,rfl⟩|⟨rfl,rfl⟩|⟨rfl,rfl⟩|⟨rfl,rfl⟩|⟨rfl,rfl⟩|⟨rfl,rfl⟩|⟨rfl,rfl⟩|⟨rfl,rfl⟩|⟨rfl,rfl⟩|⟨rfl,rfl⟩|⟨rfl,rfl⟩|⟨rfl,rfl⟩|⟨rfl,rfl⟩|⟨rfl,rfl⟩|⟨rfl,rfl⟩|⟨rfl,rfl⟩;all_goals exact⟨kK,kK,kK⟩
noncomputable def C:Ctx:=⟨Tryz.prog,iZ,Zx,Zw,4,rfl,339,5,PN,[],{opens:=[],JL:=[],full:=false}⟩
end Qv
open Go Go.RowKit
namespace Qv
abbrev Dg:={l:Bytes//l.length=32}
def aV:Dg:=⟨List.replicate 32 0,rfl⟩
instance:Inhabited Dg:=⟨aV⟩
structure bV where
 p:Dg
 n:Int deriving DecidableEq,Inhabited
structure cq where
 id:bV
 kind:Int
 file:bV
 type:Int
 parent:bV
 name:Bytes
 mode:Int
 data:Bytes
 text:Bytes
 fr:bV
 to:bV
 over:List bV deriving DecidableEq,Inhabited
structure dn where
 kind:Int
 file:bV
 type:Int
 parent:bV
 name:Bytes
 mode:Int
 data:Bytes
 cS:bV
 cZ:bV
 lines:List Bytes
 over:List bV deriving DecidableEq,Inhabited
structure gr where
 fq:Bytes
 message:Bytes
 time:Int
 deps:List Dg
 changes:List dn deriving DecidableEq,Inhabited
structure cL where
 id:Dg
 pat:gr deriving DecidableEq,Inhabited
def cD (d:Dg):List AV:=[.int .u8 (d.1.getD 0 0).toNat,.int .u8 (d.1.getD 1 0).toNat,.int .u8 (d.1.getD 2 0).toNat,.int .u8 (d.1.getD 3 0).toNat,.int .u8 (d.1.getD 4 0).toNat,.int .u8 (d.1.getD 5 0).toNat,.int .u8 (d.1.getD 6 0).toNat,.int .u8 (d.1.getD 7 0).toNat,.int .u8 (d.1.getD 8 0).toNat,.int .u8 (d.1.getD 9 0).toNat,.int .u8 (d.1.getD 10 0).toNat,.int .u8 (d.1.getD 11 0).toNat,.int .u8 (d.1.getD 12 0).toNat,.int .u8 (d.1.getD 13 0).toNat,.int .u8 (d.1.getD 14 0).toNat,.int .u8 (d.1.getD 15 0).toNat,.int .u8 (d.1.getD 16 0).toNat,.int .u8 (d.1.getD 17 0).toNat,.int .u8 (d.1.getD 18 0).toNat,.int .u8 (d.1.getD 19 0).toNat,.int .u8 (d.1.getD 20 0).toNat,.int .u8 (d.1.getD 21 0).toNat,.int .u8 (d.1.getD 22 0).toNat,.int .u8 (d.1.getD 23 0).toNat,.int .u8 (d.1.getD 24 0).toNat,.int .u8 (d.1.getD 25 0).toNat,.int .u8 (d.1.getD 26 0).toNat,.int .u8 (d.1.getD 27 0).toNat,.int .u8 (d.1.getD 28 0).toNat,.int .u8 (d.1.getD 29 0).toNat,.int .u8 (d.1.getD 30 0).toNat,.int .u8 (d.1.getD 31 0).toNat]
def cI (x:bV):List AV:=cD x.p++[.int .i64 x.n]
def oF (l:List bV):List (List AV):=l.map cI
def jW (l:List Dg):List (List AV):=l.map cD
def cA (a:cq):List AV:=cI a.id++([.int .i64 a.kind]++(cI a.file++([.int .i64 a.type]++(cI a.parent++([.str a.name,.int .i64 a.mode,.str a.data,.str a.text]++(cI a.fr++(cI a.to++[.sl (oF a.over)])))))))
def iu (l:List cq):List (List AV):=l.map cA
def cC (c:dn):List AV:=[.int .i64 c.kind]++(cI c.file++([.int .i64 c.type]++(cI c.parent++([.str c.name,.int .i64 c.mode,.str c.data]++(cI c.cS++(cI c.cZ++[PI c.lines,.sl (oF c.over)]))))))
def Ah (l:List dn):List (List AV):=l.map cC
def cP (p:gr):List AV:=[.str p.fq,.str p.message,.int .i64 p.time,.sl (jW p.deps),.sl (Ah p.changes)]
def fU (s:cL):List AV:=cD s.id++cP s.pat
def eS (s:List cL):List (List AV):=s.map fU
theorem af7 (a:cq):(cA a).length=172:=rfl
theorem mD (s:cL):(fU s).length=37:=rfl
theorem Is (d:Dg):cD d=(List.range 32).map λi=>.int .u8 (d.1.getD i 0).toNat:=rfl
theorem It (d:Dg):cD d=d.1.map λb=>.int .u8 b.toNat:=by rw[Is];refine fZ λi=>?_;rw[aN,aN];have hd:=d.2;by_cases h:i<32;rw[sZ h,av oO];simp[List.getD,av (show i<d.1.length by omega)];rw[oa (by simp;omega),oa oO];rfl
theorem FG:∀{a b c d:List AV},a.length=b.length->sameAs (a++c) (b++d)=(sameAs a b&&sameAs c d)
 |[],[],c,d,_=>by simp[sameAs]
 |x::a,y::b,c,d,h=>by have ih:=FG (a:=a) (b:=b) (c:=c) (d:=d) (by simpa using h);simp only[dm,sameAs,ih,Bool.and_assoc]
 |[],_::_,_,_,h=>by simp at h
 |_::_,[],_,_,h=>by simp at h
theorem Dj:∀a b:Bytes,sameAs (a.map λb=>.int .u8 b.toNat) (b.map λb=>.int .u8 b.toNat)=decide (a=b)
 |[],[]=>rfl
 |[],y::b=>by simp[sameAs]
 |x::a,[]=>by simp[sameAs]
 |x::a,y::b=>by simp only[bR,sameAs,sg,AE,Ye,ji,iI,Dj a b];rw[om];simp only[br,beq_iff_eq,decide_eq_true_eq,nS];constructor;rintro⟨h1,h2⟩;exact⟨ahZ h1,h2⟩;rintro⟨rfl,rfl⟩;exact⟨rfl,rfl⟩
theorem PO (a b:Dg):sameAs (cD a) (cD b)=decide (a=b):=by rw[It,It,Dj];exact decide_eq_decide.2 ⟨λh=>Subtype.ext h,λh=>bg _ h⟩
theorem Zy (a b:bV):sameAs (cI a) (cI b)=decide (a=b):=by obtain⟨p,n⟩:=a;obtain⟨q,m⟩:=b;show sameAs (cD p++[.int .i64 n]) (cD q++[.int .i64 m])=_;rw[FG (show(cD p).length=(cD q).length from rfl),PO];simp only[sameAs,sg,AE,Ye,ji,iI,Bool.and_true];rw[om];simp[bV.mk.injEq]
theorem afc (d:Dg){k:Nat}(h:k<32):aG (cD d)=(aG (cD d)).take k++([.p (.int .u8 (d.1.getD k 0).toNat)]++(aG (cD d)).drop (k+1))/\((aG (cD d)).take k).length=k:=by
 have hl:(aG (cD d)).length=32:=rfl;refine⟨?_,by rw[aL,hl];omega⟩;have h1:(aG (cD d))[k]?=some (.p (.int .u8 (d.1.getD k 0).toNat)):=by rw[vw,Is,aN,sZ h];rfl
 have h2:(aG (cD d)).drop k=.p (.int .u8 (d.1.getD k 0).toNat)::(aG (cD d)).drop (k+1):=by
  have hlt:k<(aG (cD d)).length:=by rw[hl];exact h
  rw[bZ hlt];congr 1;rw[av hlt]at h1;exact au h1
 rw[qb,<-h2,dI]
def cmpL:Bytes->Bytes->Int|[],[]=>0|[],_::_=>-1|_::_,[]=>1|x::xs,y::ys=>if x.toNat<y.toNat then-1 else if y.toNat<x.toNat then 1 else cmpL xs ys
def ee (a b:Dg):Int:=cmpL a.1 b.1
def gV (a b:bV):Int:=if ee a.p b.p≠0 then ee a.p b.p else if a.n<b.n then-1 else if b.n<a.n then 1 else 0
theorem Lf {l:Bytes}{k:Nat}(h:k<l.length):l.drop k=l.getD k 0::l.drop (k+1):=by rw[bZ h];simp[List.getD,av h]
end Qv
open Go Go.Proofs Go.RowKit
namespace Qv
def qC:List gJ:=[.int .u8,.int .u8,.int .u8,.int .u8,.int .u8,.int .u8,.int .u8,.int .u8,.int .u8,.int .u8,.int .u8,.int .u8,.int .u8,.int .u8,.int .u8,.int .u8,.int .u8,.int .u8,.int .u8,.int .u8,.int .u8,.int .u8,.int .u8,.int .u8,.int .u8,.int .u8,.int .u8,.int .u8,.int .u8,.int .u8,.int .u8,.int .u8]
def Oh:List gJ:=qC++[.int .i64]
theorem bY:eZ Tryz.prog 40 33=some qC:=kK
theorem kB:eZ Tryz.prog 40 54=some Oh:=kK
theorem lC:Tryz.prog.eqGuardType Tryz.prog.depth 33=false:=kK
theorem ade:Tryz.prog.eqGuardType Tryz.prog.depth 54=false:=kK
theorem qT {xs ys:List AV}{K:Prop}(h:K)(e1:fC Oh xs=true:=by rfl)(e2:fC Oh ys=true:=by rfl):∃L,eZ Tryz.prog 40 54=some L/\Tryz.prog.eqGuardType Tryz.prog.depth 54=false/\fC L xs=true/\fC L ys=true/\K:=⟨Oh,kB,ade,e1,e2,h⟩
theorem By {a b:Dg}{K:Bool->Prop}(h:K (decide (a=b))):Al λt:Bool=>t=sameAs (cD a) (cD b)->K t:=⟨λt ht=>by rw[ht,PO];exact h⟩
theorem jC {a b:bV}{K:Bool->Prop}(h:K (decide (a=b))):Al λt:Bool=>t=sameAs (cI a) (cI b)->K t:=⟨λt ht=>by rw[ht,Zy];exact h⟩
theorem nE {a b:Dg}{K:Bool->Prop}(h:K (!decide (a=b))):Al λt:Bool=>t=!sameAs (cD a) (cD b)->K t:=⟨λt ht=>by rw[ht,PO];exact h⟩
theorem Iu {a b:bV}{K:Bool->Prop}(h:K (!decide (a=b))):Al λt:Bool=>t=!sameAs (cI a) (cI b)->K t:=⟨λt ht=>by rw[ht,Zy];exact h⟩
theorem wT (d:Dg):aq C 128 [.agg (cD d)] (λr=>r=.val (.bool (decide (d=aV)))):=by refine ai Tryz.func128 rfl rfl rfl ?_;refine⟨qC,bY,lC,rfl,rfl,?_⟩;refine By (a:=d) (b:=aV) ?_;exact rfl
theorem rT (a b:Dg):aq C 99 [.agg (cD a),.agg (cD b)] (λr=>r=.val (.int .i64 (ee a b))):=by
 refine ai Tryz.func99 rfl rfl rfl ?_;refine bJ 24 (λk:Nat=>[(2,.ptr 2 0),(3,.ptr 3 0),(5,.p (.int .i64 k))]) (λ_=>[(2,aG (cD a)),(3,aG (cD b))]) (λk=>k<=32/\cmpL (a.1.drop k) (b.1.drop k)=ee a b) (λk=>32-k) 0 ⟨oO,by simp[ee]⟩ rfl wS oS ?_;rintro k ⟨hk,hc⟩;have ha:=a.2;have hb:=b.2;refine aF (λhlt=>?_) (λhge=>?_);have hlt:k<32:=oO
 obtain⟨a1,a2⟩:=afc a hlt;obtain⟨b1,b2⟩:=afc b hlt;rw[Lf (l:=a.1) (k:=k) oO,Lf (l:=b.1) (k:=k) oO]at hc;generalize a.1.getD k 0=x at a1 hc;generalize b.1.getD k 0=y at b1 hc;have hc:(if x.toNat<y.toNat then-1 else if y.toNat<x.toNat then 1 else cmpL (a.1.drop (k+1)) (b.1.drop (k+1)))=ee a b:=hc;refine bW 7 kK ?_;refine⟨k,rfl,hlt,true,k,(by show 0+k*1=k;omega),?_⟩;refine⟨_,_,_,a1,a2,?_⟩;refine⟨k,rfl,hlt,true,k,(by show 0+k*1=k;omega),?_⟩;refine⟨_,_,_,b1,b2,?_⟩;refine aF (λh=>?_) (λh=>?_);rw[ag oO]at hc;rw[<-hc];exact rfl;rw[af oO]at hc;refine bW 7 kK ?_;refine⟨k,rfl,hlt,true,k,(by show 0+k*1=k;omega),?_⟩;refine⟨_,_,_,a1,a2,?_⟩;refine⟨k,rfl,hlt,true,k,(by show 0+k*1=k;omega),?_⟩;refine⟨_,_,_,b1,b2,?_⟩;refine aF (λh=>?_) (λh=>?_);rw[ag oO]at hc;rw[<-hc];exact rfl;rw[af oO]at hc;exact nx (k+1) (aQ (k+1) ⟨hlt,hc⟩ oO rfl wS oS);obtain rfl:k=32:=oO
 rw[cV oO,cV oO]at hc;rw[<-hc];exact rfl
theorem FH (a b:bV):aq C 123 [.agg (cI a),.agg (cI b)] (λr=>r=.val (.int .i64 (gV a b))):=by refine ai Tryz.func123 rfl rfl rfl ?_;refine cl (rT a.p b.p) ?_;unfold gV;generalize ee a.p b.p=c;refine cu (λh=>?_) (λh=>?_);rw[ag h];exact rfl;rw[af oO];refine aF (λh=>?_) (λh=>?_);rw[ag h];exact rfl;rw[af h];refine aF (λh=>?_) (λh=>?_);rw[ag oO];exact rfl;rw[af oO];exact rfl
end Qv
open Go Go.RowKit
namespace Qv
def x32 (a b:Int):Int:=yb .xor .u32 a b
def a32 (a b:Int):Int:=yb .and .u32 a b
def Bz (a b:Int):Int:=yb .or .u32 a b
def n32 (a:Int):Int:=yb .xor .u32 (IntKind.u32.max) a
def oK (a b:Int):Int:=IntKind.u32.wrap (a+b)
def AR (a b:Int):Int:=a.fdiv (2^(min b.toNat 32))
def jc (a b:Int):Int:=IntKind.u32.wrap (a*2^(min b.toNat 32))
def uK (a b:Int):Int:=Bz (AR a b) (jc a (32-b))
def cW (f:Nat->Int):List AV:=[.int .u32 (f 0),.int .u32 (f 1),.int .u32 (f 2),.int .u32 (f 3),.int .u32 (f 4),.int .u32 (f 5),.int .u32 (f 6),.int .u32 (f 7),.int .u32 (f 8),.int .u32 (f 9),.int .u32 (f 10),.int .u32 (f 11),.int .u32 (f 12),.int .u32 (f 13),.int .u32 (f 14),.int .u32 (f 15),.int .u32 (f 16),.int .u32 (f 17),.int .u32 (f 18),.int .u32 (f 19),.int .u32 (f 20),.int .u32 (f 21),.int .u32 (f 22),.int .u32 (f 23),.int .u32 (f 24),.int .u32 (f 25),.int .u32 (f 26),.int .u32 (f 27),.int .u32 (f 28),.int .u32 (f 29),.int .u32 (f 30),.int .u32 (f 31),.int .u32 (f 32),.int .u32 (f 33),.int .u32 (f 34),.int .u32 (f 35),.int .u32 (f 36),.int .u32 (f 37),.int .u32 (f 38),.int .u32 (f 39),.int .u32 (f 40),.int .u32 (f 41),.int .u32 (f 42),.int .u32 (f 43),.int .u32 (f 44),.int .u32 (f 45),.int .u32 (f 46),.int .u32 (f 47),.int .u32 (f 48),.int .u32 (f 49),.int .u32 (f 50),.int .u32 (f 51),.int .u32 (f 52),.int .u32 (f 53),.int .u32 (f 54),.int .u32 (f 55),.int .u32 (f 56),.int .u32 (f 57),.int .u32 (f 58),.int .u32 (f 59),.int .u32 (f 60),.int .u32 (f 61),.int .u32 (f 62),.int .u32 (f 63)]
def cH (f:Nat->Int):List AV:=[.int .u32 (f 0),.int .u32 (f 1),.int .u32 (f 2),.int .u32 (f 3),.int .u32 (f 4),.int .u32 (f 5),.int .u32 (f 6),.int .u32 (f 7)]
def kL:List Int:=[1116352408,1899447441,3049323471,3921009573,961987163,1508970993,2453635748,2870763221,3624381080,310598401,607225278,1426881987,1925078388,2162078206,2614888103,3248222580,3835390401,4022224774,264347078,604807628,770255983,1249150122,1555081692,1996064986,2554220882,2821834349,2952996808,3210313671,3336571891,3584528711,113926993,338241895,666307205,773529912,1294757372,1396182291,1695183700,1986661051,2177026350,2456956037,2730485921,2820302411,3259730800,3345764771,3516065817,3600352804,4094571909,275423344,430227734,506948616,659060556,883997877,958139571,1322822218,1537002063,1747873779,1955562222,2024104815,2227730452,2361852424,2428436474,2756734187,3204031479,3329325298]
def kF (i:Nat):Int:=kL.getD i 0
def h0L:List Int:=[1779033703,3144134277,1013904242,2773480762,1359893119,2600822924,528734635,1541459225]
def h0F (i:Nat):Int:=h0L.getD i 0
def pU (f:Nat->Int)(k:Nat)(v:Int):Nat->Int:=λi=>match Nat.beq i k with|true=>v|false=>f i
theorem PR (f:Nat->Int):cW f=(List.range 64).map λi=>.int .u32 (f i):=rfl
theorem uL {α:Type}(g:Nat->α){n k:Nat}(h:k<n):(List.range n).map g=((List.range n).map g).take k++([g k]++((List.range n).map g).drop (k+1))/\(((List.range n).map g).take k).length=k:=by
 have hl:((List.range n).map g).length=n:=by simp
 refine⟨?_,by rw[aL,hl];omega⟩;have hlt:k<((List.range n).map g).length:=by rw[hl];exact h
 have h2:((List.range n).map g).drop k=g k::((List.range n).map g).drop (k+1):=by rw[bZ hlt];simp
 rw[qb,<-h2,dI]
theorem EG {α:Type}(g g':Nat->α){n k:Nat}(h:k<n)(hg:∀i,i≠k->g' i=g i):((List.range n).map g).take k++([g' k]++((List.range n).map g).drop (k+1))=(List.range n).map g':=by
 have h1:((List.range n).map g).take k=((List.range n).map g').take k:=by refine fZ λi=>?_;rw[sW,sW];by_cases hi:i<k;rw[ag hi,ag hi,aN,aN];rw[sZ oO];simp[hg i oO];rw[af hi,af hi]
 have h2:((List.range n).map g).drop (k+1)=((List.range n).map g').drop (k+1):=by refine fZ λi=>?_;rw[gY,gY,aN,aN];by_cases hi:k+1+i<n;rw[sZ hi];simp[hg (k+1+i) oO];rw[oa (by simp;omega)];rfl
 rw[h1,h2];exact(uL g' h).1.symm
theorem tc (f:Nat->Int)(k:Nat)(v:Int):∀i,i≠k->pU f k v i=f i:=λi h=>by
 unfold pU;have hb:Nat.beq i k=false:=by
  cases hb:Nat.beq i k with
  |false=>rfl
  |true=>exact absurd (aM hb) h
 rw[hb]
theorem qg (f:Nat->Int)(k:Nat)(v:Int):pU f k v k=v:=by unfold pU;rw[ji]
abbrev fw (f:Nat->Int)(i:Nat):FV:=.p (.int .u32 (f i))
theorem mW (f:Nat->Int):aG (cW f)=(List.range 64).map (fw f):=rfl
theorem mH (f:Nat->Int):aG (cH f)=(List.range 8).map (fw f):=rfl
theorem sy (f:Nat->Int){k:Nat}(h:k<64):aG (cW f)=(aG (cW f)).take k++([.p (.int .u32 (f k))]++(aG (cW f)).drop (k+1))/\((aG (cW f)).take k).length=k:=by rw[mW];exact uL (fw f) h
theorem MV (f:Nat->Int){k:Nat}(h:k<64)(v:Int):(aG (cW f)).take k++([.p (.int .u32 v)]++(aG (cW f)).drop (k+1))=aG (cW (pU f k v)):=by
 rw[mW,mW];have :=EG (fw f) (fw (pU f k v)) h λi hi=>by simp only[fw,tc f k v i hi]
 simp only[fw,qg]at this⊢;exact this
theorem PS (f:Nat->Int){k:Nat}(h:k<8):aG (cH f)=(aG (cH f)).take k++([.p (.int .u32 (f k))]++(aG (cH f)).drop (k+1))/\((aG (cH f)).take k).length=k:=by rw[mH];exact uL (fw f) h
theorem Zz (f:Nat->Int){k:Nat}(h:k<8)(v:Int):(aG (cH f)).take k++([.p (.int .u32 v)]++(aG (cH f)).drop (k+1))=aG (cH (pU f k v)):=by
 rw[mH,mH];have :=EG (fw f) (fw (pU f k v)) h λi hi=>by simp only[fw,tc f k v i hi]
 simp only[fw,qg]at this⊢;exact this
def xT (b:Bytes)(i:Nat):Int:=((b.getD i 0).toNat:Int)
def w1F (b:Bytes)(t:Nat):Int:=Bz (Bz (Bz (jc (xT b (4*t)) 24) (jc (xT b (4*t+1)) 16)) (jc (xT b (4*t+2)) 8)) (xT b (4*t+3))
def XX (f:Nat->Int)(t:Nat):Int:=oK (oK (oK (x32 (x32 (uK (f (t-2)) 17) (uK (f (t-2)) 19)) (AR (f (t-2)) 10)) (f (t-7))) (x32 (x32 (uK (f (t-15)) 7) (uK (f (t-15)) 18)) (AR (f (t-15)) 3))) (f (t-16))
def qG (b:Bytes):Nat->Nat->Int|0=>λ_=>0|k+1=>pU (qG b k) k (if k<16 then w1F b k else XX (qG b k) k)
def t1F (v:Nat->Int)(k w:Int):Int:=oK (oK (oK (oK (v 7) (x32 (x32 (uK (v 4) 6) (uK (v 4) 11)) (uK (v 4) 25))) (x32 (a32 (v 4) (v 5)) (a32 (n32 (v 4)) (v 6)))) k) w
def t2F (v:Nat->Int):Int:=oK (x32 (x32 (uK (v 0) 2) (uK (v 0) 13)) (uK (v 0) 22)) (x32 (x32 (a32 (v 0) (v 1)) (a32 (v 0) (v 2))) (a32 (v 1) (v 2)))
def af8 (v:Nat->Int)(k w:Int):Nat->Int|0=>oK (t1F v k w) (t2F v)|1=>v 0|2=>v 1|3=>v 2|4=>oK (v 3) (t1F v k w)|5=>v 4|6=>v 5|7=>v 6|_=>0
def vS (h w:Nat->Int):Nat->Nat->Int|0=>h|t+1=>af8 (vS h w t) (kF t) (w t)
def hS (h v:Nat->Int):Nat->Nat->Int|0=>h|k+1=>pU (hS h v k) k (oK (hS h v k k) (v k))
def Dk (h:Nat->Int)(b:Bytes):Nat->Int:=hS h (vS h (qG b 64) 64) 8
def jL (n:Nat):Bytes:=List.replicate n 0
def MW (n i:Nat):UInt8:=UInt8.ofNat (n*8%18446744073709551616/2^(8*i))
def tX (n:Nat):Nat->Bytes|0=>[]|i+1=>MW n i::tX n i
def tY (s:Bytes):Bytes:=s++[128]++jL ((120-(s.length+1)%64)%64)++tX s.length 8
def vE (m:Bytes):Nat->Nat->Int|0=>h0F|i+1=>Dk (vE m i) ((m.take (64*i+64)).drop (64*i))
def Iv (h:Nat->Int)(i:Nat):UInt8:=UInt8.ofNat (IntKind.u8.wrap (AR (h (i/4)) (24-8*(i%4:Nat)))).toNat
def PT (s:Bytes):Dg:=⟨(List.range 32).map (Iv (vE (tY s) ((tY s).length/64))),by simp⟩
end Qv
open Go Go.Proofs Go.RowKit
namespace Qv
theorem uM {n:Int}(h1:0<=n)(h2:n<18446744073709551616):IntKind.u64.wrap n=n:=by simp[IntKind.wrap,IntKind.bits,IntKind.signed];omega
theorem wU {n:Int}(h1:0<=n)(h2:n<4294967296):IntKind.u32.wrap n=n:=by simp[IntKind.wrap,IntKind.bits,IntKind.signed];omega
theorem mR (x:Int)(n:Int)(h0:0<=n)(h:n<=32):aq C 229 [.int .u32 x,.int .u64 n] (λr=>r=.val (.int .u32 (uK x n))):=by refine ai Tryz.func229 rfl rfl rfl ?_;refine⟨h0,_,rfl,?_⟩;refine⟨32-n,uM oO oO,?_⟩;refine⟨oO,_,rfl,?_⟩;refine⟨_,rfl,?_⟩;exact rfl
theorem Kk:aq C 228 [] (λr=>r=.val (.agg (cW kF))):=by refine ai Tryz.func228 rfl rfl rfl ?_;exact rfl
theorem PU (n:Nat):jL n++[0]=jL (n+1):=by unfold jL;rw[List.replicate_succ',]
theorem ZA (n:Nat)(h:n<2^40):aq C 226 [.int .i64 n] (λr=>r=.val (.str (jL n))):=by
 refine ai Tryz.func226 rfl rfl rfl ?_;refine bJ 13 (λk:Nat=>[(0,.p (.int .i64 n)),(3,.p (.str (jL k))),(4,.p (.int .i64 k))]) (λ_=>[]) (λk=>k<=n) (λk=>n-k) 0 oO rfl wS trivial ?_;intro k hk;refine aF (λhlt=>?_) (λhge=>?_);have hlt:k<n:=oO
 refine⟨by simp[jL];omega,?_⟩;exact nx (k+1) (aQ (k+1) hlt oO rfl ⟨bh.refl _,bh.eq (by show FV.p (.str (jL k++[0]))=_;rw[PU]),bh.refl _,trivial⟩ trivial);obtain rfl:k=n:=oO
 exact rfl
theorem MX {s:Bytes}{n:Int}{k:Nat}(hn:n=k)(h:k<s.length):s[n.toNat]?=some (s.getD k 0):=by subst hn;simp[List.getD,av h]
theorem PV (b:Bytes)(hb:b.length=64):aq C 227 [.str b] (λr=>r=.val (.agg (cW (qG b 64)))):=by
 refine ej [6] Tryz.func227 rfl rfl rfl ?_;refine bJ 86 (λk:Nat=>[(0,.p (.str b)),(2,.ptr 2 0),(3,.ptr 3 0),(4,.p (.int .i64 k))]) (λk=>[(2,aG (cW λ_=>0)),(3,aG (cW (qG b k)))]) (λk=>k<=16) (λk=>16-k) 0 oO rfl wS oS ?_;intro k hk;refine aF (λhlt=>?_) (λhge=>?_);have hlt:k<16:=oO
 obtain⟨a1,a2⟩:=sy (qG b k) (k:=k) oO;have a3:=MV (qG b k) (k:=k) oO (w1F b k);have e:pU (qG b k) k (w1F b k)=qG b (k+1):=by show _=pU (qG b k) k (if k<16 then w1F b k else XX (qG b k) k);rw[ag hlt]
 rw[e]at a3;have m0:IntKind.i64.wrap (4*(k:Int))=((4*k:Nat):Int):=by rw[wrap64 oO oO];omega
 refine bW 31 kK ?_;refine⟨_,m0,?_⟩;refine⟨oO,_,MX rfl oO,?_⟩;refine⟨_,⟨_,wU oO (by have :=(b.getD (4*k) 0).toNat_lt;omega),rfl⟩,?_⟩;refine⟨dD,_,rfl,?_⟩;refine⟨_,m0,?_⟩;refine nx (4*k+1) ?_;refine⟨oO,_,MX rfl oO,?_⟩;refine⟨_,⟨_,wU oO (by have :=(b.getD (4*k+1) 0).toNat_lt;omega),rfl⟩,?_⟩;refine⟨dD,_,rfl,?_⟩;refine⟨_,rfl,?_⟩;refine⟨_,m0,?_⟩;refine nx (4*k+2) ?_;refine⟨oO,_,MX rfl oO,?_⟩;refine⟨_,⟨_,wU oO (by have :=(b.getD (4*k+2) 0).toNat_lt;omega),rfl⟩,?_⟩;refine⟨dD,_,rfl,?_⟩;refine⟨_,rfl,?_⟩;refine⟨_,m0,?_⟩;refine nx (4*k+3) ?_;refine⟨oO,_,MX rfl oO,?_⟩;refine⟨_,⟨_,wU oO (by have :=(b.getD (4*k+3) 0).toNat_lt;omega),rfl⟩,?_⟩;refine⟨_,rfl,?_⟩;refine⟨k,rfl,oO,true,k,(by show 0+k*1=k;omega),?_⟩;refine⟨_,_,_,a1,a2,?_⟩;refine⟨_,a3,?_⟩;exact nx (k+1) (aQ (k+1) hlt oO rfl wS oS);obtain rfl:k=16:=oO
 refine dc 86 [(0,.p (.str b)),(2,.ptr 2 0),(3,.ptr 3 0)] [(2,aG (cW λ_=>0)),(3,aG (cW (qG b 16)))] rfl wS oS ?_;refine bJ 86 (λk:Nat=>[(2,.ptr 2 0),(3,.ptr 3 0),(5,.p (.int .i64 k))]) (λk=>[(2,aG (cW λ_=>0)),(3,aG (cW (qG b k)))]) (λk=>16<=k/\k<=64) (λk=>64-k) 16 oO rfl wS oS ?_;rintro k ⟨h16,hk⟩;refine aF (λhlt=>?_) (λhge=>?_);have hlt:k<64:=oO
 obtain⟨a1,a2⟩:=sy (qG b k) (k:=k) hlt;obtain⟨b1,b2⟩:=sy (qG b k) (k:=k-15) oO;obtain⟨c1,c2⟩:=sy (qG b k) (k:=k-2) oO;obtain⟨d1,d2⟩:=sy (qG b k) (k:=k-7) oO;obtain⟨e1,e2⟩:=sy (qG b k) (k:=k-16) oO;have a3:=MV (qG b k) (k:=k) hlt (XX (qG b k) k);have e:pU (qG b k) k (XX (qG b k) k)=qG b (k+1):=by show _=pU (qG b k) k (if k<16 then w1F b k else XX (qG b k) k);rw[af oO]
 rw[e]at a3;refine bW 10 kK ?_;refine nx (k-15) ?_;refine⟨k-15,rfl,oO,true,k-15,(by show 0+(k-15)*1=k-15;omega),?_⟩;refine⟨_,_,_,b1,b2,?_⟩;refine nx (k-2) ?_;refine⟨k-2,rfl,oO,true,k-2,(by show 0+(k-2)*1=k-2;omega),?_⟩;refine⟨_,_,_,c1,c2,?_⟩;refine bW 29 kK ?_;refine⟨_,mR _ 17 dD dD,?_⟩;refine⟨_,mR _ 19 dD dD,?_⟩;refine⟨_,rfl,?_⟩;refine⟨dD,_,rfl,?_⟩;refine⟨_,rfl,?_⟩;refine nx (k-7) ?_;refine⟨k-7,rfl,oO,true,k-7,(by show 0+(k-7)*1=k-7;omega),?_⟩;refine⟨_,_,_,d1,d2,?_⟩;refine⟨_,rfl,?_⟩;refine⟨_,mR _ 7 dD dD,?_⟩;refine⟨_,mR _ 18 dD dD,?_⟩;refine⟨_,rfl,?_⟩;refine⟨dD,_,rfl,?_⟩;refine⟨_,rfl,?_⟩;refine⟨_,rfl,?_⟩;refine nx (k-16) ?_;refine⟨k-16,rfl,oO,true,k-16,(by show 0+(k-16)*1=k-16;omega),?_⟩;refine⟨_,_,_,e1,e2,?_⟩;refine⟨_,rfl,?_⟩;refine⟨k,rfl,hlt,true,k,(by show 0+k*1=k;omega),?_⟩;refine⟨_,_,_,a1,a2,?_⟩;refine⟨_,a3,?_⟩;exact nx (k+1) (aQ (k+1) ⟨oO,hlt⟩ oO rfl wS oS);obtain rfl:k=64:=oO
 exact rfl
theorem adg (h:Nat->Int)(b:Bytes)(hb:b.length=64):aq C 155 [.agg (cH h),.str b] (λr=>r=.val (.agg (cH (Dk h b)))):=by
 refine ej [3,10] Tryz.func155 rfl rfl rfl ?_;refine cl (PV b hb).cut ?_;refine cl Kk.cut ?_;generalize hw:qG b 64=w;refine dc 114 [(2,.ptr 2 0),(4,.ptr 4 0),(5,.ptr 5 0),(6,.ptr 6 0),(7,.ptr 7 0)] [(2,aG (cH h)),(4,aG (cH λ_=>0)),(5,aG (cW w)),(6,aG (cW kF)),(7,aG (cH h))] rfl wS oS ?_;refine bJ 114 (λt:Nat=>[(2,.ptr 2 0),(4,.ptr 4 0),(5,.ptr 5 0),(6,.ptr 6 0),(7,.ptr 7 0),(8,.p (.int .i64 t))]) (λt=>[(2,aG (cH h)),(4,aG (cH λ_=>0)),(5,aG (cW w)),(6,aG (cW kF)),(7,aG (cH (vS h w t)))]) (λt=>t<=64) (λt=>64-t) 0 oO rfl wS oS ?_;intro t ht;refine aF (λhlt=>?_) (λhge=>?_);have hlt:t<64:=oO
 obtain⟨a1,a2⟩:=sy kF (k:=t) hlt;obtain⟨b1,b2⟩:=sy w (k:=t) hlt;refine bW 6 kK ?_;refine⟨0,rfl,dD,false,?_⟩;refine⟨4,rfl,dD,false,?_⟩;refine bW 31 kK ?_;refine⟨7,rfl,dD,false,?_⟩;refine⟨_,(mR _ 6 dD dD).cut,?_⟩;refine⟨_,(mR _ 11 dD dD).cut,?_⟩;refine⟨_,rfl,?_⟩;refine⟨_,(mR _ 25 dD dD).cut,?_⟩;refine⟨_,rfl,?_⟩;refine⟨_,rfl,?_⟩;refine⟨5,rfl,dD,false,?_⟩;refine⟨_,rfl,?_⟩;refine⟨_,rfl,?_⟩;refine⟨6,rfl,dD,false,?_⟩;refine⟨_,rfl,?_⟩;refine⟨_,rfl,?_⟩;refine⟨_,rfl,?_⟩;refine⟨t,rfl,hlt,true,t,(by show 0+t*1=t;omega),?_⟩;refine⟨_,_,_,a1,a2,?_⟩;refine⟨_,rfl,?_⟩;refine⟨t,rfl,hlt,true,t,(by show 0+t*1=t;omega),?_⟩;refine⟨_,_,_,b1,b2,?_⟩;refine⟨_,rfl,?_⟩;refine bW 25 kK ?_;refine⟨_,(mR _ 2 dD dD).cut,?_⟩;refine⟨_,(mR _ 13 dD dD).cut,?_⟩;refine⟨_,rfl,?_⟩;refine⟨_,(mR _ 22 dD dD).cut,?_⟩;refine⟨_,rfl,?_⟩;refine⟨1,rfl,dD,false,?_⟩;refine⟨_,rfl,?_⟩;refine⟨2,rfl,dD,false,?_⟩;refine⟨_,rfl,?_⟩;refine⟨_,rfl,?_⟩;refine⟨1,rfl,dD,false,?_⟩;refine⟨2,rfl,dD,false,?_⟩;refine⟨_,rfl,?_⟩;refine⟨_,rfl,?_⟩;refine⟨_,rfl,?_⟩;refine⟨oK (t1F (vS h w t) (kF t) (w t)) (t2F (vS h w t)),rfl,?_⟩;refine⟨0,rfl,dD,false,?_⟩;refine⟨1,rfl,dD,false,?_⟩;refine⟨2,rfl,dD,false,?_⟩;refine⟨3,rfl,dD,false,?_⟩;refine⟨oK (vS h w t 3) (t1F (vS h w t) (kF t) (w t)),rfl,?_⟩;refine⟨4,rfl,dD,false,?_⟩;refine⟨5,rfl,dD,false,?_⟩;refine⟨6,rfl,dD,false,?_⟩;exact nx (t+1) (aQ (t+1) hlt oO rfl wS oS);obtain rfl:t=64:=oO
 have e:Dk h b=hS h (vS h w 64) 8:=by rw[<-hw];rfl
 rw[e];generalize vS h w 64=v;refine dc 114 [(2,.ptr 2 0),(4,.ptr 4 0),(7,.ptr 7 0)] [(2,aG (cH h)),(4,aG (cH λ_=>0)),(7,aG (cH v))] rfl wS oS ?_;refine bJ 114 (λk:Nat=>[(2,.ptr 2 0),(4,.ptr 4 0),(7,.ptr 7 0),(13,.p (.int .i64 k))]) (λk=>[(2,aG (cH (hS h v k))),(4,aG (cH λ_=>0)),(7,aG (cH v))]) (λk=>k<=8) (λk=>8-k) 0 oO rfl wS oS ?_;intro k hk;refine aF (λhlt=>?_) (λhge=>?_);have hlt:k<8:=oO
 obtain⟨a1,a2⟩:=PS (hS h v k) (k:=k) hlt;obtain⟨b1,b2⟩:=PS v (k:=k) hlt;have a3:=Zz (hS h v k) (k:=k) hlt (oK (hS h v k k) (v k));refine bW 9 kK ?_;refine⟨k,rfl,hlt,true,k,(by show 0+k*1=k;omega),?_⟩;refine⟨_,_,_,a1,a2,?_⟩;refine⟨k,rfl,hlt,true,k,(by show 0+k*1=k;omega),?_⟩;refine⟨_,_,_,b1,b2,?_⟩;refine⟨_,rfl,?_⟩;refine⟨k,rfl,hlt,true,k,(by show 0+k*1=k;omega),?_⟩;refine⟨_,_,_,a1,a2,?_⟩;refine⟨_,a3,?_⟩;exact nx (k+1) (aQ (k+1) hlt oO rfl wS oS);obtain rfl:k=8:=oO
 exact rfl
end Qv
