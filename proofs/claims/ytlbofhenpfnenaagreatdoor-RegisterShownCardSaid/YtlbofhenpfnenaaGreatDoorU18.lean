/- Part 18 of the proof: its lemmas. No condition. -/
import Derived.Test.YtlbofhenpfnenaaGreatDoorU17
import Derived.Sort.LoopGhostIn
set_option maxRecDepth 10000
set_option maxHeartbeats 80000000
set_option linter.all false
namespace Qv
open Go Go.RowKit
section
variable {E:Env}{G:aV}{S:ai}{a:Act}{w:World}
theorem KT (hs:bp E G S a w)(fn:FuncId)(ps:Array Tmp)(assign body:Code):∃(l:Nat) (ms:List Nat) (w1:World) (rec:Loop),(Instr.enterLoop fn a.tmps ps assign body E.mD).run E.C.P w=.ok (l,ms.map mark) w1/\Below w.heap.size w w1/\rec.tmps=a.tmps/\rec.params=ps/\rec.assign=assign/\rec.body=body/\rec.state=.ready/\rec.pending=none/\w1.heap[l]?=some (.loop rec)/\w.heap.size<=l/\(∀m,m∈ms->w.heap.size<=m/\w1.heap[m]?=some (.deferred (some [])))/\ms.Nodup:=by
 cases hr:E.mD with
 |none=>refine⟨_,[w.heap.size],_,{state:=.ready,pending:=none,fn,tmps:=a.tmps,params:=ps,assign,body,defers:=w.heap.size},run_enterLoop_outer fn a.tmps ps assign body,?_,rfl,rfl,rfl,rfl,rfl,rfl,?_,oO,λm hm=>?_,by simp⟩;exact((Below.refl _ w).alloc (ay _) _).alloc (by simp) _;have :=World.alloc_heap_new (w.alloc (.deferred (some []))) (.loop {state:=.ready,pending:=none,fn,tmps:=a.tmps,params:=ps,assign,body,defers:=w.heap.size});simp_all;obtain rfl:=aS.1 hm;exact⟨ay _,(Below.heap_alloc _ _ _ (by simp)).trans (World.alloc_heap_new w _)⟩
 |some l0=>
  obtain⟨i,r,h1⟩:=hs.ext'.mD l0 hr;have hlt:i<S.bZ.length:=by rw[hs.ext'.kj];exact(aG.1 h1).1
  obtain⟨h2,h3⟩:=hs.ext'.loops i l0 r _ h1 (av hlt);refine⟨_,[],_,{state:=.ready,pending:=none,fn,tmps:=a.tmps,params:=ps,assign,body,defers:=((S.bZ[i]).of r).defers},run_enterLoop_inner h3 fn a.tmps ps assign body,?_,rfl,rfl,rfl,rfl,rfl,rfl,World.alloc_heap_new w _,ay _,by simp,by simp⟩;exact(Below.refl _ w).alloc (ay _) _
theorem Gm {call:iw}{Y:pE}(de:mc E.C call)(hY:eN E Y){assign body:Code}(ha:IG assign)(hb:IG body){g:Operand}{ps:Array Tmp}{Q:Exit->ai->Prop}(hs:bp E G S a w){f:FuncId}{cs:List Value}{captured:List FV}(hg:a.eval g=.func (.func f) #[] cs.toArray)(hcs:cs.length=captured.length)(oz:∀(i:Nat)(c:Value)(x:FV),cs[i]?=some c->captured[i]?=some x->aT G w c x)(h:call (sR Y (uM E.C call Y assign) (uM E.C call Y body) ps.toList S.bZ.length S.bG.length) f (.ni (1000000+S.bZ.length)::FV.eL (1000000+S.bZ.length) captured) (λ_ S'=>CB S.bZ.length Q S') {S.kill (1000000+S.bZ.length)with bZ:=S.bZ++[.ready]}):(Code.rangeFunc g ps assign body).wpIn E.kX 0 E.C.P (λe a' w'=>∃S',Q e S'/\pV E S' a' w') a w:=by
 refine wpIn_rangeFunc λfn hfn=>?_;obtain⟨l,ms,w1,rec,hrun,GY,hr1,hr2,hr3,hr4,hr5,hr6,hl,ak5,Bc,KQ⟩:=KT hs fn ps assign body;have hs1:=hs.ext GY;have ak6:∀v x,aT G w v x->aT {G with aZ:=λb o=>G.aZ b o\/(w.heap.size<=b/\b<w1.heap.size)} w1 v x:=λv x hv=>hv.keep (λb o hi=>.inl hi) (λb o c hi hc=>by rw[GY.cell (p:=⟨b,o,none⟩) (hs.fo b o hi)];omega) ((fZ.CE GY).qO _) (λ_ _ e=>e) (λ_ _ e=>e);obtain⟨ms0,hm1,hm2,hm3⟩:=hs.ext'.marks;have hold:∀r,r∈ms0++E.fixed->r<w.heap.size:=λr hr=>(bB.1 (hm3 r hr).2).1;obtain⟨G1,hs2,Xr,hup⟩:=hs1.aaA (l:=l) (rec:=rec) (ms:=ms) (by rw[QS rec hr5 hr6];omega) (bH hs.kept.size ak5) (λi k r q=>by
  have hlt:i<S.bZ.length:=by rw[hs.ext'.kj];exact(aG.1 q).1
  obtain⟨-,q2⟩:=hs.ext'.loops i k r _ q (av hlt);grind) (λm hm=>⟨bH hs.kept.size (Bc m hm).1,(Bc m hm).2⟩) (by rw[hm1,lU];grind);have hlv:S.bZ.length=E.loops.length:=hs.ext'.kj;have SR:S.bG.length=E.bG.length:=hs.ext'.kZ;have hYr:=QT (E:=E) de hY ha hb (a1:={a with defers:=ms.map mark++a.defers}) (l:=l) (rec:=rec) (aaB:=marksOf (ms.map mark++a.defers)++E.fixed) hr1 hr3 hr4 hr5 hr6;rw[hr2,<-hlv,<-SR]at hYr;obtain⟨⟨func,hf1,Pz,hf3⟩,ag0⟩:=de {E with loops:=E.loops++[(l,rec)]} rfl _ f _ _ G1 _ _ w1 (.func (.yield l) #[] #[]::cs) hs2 hYr h (by simp[FV.fq,hcs]) (λi c x hc hx=>by
  cases i with
  |zero=>simp at hc hx;subst hc;subst hx;exact .ni _ l Xr
  |succ i=>simp only[mb]at hc hx;rw[FV.fq,aR]at hx;grind)
 refine⟨l,ms.map mark,w1,{target:=.fn (.func f) cs.toArray,args:=#[.func (.yield l) #[] #[]]},w1,f,(.func (.yield l) #[] #[]::cs).toArray,w1,?_,?_,λf' _=>Env.gd f',?_,λh=>(by rw[Env.lR]at h;grind),QA (CallsIn.mono ag0 ?_)⟩;rw[Env.zv];omega;simp only[resolve,hg];simp[go_sem];have h3':¬func.name= "runtime.NumGoroutine" :=by simpa using hf3
 have h2':¬func.body=none:=λe=>by simp_all
 simp[invoke,callFunc,hf1,h2',h3'];rintro e w' ⟨v,x,G',S',rfl,hq,hs',-⟩;unfold CB at hq;have hrn:∀q,E.mD=some q->∃(i:Nat) (r:Loop),E.loops[i]?=some (q,r):=hs.ext'.mD;have fin:∀{st:yN},Ia S'.bZ S.bZ.length=some st->(st.of rec).state≠.busy->∃w4,(Instr.endLoop l).run E.C.P w'=.ok (st.of rec).pending w4/\bp E G' {S' with bZ:=S'.bZ.take S.bZ.length} {a with defers:=ms.map mark++a.defers} w4:=λ{st} hst hnb=>by rw[hlv]at hst;obtain⟨-,hl4⟩:=hs'.Fe (i:=E.loops.length) (k:=l) (r:=rec) (by simp_all) hst;refine⟨_,run_endLoop hl4 hnb,?_⟩;have :=bp.aeb (E:=E) hs' hst hrn (o':={st.of rec with state:=.exhausted});simp_all
 split at hq;rename_i hst;obtain⟨w4,he,hs4⟩:=fin hst (by simp[yN.of]);exact⟨_,w4,he,_,hq,G',hs4⟩;rename_i hst;obtain⟨w4,he,hs4⟩:=fin hst (by simp[yN.of]);exact⟨_,w4,he,wpIn_ret ⟨_,hq,G',hs4⟩⟩;rename_i id hst;obtain⟨w4,he,hs4⟩:=fin hst (by simp[yN.of]);exact⟨_,w4,he,wpIn_exit ⟨_,hq,G',hs4⟩⟩;simp_all
theorem tN (c:Code):IG c:=by
 induction c with
 |skip=>intro E call Y de hY Q S a w h hs;exact wpIn_skip ⟨S,h,hs⟩
 |region id ops draw=>intro E call Y de hY Q S a w h hs;unfold uM at h;split at h;obtain⟨T,hw,h⟩:=h;exact jK de hY (λS a w hk hs'=>⟨S,hk,hs'⟩) (hs.weaken hw) h;split at h;rcases h with⟨d,Z,rL,hf,h⟩|h;obtain⟨G,hs⟩:=hs;exact jK de hY (λS a w hk hs'=>⟨S,hk,hs'⟩) (hs.PO hf) h;exact jK de hY (λS a w hk hs'=>⟨S,hk,hs'⟩) hs h;split at h;rcases h with⟨d,ks,vs,hf,h⟩|h;obtain⟨G,hs⟩:=hs;exact jK de hY (λS a w hk hs'=>⟨S,hk,hs'⟩) (hs.PK hf) h;exact jK de hY (λS a w hk hs'=>⟨S,hk,hs'⟩) hs h;split at h;obtain⟨fr,h⟩:=h;obtain⟨S',h,hs'⟩:=zD fr h hs;exact jK de hY (λS a w hk hs'=>⟨S,hk,hs'⟩) hs' h;split at h;exact KR de hY (λS a w hk hs'=>⟨S,hk,hs'⟩) hs h;exact jK de hY (λS a w hk hs'=>⟨S,hk,hs'⟩) hs h
 |seq x y ihx ihy=>
  intro E call Y de hY Q S a w h hs;refine wpIn_seq (wpIn_mono (ihx de hY (Q:=uK (uM E.C call Y y Q) Q) h hs) ?_);rintro e a' w' ⟨S',hq,hs'⟩;cases e with
  |normal=>exact ihy de hY hq hs'
  |_=>exact⟨S',hq,hs'⟩
 |cond c x y ihx ihy=>intro E call Y de hY Q S a w h hs;have hs':=hs;obtain⟨G,hs'⟩:=hs';simp only[uM]at h;have hv:=aT.val hs' c;split at h;rename_i ht;rw[ht]at hv;exact wpIn_cond_true hv.ny (ihx de hY h hs);rename_i ht;rw[ht]at hv;exact wpIn_cond_false hv.ny (ihy de hY h hs);simp_all
 |block id c ih=>
  intro E call Y de hY Q S a w h hs;refine wpIn_block (wpIn_mono (ih de hY (Q:=HZ id Q) h hs) ?_);rintro e a' w' ⟨S',hq,hs'⟩;cases e with
  |exit n=>simp only[HZ]at hq;simp only[Exit.inBlock];split at hq;rename_i hb;rw[af (aP hb)];grind;rename_i hb;rw[aa (bt hb)];grind
  |_=>exact⟨S',hq,hs'⟩
 |loop c ih=>
  intro E call Y de hY Q S a w h hs;obtain⟨α,I,μ,⟨a0,S0,hw0,hI0⟩,round⟩:=h;refine wpIn_loop_ghost (λn a w=>∃x S,I x S/\μ x=n/\pV E S a w) (μ a0) ⟨a0,S0,hI0,rfl,hs.weaken hw0⟩ ?_;rintro n a w ⟨x,S,hI,rfl,hs⟩;refine wpIn_mono (ih de hY (Q:=uK (λS'=>∃a' uE,bM S' uE/\I a' uE/\μ a'<μ x) Q) (round x S hI) hs) ?_;rintro e a' w' ⟨S',hq,hs'⟩;cases e with
  |normal=>obtain⟨x',uE,hw,hI',hlt⟩:=hq;exact⟨μ x',hlt,x',uE,hI',rfl,hs'.weaken hw⟩
  |_=>exact⟨S',hq,hs'⟩
 |exit id=>intro E call Y de hY Q S a w h hs;exact wpIn_exit ⟨S,h,hs⟩
 |ret=>intro E call Y de hY Q S a w h hs;exact wpIn_ret ⟨S,h,hs⟩
 |rangeFunc g ps assign body iha ihb=>
  intro E call Y de hY Q S a w h hs;obtain⟨G,hs⟩:=hs;simp only[uM,PI]at h;have hv:=aT.val hs g;generalize LD:a.eval g=v at hv;split at h;rename_i f captured hf;rw[hf]at hv;obtain⟨fs,cs,rfl,h1,h2⟩:=Tp hv;have :fs=[]:=bK.1 h1.1;subst this;have h3:=zF (G:=G) h2 rfl;have hk:FV.eL (1000000+S.bZ.length) (aH captured)=aH captured:=by rw[FV.fq,eP];simp[FV.kill]
  exact Gm de hY iha ihb hs LD h3.1 h3.2 (by simp_all);rename_i f captured hf;rw[hf]at hv;obtain⟨fs,cs,rfl,h1,h2⟩:=NB hv;have :fs=[]:=bK.1 h1.1;subst this;exact Gm de hY iha ihb hs LD h2.1 h2.2 h;simp_all
 |_=>intro E call Y de hY Q S a w h hs;exact h.elim
theorem zN {n:Nat}{vals:List Value}{args:List FV}(hlen:vals.length=args.length)(hn:args.length<=n)(hr:∀(i:Nat)(v:Value)(x:FV),vals[i]?=some v->args[i]?=some x->aT G w v x):(vals.toArray++Array.replicate (n-vals.toArray.size) undef).size=n/\∀i,i<n->aT G w ((vals.toArray++Array.replicate (n-vals.toArray.size) undef).getD i undef) (wY args i):=by
 refine⟨by simp_all,λi hi=>?_⟩;have vP:(vals.toArray++Array.replicate (n-vals.toArray.size) undef).getD i undef=(vals[i]?).getD undef:=by rw[Dr];by_cases hlt:i<vals.length;simp_all;simp_all
 rw[vP];unfold wY;by_cases hlt:i<args.length;grind;rw[nT oO,nT oO];exact jI _ _
theorem Dt (C:Ctx):∀k,mc C (ZQ C k)
 |0=>λE hC Y g args K G S a w vals hs hY h=>h.elim
 |k+1=>by
  intro E hC Y g args K G S a w vals hs hY h hlen hr;subst hC;obtain⟨fn,hf,hb,hname,hn,h⟩:=h;obtain⟨c,hc⟩:=mg.1 hb;rw[hc]at h;refine⟨⟨fn,hf,by simp_all,hname⟩,?_⟩;obtain⟨hsz,ht⟩:=zN (n:=fn.ntmps) hlen (gT hn) hr;have hs1:=hs.enter (mD:=none) hsz ht (λl h=>by grind);obtain⟨ms,Bc,-,-⟩:=hs.ext'.marks;refine callsIn_of_wp_marks hf hc trivial ?_ rfl;have :=tN c (E:=E.push a) (Dt E.C k) hY h ⟨_,hs1⟩;refine wpIn_mono this ?_;have fin:∀{S':ai}{a':Act}{w':World},sH E.C S' fn.results.toList (λvs=>S'.leave (K (Nr vs)))->pV (E.push a) S' a' w'->LeavesInM Fence.wide 0 E.C.P fn a'.tmps (λe w'=>∃v x G' S',e=.returned v/\K x S'/\bp E G' S' a w'/\aT G' w' v x) a'.defers .returning w':=λ{S' a' w'} hq ⟨G',hs'⟩=>by obtain⟨ms',hm',-,-⟩:=hs'.ext'.marks;rw[hm'];refine AE (E:=E.push a) ms' rfl hs' rfl hm' λG2 a2 w2 hs2 ht2 hd2=>?_;obtain⟨vs,xs,r1,r2,r3,r4,r5⟩:=qf hs2 _ _ hq;obtain⟨f,r,hf',hK⟩:=Fc r2;have hlv:=bp.leave (E:=E) (a:=a) (mD:=none) (ms:=ms) hs2 hf' Bc hs.ext'.mD;rw[<-ht2];exact⟨_,kS fn a2.tmps E.C.P w2 r1,_,_,G2,_,rfl,hK,hlv,Ds r4 r5⟩
  rintro e a' w' ⟨S',hq,hs'⟩;cases e with
  |normal=>exact fin hq hs'
  |ret=>exact fin hq hs'
  |_=>exact hq.elim
theorem uS (E:Env):eN E jC:=λ_ _ _ _ _ _ _ _ _ _ _ _ _ _ _ h=>h.elim
theorem QU {G:aV}{w:World}(hs:bp E G S a w){v:Value}{x:AV}(h:dh G.aZ w v x):dh (mF E.BF E.w0.heap.size) w v x:=tq hs h
abbrev TH {C:Ctx}{aZ:Nat->Nat->Prop}{w:World}(hJ:C.J w/\pz aZ w)(hn:C.oG<=w.heap.size):Env:={C:=C,w0:=w,BF:=aZ,hJ:=hJ.1,hn:=hn,mD:=none,bG:=[],loops:=[],fixed:=[]}
theorem aiU {C:Ctx}{aZ:Nat->Nat->Prop}{w:World}{n:Nat}{args:List AV}{vs:List Value}(hJ:C.J w/\pz aZ w)(hn:C.oG<=w.heap.size)(hi:∀b o,aZ b o->b<w.heap.size)(hlen:args.length<=n)(hl:vs.length=args.length)(hr:∀(i:Nat)(v:Value)(x:AV),vs[i]?=some v->args[i]?=some x->dh aZ w v x):bp (TH hJ hn) (bare aZ) (yz n args) {tmps:=vs.toArray++Array.replicate (n-vs.toArray.size) undef,defers:=[]} w:=by
 have hg:∀i:Nat,(aH args)[i]?=args[i]?.map .p:=λi=>by rw[eP,aR]
 obtain⟨hsz,ht⟩:=zN (G:=bare aZ) (w:=w) (n:=n) (vals:=vs) (args:=aH args) (by rw[iZ,hl]) (by rw[iZ];omega) λi v x h1 h2=>by rw[hg]at h2;obtain⟨y,h3,rfl⟩:=qc.1 h2;exact .p _ _ (hr i v y h1 h3)
 refine⟨⟨rfl,rfl,rfl,ay _,λ_ _ _=>rfl,λk _ _ _ hk=>by simp_all⟩,hsz,⟨⟨(λo l h=>by cases h),(λo b h=>by cases h),(λo o' b h=>by cases h),(λq x h=>by cases h),(λq r h=>by cases h),(λq q' r h=>by cases h),(λo o' b h=>by cases h),(λo T z k l b fW es h=>by cases h)⟩,rfl,λi vs fr h=>by grind,rfl,λi k r st h=>by grind,λi j k r r' h=>by grind,λi k r h=>by grind,λl h=>by grind,⟨[],rfl,by simp,by simp⟩,hJ.2⟩,⟨(λo bs h=>by cases h),(λo r h=>by cases h),(λo r h=>by cases h)⟩,λb o h=>.inl h,hi,λi hi'=>?_,(λo cells ho=>by cases ho),(λo b h=>by cases h),(λo o' b h=>by cases h),(λo t b r h=>by cases h),(λt b s e T h=>by cases h),(λt t' b r r' h=>by cases h)⟩;have :=ht i hi';simp only[wY,hg]at this;simp only[yz];grind
theorem sJ {C:Ctx}{call:iw}(hco:mc C call){f:FuncId}{fn:Func}{c:Code}{args:List AV}{R:cQ->Prop}(hf:C.P.funcs[f]?=some fn)(hb:fn.body=some c)(hname:(fn.name== "runtime.NumGoroutine")=false)(hlen:args.length<=fn.ntmps)(h:uM C call jC c (uN C fn.results.toList R) (yz fn.ntmps args)):ak C f args R:=by
 refine⟨⟨fn,hf,by simp_all,hname⟩,λaZ w vs hJ hn hi hl hr=>?_⟩;have hs:=aiU (n:=fn.ntmps) hJ hn hi hlen hl hr;refine(callsIn_wide (n:=0)).1 (callsIn_of_wp_marks hf hb trivial ?_ rfl);refine wpIn_mono (tN c (E:=TH hJ hn) hco (uS _) h ⟨_,hs⟩) ?_;have fin:∀{S':ai}{a':Act}{w':World},zh C fn.results.toList R S'->pV (TH hJ hn) S' a' w'->LeavesInM Fence.wide 0 C.P fn a'.tmps (λe w'=>∃v r,e=.returned v/\R r/\nk aZ w.heap.size w' v r/\Below w.heap.size w w') a'.defers .returning w':=λ{S' a' w'} hq ⟨G',hs'⟩=>by obtain⟨ms',hm',-,-⟩:=hs'.ext'.marks;rw[hm'];refine AE (E:=TH hJ hn) ms' rfl hs' rfl hm' λG2 a2 w2 hs2 ht2 hd2=>?_;obtain⟨v,r,h1,h2,h3⟩:=IF hs2 hq;rw[<-ht2];exact⟨v,h1,v,r,rfl,h2,h3,hs2.kept.os,hs2.kept.tape,hs2.kept.output,hs2.kept.size,λk hk=>hs2.kept.block k hk (by simp)⟩
 rintro e a' w' ⟨S',hq,hs'⟩;cases e with
 |normal=>exact fin hq hs'
 |ret=>exact fin hq hs'
 |_=>exact hq.elim
theorem KU {C:Ctx}{f:FuncId}{fn:Func}{c:Code}{args:List AV}{R:cQ->Prop}(hf:C.P.funcs[f]?=some fn)(hb:fn.body=some c)(hname:(fn.name== "runtime.NumGoroutine")=false)(hlen:args.length<=fn.ntmps)(h:ev C c (uN C fn.results.toList R) (yz fn.ntmps args)):ak C f args R:=sJ (Dt C 6) hf hb hname hlen h
theorem QV {C:Ctx}{f:FuncId}{fn:Func}{c:Code}{cells args:List AV}{R:AV->List AV->Prop}(hf:C.P.funcs[f]?=some fn)(hb:fn.body=some c)(hname:(fn.name== "runtime.NumGoroutine")=false)(hlen:args.length+1<=fn.ntmps)(h:ev C c (PT C fn.results.toList cells.length R) (VE fn.ntmps cells args)):HO C f cells args R:=by
 refine⟨⟨fn,hf,by simp_all,hname⟩,λaZ w b vs hJ hn hi hbn aed hbi hbc hl hr=>?_⟩;let E:Env:={C:=C,w0:=w,BF:=aZ,hJ:=hJ.1,hn:=hn,mD:=none,bG:=[],loops:=[],fixed:=[],own:=[b],hown:=λk hk=>by simp_all};let G0:aV:=⟨aZ,λo=>if o=999999 then some b else none,λ_=>none,λ_=>none,λ_=>none,λ_=>none,λ_=>none⟩;have oz:∀(i:Nat)(v:Value)(x:FV),(Value.pointer (some ⟨b,0,none⟩)::vs)[i]?=some v->(FV.ptr 999999 0::aH args)[i]?=some x->aT G0 w v x:=λi v x h1 h2=>by
  cases i with
  |zero=>simp at h1 h2;subst h1;subst h2;exact .ptr _ _ _ rfl
  |succ i=>
   simp only[mb,eP,aR]at h1 h2;cases hq:args[i]?with
   |none=>simp_all
   |some y=>simp[hq]at h2;subst h2;exact .p _ _ (hr i v y h1 hq)
 obtain⟨hsz,ht⟩:=zN (n:=fn.ntmps) (vals:=Value.pointer (some ⟨b,0,none⟩)::vs) (args:=FV.ptr 999999 0::aH args) (by simp[eP,hl]) (by simp[eP];omega) oz;have hs:bp E G0 (VE fn.ntmps cells args) {tmps:=(Value.pointer (some ⟨b,0,none⟩)::vs).toArray++Array.replicate (fn.ntmps-(Value.pointer (some ⟨b,0,none⟩)::vs).toArray.size) undef,defers:=[]} w:=by
  refine⟨⟨rfl,rfl,rfl,ay _,λ_ _ _=>rfl,λk cs T fr _ q=>⟨cs,q,rfl⟩⟩,hsz,⟨⟨(λo l h=>by cases h),(λo b h=>by grind),(λo o' b h=>by grind),(λq x h=>by cases h),(λq r h=>by grind),(λq q' r h=>by grind),(λo o' b h=>by grind),(λo T z k l b fW es h=>by grind)⟩,rfl,λi vs fr h=>by grind,rfl,λi k r st h=>by grind,λi j k r r' h=>by grind,λi k r h=>by simp_all,λl h=>by simp_all,⟨[],rfl,by grind,by grind⟩,hJ.2⟩,⟨(λo bs h=>by cases h),(λo r h=>by grind),(λo r h=>by grind)⟩,λb o h=>.inl h,hi,λi hi'=>ht i hi',(λo cs ho=>?_),(λo b2 h=>?_),(λo o' b2 h h'=>?_),(λo t b r _ h=>by grind),(λt b s e T h=>by grind),(λt t' b r r' h=>by grind)⟩;simp only[VE,getObj]at ho;split at ho;rename_i hq;obtain rfl:=aP hq;obtain rfl:=au ho;refine⟨b,rfl,λi x hx=>?_⟩;rw[eP,aR]at hx;cases hq:cells[i]?with
  |none=>simp_all
  |some y=>simp[hq]at hx;subst hx;obtain⟨c,h1,h2⟩:=hbc i y hq;exact⟨c,h1,.p _ _ h2⟩
  simp_all;simp only[G0]at h;split at h;rename_i e;obtain rfl:=au h;exact⟨aed,.inr ⟨e,[],rfl⟩,hbi⟩;simp_all;grind
 refine(callsIn_wide (n:=0)).1 (callsIn_of_wp_marks hf hb trivial ?_ rfl);refine wpIn_mono (tN c (E:=E) (Dt C 6) (uS E) h ⟨_,hs⟩) ?_;have fin:∀{S':ai}{a':Act}{w':World},Ay C fn.results.toList cells.length R S'->pV E S' a' w'->LeavesInM Fence.wide 0 C.P fn a'.tmps (λe w'=>∃v r cells',e=.returned v/\R r cells'/\cells'.length=cells.length/\dh (mF aZ w.heap.size) w' v r/\(∀(i:Nat)(x:AV),cells'[i]?=some x->∃c,w'.cell? ⟨b,i,none⟩=some c/\dh (mF aZ w.heap.size) w' c x)/\w'.os=w.os/\w'.tape=w.tape/\w'.output=w.output/\w.heap.size<=w'.heap.size/\(∀k,k<w.heap.size->k≠b->w'.heap[k]?=w.heap[k]?)/\(∀cs T fr,w.heap[b]?=some (.cells cs T fr)->∃cs',w'.heap[b]?=some (.cells cs' T fr)/\cs'.size=cs.size)) a'.defers .returning w':=λ{S' a' w'} hq ⟨G',hs'⟩=>by obtain⟨ms',hm',-,-⟩:=hs'.ext'.marks;rw[hm'];refine AE (E:=E) ms' rfl hs' rfl hm' λG2 a2 w2 hs2 ht2 hd2=>?_;unfold Ay at hq;obtain⟨vs,xs,r1,r2,r3,r4,r5⟩:=qf hs2 _ _ hq;split at r2;rename_i r cs hr2 ho;split at r2;rename_i ys hys;obtain⟨hn,r2⟩:=r2;rw[<-ht2];obtain⟨b2,g1,g2⟩:=hs2.aN 999999 cs ho;obtain⟨g3,g4⟩:=FV.jg hys;obtain rfl:b2=b:=Env.ZS (E:=E) (hs2.iz _ _ g1).2.1 rfl;refine⟨_,kS fn a2.tmps E.C.P w2 r1,_,r,ys,rfl,r2,aP hn,QU hs2 ((Ds r4 r5).fh hr2),λi x hx=>?_,hs2.kept.os,hs2.kept.tape,hs2.kept.output,hs2.kept.size,λk hk hkb=>hs2.kept.block k hk (by grind),λc1 T fr h=>hs2.kept.shape _ c1 T fr (by rfl) h⟩;obtain⟨y,hy,hxy⟩:=g4 i x hx;obtain⟨c,q1,q2⟩:=g2 i y hy;exact⟨c,q1,QU hs2 (q2.fh hxy)⟩;simp_all;simp_all
 rintro e a' w' ⟨S',hq,hs'⟩;cases e with
 |normal=>exact fin hq hs'
 |ret=>exact fin hq hs'
 |_=>exact hq.elim
end
section
variable {E:Env}{G:aV}{S:ai}{a:Act}{w:World}
theorem ak.mono {C:Ctx}{f:FuncId}{args:List AV}{R R':cQ->Prop}(h:ak C f args R)(hr:∀r,R r->R' r):ak C f args R':=⟨h.1,λaZ w vs a b c d e=>(h.2 aZ w vs a b c d e).mono λ_ _ ⟨v,r,h1,h2,h3⟩=>⟨v,r,h1,hr _ h2,h3⟩⟩
def Gn:List (Nat×FV)->Nat->FV|[],_=>.dF|(j,v)::r,i=>match Nat.beq i j with|true=>v|false=>Gn r i
def QW:List (Nat×Nat×List (Nat×FV))->List Fr|[]=>[]|(n,off,rel)::r=>⟨n,off,Gn rel⟩::QW r
def sg (n off:Nat)(rel:List (Nat×FV))(aN:List (Nat×List FV))(bG:List (Nat×Nat×List (Nat×FV)))(bZ:List yN)(cL:List (Nat×List UInt8):=[]):ai:={n:=n,off:=off,tmps:=Gn rel,aN:=aN,bG:=QW bG,bZ:=bZ,cL:=cL}
def yP (f:Nat->FV):List (Nat×FV)->Prop|[]=>True|(j,v)::r=>aF (f j) v/\yP f r
def KV:List Fr->List (Nat×Nat×List (Nat×FV))->Prop|[],[]=>True|f::fs,(n,off,rel)::r=>(n,off)=(f.n,f.off)/\yP f.tmps rel/\KV fs r|_,_=>False
def Bd (aN:List (Nat×List FV)):List (Nat×List FV)->Prop|[]=>True|(o,ys)::r=>(∃xs,Qv.getObj aN o=some xs/\xs.length=ys.length/\∀(i:Nat)(x y:FV),xs[i]?=some x->ys[i]?=some y->aF x y)/\Bd aN r
theorem AF {f:Nat->FV}:∀{rel:List (Nat×FV)},yP f rel->∀i,aF (f i) (Gn rel i)|[],_,_=>aF.dF _|(j,v)::rel,h,i=>by simp only[Gn];split;rename_i hb;obtain rfl:=aP hb;exact h.1;exact AF h.2 i
theorem VY:∀{fs:List Fr}{l:List (Nat×Nat×List (Nat×FV))},KV fs l->(QW l).length=fs.length/\∀(i:Nat)(f f':Fr),fs[i]?=some f->(QW l)[i]?=some f'->f'.n=f.n/\f'.off=f.off/\∀j,aF (f.tmps j) (f'.tmps j)
 |[],[],_=>⟨rfl,by simp⟩
 |f::fs,(n,off,rel)::r,h=>by
  obtain⟨h1,h2,h3⟩:=h;obtain⟨h4,h5⟩:=VY h3;injection h1 with e1 e2;refine⟨by simp[QW,h4],λi g g' hg hg'=>?_⟩;cases i with
  |zero=>simp[QW]at hg hg';subst hg;subst hg';exact⟨e1,e2,AF h2⟩
  |succ i=>simp[QW]at hg hg';grind
 |[],_::_,h=>h.elim
 |_::_,[],h=>h.elim
def II (l:List (Nat×List UInt8)):List (Nat×List UInt8)->Prop|[]=>True|(o,bs)::r=>lN l o=some bs/\II l r
theorem QX {l:List (Nat×List UInt8)}{o:Nat}{bs:List UInt8}:∀{r:List (Nat×List UInt8)},II l r->lN r o=some bs->lN l o=some bs
 |[],_,h=>by cases h
 |(u,c)::r,hb,h=>by simp only[lN]at h;split at h;rename_i hu;obtain rfl:=aP hu;obtain rfl:=au h;exact hb.1;exact QX hb.2 h
theorem BL {l:List (Nat×List FV)}{o:Nat}{ys:List FV}:∀{r:List (Nat×List FV)},Bd l r->Qv.getObj r o=some ys->∃xs,Qv.getObj l o=some xs/\xs.length=ys.length/\∀(i:Nat)(x y:FV),xs[i]?=some x->ys[i]?=some y->aF x y
 |[],_,h=>by cases h
 |(u,c)::r,hb,h=>by simp only[Qv.getObj]at h;split at h;rename_i hu;obtain rfl:=aP hu;obtain rfl:=au h;exact hb.1;exact BL hb.2 h
def Kz (n off:Nat)(rel:List (Nat×FV))(aN:List (Nat×List FV))(bG:List (Nat×Nat×List (Nat×FV)))(bZ:List yN)(cL:List (Nat×List UInt8))(maps:List (Nat×List (AV×FV)))(iM:List (Nat×(Option (AV×AV)×List (AV×AV)))):ai:={n:=n,off:=off,tmps:=Gn rel,aN:=aN,bG:=QW bG,bZ:=bZ,cL:=cL,maps:=maps,iM:=iM}
def XJ (maps:List (Nat×List (AV×FV))):List (Nat×List (AV×FV))->Prop|[]=>True|(o,l')::r=>(∃l,getM maps o=some l/\l.length=l'.length/\∀(i:Nat)(p p':AV×FV),l[i]?=some p->l'[i]?=some p'->p'.1=p.1/\aF p.2 p'.2)/\XJ maps r
def XK (iM:List (Nat×(Option (AV×AV)×List (AV×AV)))):List (Nat×(Option (AV×AV)×List (AV×AV)))->Prop|[]=>True|(q,x)::r=>getM iM q=some x/\XK iM r
theorem QY {l:List (Nat×List (AV×FV))}{o:Nat}{ys:List (AV×FV)}:∀{r:List (Nat×List (AV×FV))},XJ l r->getM r o=some ys->∃xs,getM l o=some xs/\xs.length=ys.length/\∀(i:Nat)(p p':AV×FV),xs[i]?=some p->ys[i]?=some p'->p'.1=p.1/\aF p.2 p'.2
 |[],_,h=>by cases h
 |(u,c)::r,hb,h=>by simp only[getM]at h;split at h;rename_i hu;obtain rfl:=aP hu;obtain rfl:=au h;exact hb.1;exact QY hb.2 h
theorem QZ {l:List (Nat×(Option (AV×AV)×List (AV×AV)))}{q:Nat}{x:Option (AV×AV)×List (AV×AV)}:∀{r:List (Nat×(Option (AV×AV)×List (AV×AV)))},XK l r->getM r q=some x->getM l q=some x
 |[],_,h=>by cases h
 |(u,c)::r,hb,h=>by simp only[getM]at h;split at h;rename_i hu;obtain rfl:=aP hu;obtain rfl:=au h;exact hb.1;exact QZ hb.2 h
theorem nB {maps:List (Nat×List (AV×FV))}{o:Nat}{l:List (AV×FV)}(h:getM maps o=some l):∃l0,getM maps o=some l0/\l0.length=l.length/\∀(i:Nat)(p p':AV×FV),l0[i]?=some p->l[i]?=some p'->p'.1=p.1/\aF p.2 p'.2:=⟨l,h,rfl,λi p p' h1 h2=>by rw[h1]at h2;obtain rfl:=au h2;exact⟨rfl,aF.refl _⟩⟩
theorem iG {n off:Nat}{rel:List (Nat×FV)}{aN:List (Nat×List FV)}{bG:List (Nat×Nat×List (Nat×FV))}{bZ:List yN}{cL:List (Nat×List UInt8)}{maps:List (Nat×List (AV×FV))}{iM:List (Nat×(Option (AV×AV)×List (AV×AV)))}(hn:(n,off,bZ)=(S.n,S.off,S.bZ))(h1:yP S.tmps rel)(h2:Bd S.aN aN)(h3:KV S.bG bG)(h4:II S.cL cL)(h5:XJ S.maps maps)(h6:XK S.iM iM):bM S (Kz n off rel aN bG bZ cL maps iM):=by
 injection hn with e1 e2;injection e2 with e2 e3;refine⟨e1,e2,e3,λo bs q=>⟨QX h4 q,λq2=>?_⟩,VY h3,λi=>AF h1 i,λo ys ho=>BL h2 ho,λo l hl=>QY h5 hl,λq x hx=>QZ h6 hx⟩;cases hq:Qv.getObj aN o with
 |none=>exact hq
 |some ys=>obtain⟨xs,h5,-⟩:=BL h2 hq;simp_all
theorem bw {n off:Nat}{rel:List (Nat×FV)}{aN:List (Nat×List FV)}{bG:List (Nat×Nat×List (Nat×FV))}{bZ:List yN}{cL:List (Nat×List UInt8)}(hn:(n,off,bZ)=(S.n,S.off,S.bZ))(h1:yP S.tmps rel)(h2:Bd S.aN aN)(h3:KV S.bG bG)(h4:II S.cL cL):bM S (sg n off rel aN bG bZ cL):=iG (maps:=[]) (iM:=[]) hn h1 h2 h3 h4 trivial trivial
theorem we {C:Ctx}{call:iw}{Y:pE}{c:Code}{Q:Exit->ai->Prop}{α:Type}(n off:Nat)(rel:α->List (Nat×FV))(aN:α->List (Nat×List FV))(bG:α->List (Nat×Nat×List (Nat×FV)))(bZ:List yN)(cL:α->List (Nat×List UInt8))(maps:α->List (Nat×List (AV×FV)))(iM:α->List (Nat×(Option (AV×AV)×List (AV×AV))))(Inv:α->Prop)(μ:α->Nat)(x0:α)(h0:Inv x0)(hn:(n,off,bZ)=(S.n,S.off,S.bZ))(h1:yP S.tmps (rel x0))(h2:Bd S.aN (aN x0))(h3:KV S.bG (bG x0))(h4:II S.cL (cL x0))(h5:XJ S.maps (maps x0))(h6:XK S.iM (iM x0))(round:∀x,Inv x->uM C call Y c (uK (λS'=>∃x' uE,bM S' uE/\(Inv x'/\uE=Kz n off (rel x') (aN x') (bG x') bZ (cL x') (maps x') (iM x'))/\μ x'<μ x) Q) (Kz n off (rel x) (aN x) (bG x) bZ (cL x) (maps x) (iM x))):∃(α:Type) (I:α->ai->Prop) (μ:α->Nat),(∃a S',bM S S'/\I a S')/\∀a S,I a S->uM C call Y c (uK (λS'=>∃a' uE,bM S' uE/\I a' uE/\μ a'<μ a) Q) S:=⟨α,λx S=>Inv x/\S=Kz n off (rel x) (aN x) (bG x) bZ (cL x) (maps x) (iM x),μ,⟨x0,_,iG hn h1 h2 h3 h4 h5 h6,h0,rfl⟩,λx S ⟨hI,hS⟩=>hS▸round x hI⟩
theorem mU {S':ai}{α:Type}{n off:Nat}{rel:α->List (Nat×FV)}{aN:α->List (Nat×List FV)}{bG:α->List (Nat×Nat×List (Nat×FV))}{bZ:List yN}{cL:α->List (Nat×List UInt8)}{maps:α->List (Nat×List (AV×FV))}{iM:α->List (Nat×(Option (AV×AV)×List (AV×AV)))}{Inv:α->Prop}{μ:α->Nat}{x:α}(x':α)(h0:Inv x')(hμ:μ x'<μ x)(hn:(n,off,bZ)=(S'.n,S'.off,S'.bZ))(h1:yP S'.tmps (rel x'))(h2:Bd S'.aN (aN x'))(h3:KV S'.bG (bG x'))(h4:II S'.cL (cL x'))(h5:XJ S'.maps (maps x'))(h6:XK S'.iM (iM x')):∃x' uE,bM S' uE/\(Inv x'/\uE=Kz n off (rel x') (aN x') (bG x') bZ (cL x') (maps x') (iM x'))/\μ x'<μ x:=⟨x',_,iG hn h1 h2 h3 h4 h5 h6,⟨h0,rfl⟩,hμ⟩
theorem aiV {S:ai}(n off:Nat)(rel:List (Nat×FV))(aN:List (Nat×List FV))(bG:List (Nat×Nat×List (Nat×FV)))(bZ:List yN)(cL:List (Nat×List UInt8))(maps:List (Nat×List (AV×FV)))(iM:List (Nat×(Option (AV×AV)×List (AV×AV)))){K:ai->Prop}(hn:(n,off,bZ)=(S.n,S.off,S.bZ))(h1:yP S.tmps rel)(h2:Bd S.aN aN)(h3:KV S.bG bG)(h4:II S.cL cL)(h5:XJ S.maps maps)(h6:XK S.iM iM)(h:K (Kz n off rel aN bG bZ cL maps iM)):∃T,bM S T/\K T:=⟨_,iG hn h1 h2 h3 h4 h5 h6,h⟩
theorem XL (aN:List (Nat×List FV))(xs:List FV)(o:Nat)(h:Qv.getObj aN o=some xs):∃ys,Qv.getObj aN o=some ys/\ys.length=xs.length/\∀(i:Nat)(x y:FV),ys[i]?=some x->xs[i]?=some y->aF x y:=Gl h
theorem aC {aN:List (Nat×List FV)}{o:Nat}{xs:List FV}(h:Qv.getObj aN o=some xs):∃ys,Qv.getObj aN o=some ys/\ys.length=xs.length/\∀(i:Nat)(x y:FV),ys[i]?=some x->xs[i]?=some y->aF x y:=XL aN xs o h
theorem um {C:Ctx}{call:iw}{Y:pE}{c:Code}{Q:Exit->ai->Prop}{α:Type}(n off:Nat)(rel:α->List (Nat×FV))(aN:α->List (Nat×List FV))(bG:α->List (Nat×Nat×List (Nat×FV)))(bZ:List yN)(cL:α->List (Nat×List UInt8))(Inv:α->Prop)(μ:α->Nat)(x0:α)(h0:Inv x0)(hn:(n,off,bZ)=(S.n,S.off,S.bZ))(h1:yP S.tmps (rel x0))(h2:Bd S.aN (aN x0))(h3:KV S.bG (bG x0))(h4:II S.cL (cL x0))(round:∀x,Inv x->uM C call Y c (uK (λS'=>∃x' uE,bM S' uE/\(Inv x'/\uE=sg n off (rel x') (aN x') (bG x') bZ (cL x'))/\μ x'<μ x) Q) (sg n off (rel x) (aN x) (bG x) bZ (cL x))):∃(α:Type) (I:α->ai->Prop) (μ:α->Nat),(∃a S',bM S S'/\I a S')/\∀a S,I a S->uM C call Y c (uK (λS'=>∃a' uE,bM S' uE/\I a' uE/\μ a'<μ a) Q) S:=⟨α,λx S=>Inv x/\S=sg n off (rel x) (aN x) (bG x) bZ (cL x),μ,⟨x0,_,bw hn h1 h2 h3 h4,h0,rfl⟩,λx S ⟨hI,hS⟩=>hS▸round x hI⟩
theorem iH {S':ai}{α:Type}{n off:Nat}{rel:α->List (Nat×FV)}{aN:α->List (Nat×List FV)}{bG:α->List (Nat×Nat×List (Nat×FV))}{bZ:List yN}{cL:α->List (Nat×List UInt8)}{Inv:α->Prop}{μ:α->Nat}{x:α}(x':α)(h0:Inv x')(hμ:μ x'<μ x)(hn:(n,off,bZ)=(S'.n,S'.off,S'.bZ))(h1:yP S'.tmps (rel x'))(h2:Bd S'.aN (aN x'))(h3:KV S'.bG (bG x'))(h4:II S'.cL (cL x')):∃x' uE,bM S' uE/\(Inv x'/\uE=sg n off (rel x') (aN x') (bG x') bZ (cL x'))/\μ x'<μ x:=⟨x',_,bw hn h1 h2 h3 h4,⟨h0,rfl⟩,hμ⟩
theorem agd {C:Ctx}{call:iw}{Y:pE}{c:Code}{Q:Exit->ai->Prop}{α:Type}(n:Nat)(rel:α->List (Nat×FV))(aN:α->List (Nat×List FV))(cL:α->List (Nat×List UInt8))(Inv:α->Prop)(μ:α->Nat)(x0:α)(h0:Inv x0)(hn:(n,0,[],[])=(S.n,S.off,S.bZ,S.bG))(h1:yP S.tmps (rel x0))(h2:Bd S.aN (aN x0))(h4:II S.cL (cL x0))(round:∀x,Inv x->uM C call Y c (uK (λS'=>∃x' uE,bM S' uE/\(Inv x'/\uE=sg n 0 (rel x') (aN x') [] [] (cL x'))/\μ x'<μ x) Q) (sg n 0 (rel x) (aN x) [] [] (cL x))):∃(α:Type) (I:α->ai->Prop) (μ:α->Nat),(∃a S',bM S S'/\I a S')/\∀a S,I a S->uM C call Y c (uK (λS'=>∃a' uE,bM S' uE/\I a' uE/\μ a'<μ a) Q) S:=by injection hn with e1 e2;injection e2 with e2 e3;injection e3 with e3 e4;exact um n 0 rel aN (λ_=>[]) [] cL Inv μ x0 h0 (by simp_all) h1 h2 (by rw[<-e4];trivial) h4 round
theorem aiW {S':ai}{α:Type}{n:Nat}{rel:α->List (Nat×FV)}{aN:α->List (Nat×List FV)}{cL:α->List (Nat×List UInt8)}{Inv:α->Prop}{μ:α->Nat}{x:α}(x':α)(h0:Inv x')(hμ:μ x'<μ x)(hn:(n,0,[],[])=(S'.n,S'.off,S'.bZ,S'.bG))(h1:yP S'.tmps (rel x'))(h2:Bd S'.aN (aN x'))(h4:II S'.cL (cL x')):∃x' uE,bM S' uE/\(Inv x'/\uE=sg n 0 (rel x') (aN x') [] [] (cL x'))/\μ x'<μ x:=by injection hn with e1 e2;injection e2 with e2 e3;injection e3 with e3 e4;exact⟨x',_,bw (by simp_all) h1 h2 (by rw[<-e4];trivial) h4,⟨h0,rfl⟩,hμ⟩
theorem bu {C:Ctx}{call:iw}{Y:pE}{c:Code}{Q:Exit->ai->Prop}{α:Type}(n:Nat)(rel:α->List (Nat×FV))(aN:α->List (Nat×List FV))(Inv:α->Prop)(μ:α->Nat)(x0:α)(h0:Inv x0)(hn:(n,0,[],[])=(S.n,S.off,S.bZ,S.bG))(h1:yP S.tmps (rel x0))(h2:Bd S.aN (aN x0))(round:∀x,Inv x->uM C call Y c (uK (λS'=>∃x' uE,bM S' uE/\(Inv x'/\uE=sg n 0 (rel x') (aN x') [] [])/\μ x'<μ x) Q) (sg n 0 (rel x) (aN x) [] [])):∃(α:Type) (I:α->ai->Prop) (μ:α->Nat),(∃a S',bM S S'/\I a S')/\∀a S,I a S->uM C call Y c (uK (λS'=>∃a' uE,bM S' uE/\I a' uE/\μ a'<μ a) Q) S:=agd n rel aN (λ_=>[]) Inv μ x0 h0 hn h1 h2 trivial round
theorem aO {S':ai}{α:Type}{n:Nat}{rel:α->List (Nat×FV)}{aN:α->List (Nat×List FV)}{Inv:α->Prop}{μ:α->Nat}{x:α}(x':α)(h0:Inv x')(hμ:μ x'<μ x)(hn:(n,0,[],[])=(S'.n,S'.off,S'.bZ,S'.bG))(h1:yP S'.tmps (rel x'))(h2:Bd S'.aN (aN x')):∃x' uE,bM S' uE/\(Inv x'/\uE=sg n 0 (rel x') (aN x') [] [])/\μ x'<μ x:=aiW (cL:=λ_=>[]) x' h0 hμ hn h1 h2 trivial
end
end Qv
