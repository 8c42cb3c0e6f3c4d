/- Part 6 of the proof: its lemmas. No condition. -/
import Derived.Test.YtiboombocnfngaaGreatDoorW5
import Derived.Sort.LoopGhostIn
import Derived.OpenShut
import Derived.RowKit
import Derived.ChangeBears
import Derived.Below
import Derived.Carry
import Derived.ChangeOld
import Derived.ChangeSame
import Derived.Lib.LaidTab
import Derived.Test.YtiboombocnfngaaGreatDoorProg
import Derived.KernelRfl
import Derived.Lib.ItoaNum
set_option maxRecDepth 10000
set_option maxHeartbeats 80000000
set_option linter.all false
namespace Qv
open Go Go.RowKit
section
variable {E:Env}{G:bl}{S:an}{a:Act}{w:World}
theorem KH (hs:bA E G S a w)(fn:FuncId)(ps:Array Tmp)(assign body:Code):∃(l:Nat) (ms:List Nat) (w1:World) (rec:Loop),(Instr.enterLoop fn a.tmps ps assign body E.mD).run E.C.P w=.ok (l,ms.map mark) w1/\Below w.heap.size w w1/\rec.tmps=a.tmps/\rec.params=ps/\rec.assign=assign/\rec.body=body/\rec.state=.ready/\rec.pending=none/\w1.heap[l]?=some (.loop rec)/\w.heap.size<=l/\(∀m,m∈ms->w.heap.size<=m/\w1.heap[m]?=some (.deferred (some [])))/\ms.Nodup:=by
 cases hr:E.mD with
 |none=>refine⟨_,[w.heap.size],_,{state:=.ready,pending:=none,fn,tmps:=a.tmps,params:=ps,assign,body,defers:=w.heap.size},run_enterLoop_outer fn a.tmps ps assign body,?_,rfl,rfl,rfl,rfl,rfl,rfl,?_,oO,λm hm=>?_,by simp⟩;exact((Below.refl _ w).alloc (aB _) _).alloc (by simp) _;have :=World.alloc_heap_new (w.alloc (.deferred (some []))) (.loop {state:=.ready,pending:=none,fn,tmps:=a.tmps,params:=ps,assign,body,defers:=w.heap.size});simp_all;obtain rfl:=aO.1 hm;exact⟨aB _,(Below.heap_alloc _ _ _ (by simp)).trans (World.alloc_heap_new w _)⟩
 |some l0=>
  obtain⟨i,r,h1⟩:=hs.ext'.mD l0 hr;have hlt:i<S.cO.length:=by rw[hs.ext'.kP];exact(aI.1 h1).1
  obtain⟨h2,h3⟩:=hs.ext'.loops i l0 r _ h1 (ay hlt);refine⟨_,[],_,{state:=.ready,pending:=none,fn,tmps:=a.tmps,params:=ps,assign,body,defers:=((S.cO[i]).of r).defers},run_enterLoop_inner h3 fn a.tmps ps assign body,?_,rfl,rfl,rfl,rfl,rfl,rfl,World.alloc_heap_new w _,aB _,by simp,by simp⟩;exact(Below.refl _ w).alloc (aB _) _
theorem Gg {call:iR}{Y:pn}(dO:ni E.C call)(hY:fh E Y){assign body:Code}(ha:IJ assign)(hb:IJ body){g:Operand}{ps:Array Tmp}{Q:Exit->an->Prop}(hs:bA E G S a w){f:FuncId}{cs:List Value}{captured:List FV}(hg:a.eval g=.func (.func f) #[] cs.toArray)(hcs:cs.length=captured.length)(oD:∀(i:Nat)(c:Value)(x:FV),cs[i]?=some c->captured[i]?=some x->aU G w c x)(h:call (wX Y (yQ E.C call Y assign) (yQ E.C call Y body) ps.toList S.cO.length S.bM.length) f (.mh (1000000+S.cO.length)::FV.fu (1000000+S.cO.length) captured) (λ_ S'=>CP S.cO.length Q S') {S.kill (1000000+S.cO.length)with cO:=S.cO++[.ready]}):(Code.rangeFunc g ps assign body).wpIn E.jv 0 E.C.P (λe a' w'=>∃S',Q e S'/\nT E S' a' w') a w:=by
 refine wpIn_rangeFunc λfn hfn=>?_;obtain⟨l,ms,w1,rec,hrun,GR,YW,VF,hr3,hr4,hr5,hr6,hl,alf,yC,Ti⟩:=KH hs fn ps assign body;have hs1:=hs.ext GR;have alg:∀v x,aU G w v x->aU {G with br:=λb o=>G.br b o\/(w.heap.size<=b/\b<w1.heap.size)} w1 v x:=λv x hv=>hv.keep (λb o hi=>.inl hi) (λb o c hi hc=>by rw[GR.cell (p:=⟨b,o,none⟩) (hs.fJ b o hi)];omega) ((gy.CS GR).qf _) (λ_ _ e=>e) (λ_ _ e=>e);obtain⟨ms0,hm1,hm2,hm3⟩:=hs.ext'.marks;have hold:∀r,r∈ms0++E.fixed->r<w.heap.size:=λr hr=>(bz.1 (hm3 r hr).2).1;obtain⟨G1,hs2,Vx,hup⟩:=hs1.aae (l:=l) (rec:=rec) (ms:=ms) (by rw[QE rec hr5 hr6];omega) (cg hs.kept.size alf) (λi k r q=>by
  have hlt:i<S.cO.length:=by rw[hs.ext'.kP];exact(aI.1 q).1
  obtain⟨-,q2⟩:=hs.ext'.loops i k r _ q (ay hlt);grind) (λm hm=>⟨cg hs.kept.size (yC m hm).1,(yC m hm).2⟩) (by rw[hm1,mu];grind);have hlv:S.cO.length=E.loops.length:=hs.ext'.kP;have YS:S.bM.length=E.bM.length:=hs.ext'.lR;have hYr:=QF (E:=E) dO hY ha hb (a1:={a with defers:=ms.map mark++a.defers}) (l:=l) (rec:=rec) (aaf:=marksOf (ms.map mark++a.defers)++E.fixed) YW hr3 hr4 hr5 hr6;rw[VF,<-hlv,<-YS]at hYr;obtain⟨⟨func,hf1,KI,hf3⟩,agN⟩:=dO {E with loops:=E.loops++[(l,rec)]} rfl _ f _ _ G1 _ _ w1 (.func (.yield l) #[] #[]::cs) hs2 hYr h (by simp[FV.fT,hcs]) (λi c x hc hx=>by
  cases i with
  |zero=>simp at hc hx;subst hc;subst hx;exact .mh _ l Vx
  |succ i=>simp only[mI]at hc hx;rw[FV.fT,aM]at hx;grind)
 refine⟨l,ms.map mark,w1,{target:=.fn (.func f) cs.toArray,args:=#[.func (.yield l) #[] #[]]},w1,f,(.func (.yield l) #[] #[]::cs).toArray,w1,?_,?_,λf' _=>Env.gD f',?_,λh=>(by rw[Env.kU]at h;grind),Qt (CallsIn.mono agN ?_)⟩;rw[Env.zm];omega;simp only[resolve,hg];simp[go_sem];have h3':¬func.name= "runtime.NumGoroutine" :=by simpa using hf3
 have h2':¬func.body=none:=λe=>by simp_all
 simp[invoke,callFunc,hf1,h2',h3'];rintro e w' ⟨v,x,G',S',rfl,hq,hs',-⟩;unfold CP at hq;have hrn:∀q,E.mD=some q->∃(i:Nat) (r:Loop),E.loops[i]?=some (q,r):=hs.ext'.mD;have fin:∀{st:Az},HV S'.cO S.cO.length=some st->(st.of rec).state≠.busy->∃w4,(Instr.endLoop l).run E.C.P w'=.ok (st.of rec).pending w4/\bA E G' {S' with cO:=S'.cO.take S.cO.length} {a with defers:=ms.map mark++a.defers} w4:=λ{st} hst hnb=>by rw[hlv]at hst;obtain⟨-,hl4⟩:=hs'.Ff (i:=E.loops.length) (k:=l) (r:=rec) (by simp_all) hst;refine⟨_,run_endLoop hl4 hnb,?_⟩;have :=bA.adS (E:=E) hs' hst hrn (o':={st.of rec with state:=.exhausted});simp_all
 split at hq;rename_i hst;obtain⟨w4,he,hs4⟩:=fin hst (by simp[Az.of]);exact⟨_,w4,he,_,hq,G',hs4⟩;rename_i hst;obtain⟨w4,he,hs4⟩:=fin hst (by simp[Az.of]);exact⟨_,w4,he,wpIn_ret ⟨_,hq,G',hs4⟩⟩;rename_i id hst;obtain⟨w4,he,hs4⟩:=fin hst (by simp[Az.of]);exact⟨_,w4,he,wpIn_exit ⟨_,hq,G',hs4⟩⟩;simp_all
theorem ud (c:Code):IJ c:=by
 induction c with
 |skip=>intro E call Y dO hY Q S a w h hs;exact wpIn_skip ⟨S,h,hs⟩
 |region id ops draw=>intro E call Y dO hY Q S a w h hs;unfold yQ at h;split at h;obtain⟨T,hw,h⟩:=h;exact jZ dO hY (λS a w hk hs'=>⟨S,hk,hs'⟩) (hs.weaken hw) h;split at h;rcases h with⟨d,Z,rj,hf,h⟩|h;obtain⟨G,hs⟩:=hs;exact jZ dO hY (λS a w hk hs'=>⟨S,hk,hs'⟩) (hs.Pz hf) h;exact jZ dO hY (λS a w hk hs'=>⟨S,hk,hs'⟩) hs h;split at h;rcases h with⟨d,ks,vs,hf,h⟩|h;obtain⟨G,hs⟩:=hs;exact jZ dO hY (λS a w hk hs'=>⟨S,hk,hs'⟩) (hs.Pv hf) h;exact jZ dO hY (λS a w hk hs'=>⟨S,hk,hs'⟩) hs h;split at h;obtain⟨fr,h⟩:=h;obtain⟨S',h,hs'⟩:=zA fr h hs;exact jZ dO hY (λS a w hk hs'=>⟨S,hk,hs'⟩) hs' h;split at h;exact KG dO hY (λS a w hk hs'=>⟨S,hk,hs'⟩) hs h;exact jZ dO hY (λS a w hk hs'=>⟨S,hk,hs'⟩) hs h
 |seq x y ihx ihy=>
  intro E call Y dO hY Q S a w h hs;refine wpIn_seq (wpIn_mono (ihx dO hY (Q:=uR (yQ E.C call Y y Q) Q) h hs) ?_);rintro e a' w' ⟨S',hq,hs'⟩;cases e with
  |normal=>exact ihy dO hY hq hs'
  |_=>exact⟨S',hq,hs'⟩
 |cond c x y ihx ihy=>intro E call Y dO hY Q S a w h hs;have hs':=hs;obtain⟨G,hs'⟩:=hs';simp only[yQ]at h;have hv:=aU.val hs' c;split at h;rename_i ht;rw[ht]at hv;exact wpIn_cond_true hv.nF (ihx dO hY h hs);rename_i ht;rw[ht]at hv;exact wpIn_cond_false hv.nF (ihy dO hY h hs);simp_all
 |block id c ih=>
  intro E call Y dO hY Q S a w h hs;refine wpIn_block (wpIn_mono (ih dO hY (Q:=HU id Q) h hs) ?_);rintro e a' w' ⟨S',hq,hs'⟩;cases e with
  |exit n=>simp only[HU]at hq;simp only[Exit.inBlock];split at hq;rename_i hb;rw[ag (aN hb)];grind;rename_i hb;rw[af (bH hb)];grind
  |_=>exact⟨S',hq,hs'⟩
 |loop c ih=>
  intro E call Y dO hY Q S a w h hs;obtain⟨α,I,μ,⟨a0,S0,hw0,hI0⟩,round⟩:=h;refine wpIn_loop_ghost (λn a w=>∃x S,I x S/\μ x=n/\nT E S a w) (μ a0) ⟨a0,S0,hI0,rfl,hs.weaken hw0⟩ ?_;rintro n a w ⟨x,S,hI,rfl,hs⟩;refine wpIn_mono (ih dO hY (Q:=uR (λS'=>∃a' uL,cU S' uL/\I a' uL/\μ a'<μ x) Q) (round x S hI) hs) ?_;rintro e a' w' ⟨S',hq,hs'⟩;cases e with
  |normal=>obtain⟨x',uL,hw,hI',hlt⟩:=hq;exact⟨μ x',hlt,x',uL,hI',rfl,hs'.weaken hw⟩
  |_=>exact⟨S',hq,hs'⟩
 |exit id=>intro E call Y dO hY Q S a w h hs;exact wpIn_exit ⟨S,h,hs⟩
 |ret=>intro E call Y dO hY Q S a w h hs;exact wpIn_ret ⟨S,h,hs⟩
 |rangeFunc g ps assign body iha ihb=>
  intro E call Y dO hY Q S a w h hs;obtain⟨G,hs⟩:=hs;simp only[yQ,Pu]at h;have hv:=aU.val hs g;generalize LD:a.eval g=v at hv;split at h;rename_i f captured hf;rw[hf]at hv;obtain⟨fs,cs,rfl,h1,h2⟩:=Td hv;have :fs=[]:=ck.1 h1.1;subst this;have h3:=zB (G:=G) h2 rfl;have hk:FV.fu (1000000+S.cO.length) (aH captured)=aH captured:=by rw[FV.fT,eZ];simp[FV.kill]
  exact Gg dO hY iha ihb hs LD h3.1 h3.2 (by simp_all);rename_i f captured hf;rw[hf]at hv;obtain⟨fs,cs,rfl,h1,h2⟩:=NI hv;have :fs=[]:=ck.1 h1.1;subst this;exact Gg dO hY iha ihb hs LD h2.1 h2.2 h;simp_all
 |_=>intro E call Y dO hY Q S a w h hs;exact h.elim
theorem wm {n:Nat}{vals:List Value}{args:List FV}(hlen:vals.length=args.length)(hn:args.length<=n)(hr:∀(i:Nat)(v:Value)(x:FV),vals[i]?=some v->args[i]?=some x->aU G w v x):(vals.toArray++Array.replicate (n-vals.toArray.size) undef).size=n/\∀i,i<n->aU G w ((vals.toArray++Array.replicate (n-vals.toArray.size) undef).getD i undef) (uT args i):=by
 refine⟨by simp_all,λi hi=>?_⟩;have vX:(vals.toArray++Array.replicate (n-vals.toArray.size) undef).getD i undef=(vals[i]?).getD undef:=by rw[DB];by_cases hlt:i<vals.length;simp_all;simp_all
 rw[vX];unfold uT;by_cases hlt:i<args.length;grind;rw[oe oO,oe oO];exact jU _ _
theorem zI (C:Ctx):∀k,ni C (Zu C k)
 |0=>λE hC Y g args K G S a w vals hs hY h=>h.elim
 |k+1=>by
  intro E hC Y g args K G S a w vals hs hY h hlen hr;subst hC;obtain⟨fn,hf,hb,hname,hn,h⟩:=h;obtain⟨c,hc⟩:=oq.1 hb;rw[hc]at h;refine⟨⟨fn,hf,by simp_all,hname⟩,?_⟩;obtain⟨hsz,ht⟩:=wm (n:=fn.ntmps) hlen (iD hn) hr;have hs1:=hs.enter (mD:=none) hsz ht (λl h=>by grind);obtain⟨ms,yC,-,-⟩:=hs.ext'.marks;refine callsIn_of_wp_marks hf hc trivial ?_ rfl;have :=ud c (E:=E.push a) (zI E.C k) hY h ⟨_,hs1⟩;refine wpIn_mono this ?_;have fin:∀{S':an}{a':Act}{w':World},rq E.C S' fn.results.toList (λvs=>S'.leave (K (Kx vs)))->nT (E.push a) S' a' w'->LeavesInM Fence.wide 0 E.C.P fn a'.tmps (λe w'=>∃v x G' S',e=.returned v/\K x S'/\bA E G' S' a w'/\aU G' w' v x) a'.defers .returning w':=λ{S' a' w'} hq ⟨G',hs'⟩=>by obtain⟨ms',hm',-,-⟩:=hs'.ext'.marks;rw[hm'];refine AL (E:=E.push a) ms' rfl hs' rfl hm' λG2 a2 w2 hs2 ht2 hd2=>?_;obtain⟨vs,xs,r1,r2,r3,r4,r5⟩:=oo hs2 _ _ hq;obtain⟨f,r,hf',hK⟩:=Fe r2;have hlv:=bA.leave (E:=E) (a:=a) (mD:=none) (ms:=ms) hs2 hf' yC hs.ext'.mD;rw[<-ht2];exact⟨_,lJ fn a2.tmps E.C.P w2 r1,_,_,G2,_,rfl,hK,hlv,AK r4 r5⟩
  rintro e a' w' ⟨S',hq,hs'⟩;cases e with
  |normal=>exact fin hq hs'
  |ret=>exact fin hq hs'
  |_=>exact hq.elim
theorem vb (E:Env):fh E uo:=λ_ _ _ _ _ _ _ _ _ _ _ _ _ _ _ h=>h.elim
theorem DC {G:bl}{w:World}(hs:bA E G S a w){v:Value}{x:AV}(h:dH G.br w v x):dH (lT E.EM E.w0.heap.size) w v x:=tG hs h
abbrev adT {C:Ctx}{br:Nat->Nat->Prop}{w:World}(hJ:C.J w/\qc br w)(hn:C.nt<=w.heap.size):Env:={C:=C,w0:=w,EM:=br,hJ:=hJ.1,hn:=hn,mD:=none,bM:=[],loops:=[],fixed:=[]}
theorem alk {C:Ctx}{br:Nat->Nat->Prop}{w:World}{n:Nat}{args:List AV}{vs:List Value}(hJ:C.J w/\qc br w)(hn:C.nt<=w.heap.size)(hi:∀b o,br b o->b<w.heap.size)(hlen:args.length<=n)(hl:vs.length=args.length)(hr:∀(i:Nat)(v:Value)(x:AV),vs[i]?=some v->args[i]?=some x->dH br w v x):bA (adT hJ hn) (bare br) (Bl n args) {tmps:=vs.toArray++Array.replicate (n-vs.toArray.size) undef,defers:=[]} w:=by
 have hg:∀i:Nat,(aH args)[i]?=args[i]?.map .p:=λi=>by rw[eZ,aM]
 obtain⟨hsz,ht⟩:=wm (G:=bare br) (w:=w) (n:=n) (vals:=vs) (args:=aH args) (by rw[jf,hl]) (by rw[jf];omega) λi v x h1 h2=>by rw[hg]at h2;obtain⟨y,h3,rfl⟩:=tB.1 h2;exact .p _ _ (hr i v y h1 h3)
 refine⟨⟨rfl,rfl,rfl,aB _,λ_ _ _=>rfl,λk _ _ _ hk=>by simp_all⟩,hsz,⟨⟨(λo l h=>by cases h),(λo b h=>by cases h),(λo o' b h=>by cases h),(λq x h=>by cases h),(λq r h=>by cases h),(λq q' r h=>by cases h),(λo o' b h=>by cases h),(λo T z k l b gL es h=>by cases h)⟩,rfl,λi vs fr h=>by grind,rfl,λi k r st h=>by grind,λi j k r r' h=>by grind,λi k r h=>by grind,λl h=>by grind,⟨[],rfl,by simp,by simp⟩,hJ.2⟩,⟨(λo bs h=>by cases h),(λo r h=>by cases h),(λo r h=>by cases h)⟩,λb o h=>.inl h,hi,λi hi'=>?_,(λo cells ho=>by cases ho),(λo b h=>by cases h),(λo o' b h=>by cases h),(λo t b r h=>by cases h),(λt b s e T h=>by cases h),(λt t' b r r' h=>by cases h)⟩;have :=ht i hi';simp only[uT,hg]at this;simp only[Bl];grind
theorem yD {C:Ctx}{call:iR}(hco:ni C call){f:FuncId}{fn:Func}{c:Code}{args:List AV}{R:dJ->Prop}(hf:C.P.funcs[f]?=some fn)(hb:fn.body=some c)(hname:(fn.name== "runtime.NumGoroutine")=false)(hlen:args.length<=fn.ntmps)(h:yQ C call uo c (uU C fn.results.toList R) (Bl fn.ntmps args)):av C f args R:=by
 refine⟨⟨fn,hf,by simp_all,hname⟩,λbr w vs hJ hn hi hl hr=>?_⟩;have hs:=alk (n:=fn.ntmps) hJ hn hi hlen hl hr;refine(callsIn_wide (n:=0)).1 (callsIn_of_wp_marks hf hb trivial ?_ rfl);refine wpIn_mono (ud c (E:=adT hJ hn) hco (vb _) h ⟨_,hs⟩) ?_;have fin:∀{S':an}{a':Act}{w':World},ze C fn.results.toList R S'->nT (adT hJ hn) S' a' w'->LeavesInM Fence.wide 0 C.P fn a'.tmps (λe w'=>∃v r,e=.returned v/\R r/\oz br w.heap.size w' v r/\Below w.heap.size w w') a'.defers .returning w':=λ{S' a' w'} hq ⟨G',hs'⟩=>by obtain⟨ms',hm',-,-⟩:=hs'.ext'.marks;rw[hm'];refine AL (E:=adT hJ hn) ms' rfl hs' rfl hm' λG2 a2 w2 hs2 ht2 hd2=>?_;obtain⟨v,r,h1,h2,h3⟩:=II hs2 hq;rw[<-ht2];exact⟨v,h1,v,r,rfl,h2,h3,hs2.kept.os,hs2.kept.tape,hs2.kept.output,hs2.kept.size,λk hk=>hs2.kept.block k hk (by simp)⟩
 rintro e a' w' ⟨S',hq,hs'⟩;cases e with
 |normal=>exact fin hq hs'
 |ret=>exact fin hq hs'
 |_=>exact hq.elim
theorem KJ {C:Ctx}{f:FuncId}{fn:Func}{c:Code}{args:List AV}{R:dJ->Prop}(hf:C.P.funcs[f]?=some fn)(hb:fn.body=some c)(hname:(fn.name== "runtime.NumGoroutine")=false)(hlen:args.length<=fn.ntmps)(h:ev C c (uU C fn.results.toList R) (Bl fn.ntmps args)):av C f args R:=yD (zI C 6) hf hb hname hlen h
theorem QG {C:Ctx}{f:FuncId}{fn:Func}{c:Code}{cells args:List AV}{R:AV->List AV->Prop}(hf:C.P.funcs[f]?=some fn)(hb:fn.body=some c)(hname:(fn.name== "runtime.NumGoroutine")=false)(hlen:args.length+1<=fn.ntmps)(h:ev C c (PF C fn.results.toList cells.length R) (Vo fn.ntmps cells args)):HH C f cells args R:=by
 refine⟨⟨fn,hf,by simp_all,hname⟩,λbr w b vs hJ hn hi hbn adU hbi hbc hl hr=>?_⟩;let E:Env:={C:=C,w0:=w,EM:=br,hJ:=hJ.1,hn:=hn,mD:=none,bM:=[],loops:=[],fixed:=[],own:=[b],hown:=λk hk=>by simp_all,sg:=[(999999,b)],CQ:=λp hp=>by simp_all};let G0:bl:=⟨br,λo=>if o=999999 then some b else none,λ_=>none,λ_=>none,λ_=>none,λ_=>none,λ_=>none⟩;have oD:∀(i:Nat)(v:Value)(x:FV),(Value.pointer (some ⟨b,0,none⟩)::vs)[i]?=some v->(FV.ptr 999999 0::aH args)[i]?=some x->aU G0 w v x:=λi v x h1 h2=>by
  cases i with
  |zero=>simp at h1 h2;subst h1;subst h2;exact .ptr _ _ _ rfl
  |succ i=>
   simp only[mI,eZ,aM]at h1 h2;cases hq:args[i]?with
   |none=>simp_all
   |some y=>simp[hq]at h2;subst h2;exact .p _ _ (hr i v y h1 hq)
 obtain⟨hsz,ht⟩:=wm (n:=fn.ntmps) (vals:=Value.pointer (some ⟨b,0,none⟩)::vs) (args:=FV.ptr 999999 0::aH args) (by simp[eZ,hl]) (by simp[eZ];omega) oD;have hs:bA E G0 (Vo fn.ntmps cells args) {tmps:=(Value.pointer (some ⟨b,0,none⟩)::vs).toArray++Array.replicate (fn.ntmps-(Value.pointer (some ⟨b,0,none⟩)::vs).toArray.size) undef,defers:=[]} w:=by
  refine⟨⟨rfl,rfl,rfl,aB _,λ_ _ _=>rfl,λk cs T fr _ q=>⟨cs,q,rfl⟩⟩,hsz,⟨⟨(λo l h=>by cases h),(λo b h=>by grind),(λo o' b h=>by grind),(λq x h=>by cases h),(λq r h=>by grind),(λq q' r h=>by grind),(λo o' b h=>by grind),(λo T z k l b gL es h=>by grind)⟩,rfl,λi vs fr h=>by grind,rfl,λi k r st h=>by grind,λi j k r r' h=>by grind,λi k r h=>by simp_all,λl h=>by simp_all,⟨[],rfl,by grind,by grind⟩,hJ.2⟩,⟨(λo bs h=>by cases h),(λo r h=>by grind),(λo r h=>by grind)⟩,λb o h=>.inl h,hi,λi hi'=>ht i hi',(λo cs ho=>?_),(λo b2 h=>?_),(λo o' b2 h h'=>?_),(λo t b r _ h=>by grind),(λt b s e T h=>by grind),(λt t' b r r' h=>by grind)⟩;simp only[Vo,getObj]at ho;split at ho;rename_i hq;obtain rfl:=aN hq;obtain rfl:=aq ho;refine⟨b,rfl,λi x hx=>?_⟩;rw[eZ,aM]at hx;cases hq:cells[i]?with
  |none=>simp_all
  |some y=>simp[hq]at hx;subst hx;obtain⟨c,h1,h2⟩:=hbc i y hq;exact⟨c,h1,.p _ _ h2⟩
  simp_all;simp only[G0]at h;split at h;rename_i e;obtain rfl:=aq h;exact⟨adU,.inr (by subst e;exact⟨rfl,.head _⟩),hbi⟩;simp_all;grind
 refine(callsIn_wide (n:=0)).1 (callsIn_of_wp_marks hf hb trivial ?_ rfl);refine wpIn_mono (ud c (E:=E) (zI C 6) (vb E) h ⟨_,hs⟩) ?_;have fin:∀{S':an}{a':Act}{w':World},AD C fn.results.toList cells.length R S'->nT E S' a' w'->LeavesInM Fence.wide 0 C.P fn a'.tmps (λe w'=>∃v r cells',e=.returned v/\R r cells'/\cells'.length=cells.length/\dH (lT br w.heap.size) w' v r/\(∀(i:Nat)(x:AV),cells'[i]?=some x->∃c,w'.cell? ⟨b,i,none⟩=some c/\dH (lT br w.heap.size) w' c x)/\w'.os=w.os/\w'.tape=w.tape/\w'.output=w.output/\w.heap.size<=w'.heap.size/\(∀k,k<w.heap.size->k≠b->w'.heap[k]?=w.heap[k]?)/\(∀cs T fr,w.heap[b]?=some (.cells cs T fr)->∃cs',w'.heap[b]?=some (.cells cs' T fr)/\cs'.size=cs.size)) a'.defers .returning w':=λ{S' a' w'} hq ⟨G',hs'⟩=>by obtain⟨ms',hm',-,-⟩:=hs'.ext'.marks;rw[hm'];refine AL (E:=E) ms' rfl hs' rfl hm' λG2 a2 w2 hs2 ht2 hd2=>?_;unfold AD at hq;obtain⟨vs,xs,r1,r2,r3,r4,r5⟩:=oo hs2 _ _ hq;split at r2;rename_i r cs VF ho;split at r2;rename_i ys hys;obtain⟨hn,r2⟩:=r2;rw[<-ht2];obtain⟨b2,g1,g2⟩:=hs2.aK 999999 cs ho;obtain⟨g3,g4⟩:=FV.jk hys;obtain rfl:b2=b:=Env.PJ (E:=E) (hs2.gW _ _ g1).2.1 rfl;refine⟨_,lJ fn a2.tmps E.C.P w2 r1,_,r,ys,rfl,r2,aN hn,DC hs2 ((AK r4 r5).fA VF),λi x hx=>?_,hs2.kept.os,hs2.kept.tape,hs2.kept.output,hs2.kept.size,λk hk hkb=>hs2.kept.block k hk (by grind),λc1 T fr h=>hs2.kept.shape _ c1 T fr ⟨999999,.head _⟩ h⟩;obtain⟨y,hy,hxy⟩:=g4 i x hx;obtain⟨c,q1,q2⟩:=g2 i y hy;exact⟨c,q1,DC hs2 (q2.fA hxy)⟩;simp_all;simp_all
 rintro e a' w' ⟨S',hq,hs'⟩;cases e with
 |normal=>exact fin hq hs'
 |ret=>exact fin hq hs'
 |_=>exact hq.elim
end
section
variable {E:Env}{G:bl}{S:an}{a:Act}{w:World}
theorem av.mono {C:Ctx}{f:FuncId}{args:List AV}{R R':dJ->Prop}(h:av C f args R)(hr:∀r,R r->R' r):av C f args R':=⟨h.1,λbr w vs a b c d e=>(h.2 br w vs a b c d e).mono λ_ _ ⟨v,r,h1,h2,h3⟩=>⟨v,r,h1,hr _ h2,h3⟩⟩
def Gh:List (Nat×FV)->Nat->FV|[],_=>.dW|(j,v)::r,i=>match Nat.beq i j with|true=>v|false=>Gh r i
def QH:List (Nat×Nat×List (Nat×FV))->List Fr|[]=>[]|(n,off,rel)::r=>⟨n,off,Gh rel⟩::QH r
def NV (n off:Nat)(rel:List (Nat×FV))(aK:List (Nat×List FV))(bM:List (Nat×Nat×List (Nat×FV)))(cO:List Az)(dh:List (Nat×List UInt8):=[]):an:={n:=n,off:=off,tmps:=Gh rel,aK:=aK,bM:=QH bM,cO:=cO,dh:=dh}
def zJ (f:Nat->FV):List (Nat×FV)->Prop|[]=>True|(j,v)::r=>bw (f j) v/\zJ f r
def NW:List Fr->List (Nat×Nat×List (Nat×FV))->Prop|[],[]=>True|f::fs,(n,off,rel)::r=>(n,off)=(f.n,f.off)/\zJ f.tmps rel/\NW fs r|_,_=>False
def Bg (aK:List (Nat×List FV)):List (Nat×List FV)->Prop|[]=>True|(o,ys)::r=>(∃xs,Qv.getObj aK o=some xs/\xs.length=ys.length/\∀(i:Nat)(x y:FV),xs[i]?=some x->ys[i]?=some y->bw x y)/\Bg aK r
theorem Fg {f:Nat->FV}:∀{rel:List (Nat×FV)},zJ f rel->∀i,bw (f i) (Gh rel i)|[],_,_=>bw.dW _|(j,v)::rel,h,i=>by simp only[Gh];split;rename_i hb;obtain rfl:=aN hb;exact h.1;exact Fg h.2 i
theorem VG:∀{fs:List Fr}{l:List (Nat×Nat×List (Nat×FV))},NW fs l->(QH l).length=fs.length/\∀(i:Nat)(f f':Fr),fs[i]?=some f->(QH l)[i]?=some f'->f'.n=f.n/\f'.off=f.off/\∀j,bw (f.tmps j) (f'.tmps j)
 |[],[],_=>⟨rfl,by simp⟩
 |f::fs,(n,off,rel)::r,h=>by
  obtain⟨h1,h2,h3⟩:=h;obtain⟨h4,h5⟩:=VG h3;injection h1 with e1 e2;refine⟨by simp[QH,h4],λi g g' hg hg'=>?_⟩;cases i with
  |zero=>simp[QH]at hg hg';subst hg;subst hg';exact⟨e1,e2,Fg h2⟩
  |succ i=>simp[QH]at hg hg';grind
 |[],_::_,h=>h.elim
 |_::_,[],h=>h.elim
def KL (l:List (Nat×List UInt8)):List (Nat×List UInt8)->Prop|[]=>True|(o,bs)::r=>me l o=some bs/\KL l r
theorem QI {l:List (Nat×List UInt8)}{o:Nat}{bs:List UInt8}:∀{r:List (Nat×List UInt8)},KL l r->me r o=some bs->me l o=some bs
 |[],_,h=>by cases h
 |(u,c)::r,hb,h=>by simp only[me]at h;split at h;rename_i hu;obtain rfl:=aN hu;obtain rfl:=aq h;exact hb.1;exact QI hb.2 h
theorem BW {l:List (Nat×List FV)}{o:Nat}{ys:List FV}:∀{r:List (Nat×List FV)},Bg l r->Qv.getObj r o=some ys->∃xs,Qv.getObj l o=some xs/\xs.length=ys.length/\∀(i:Nat)(x y:FV),xs[i]?=some x->ys[i]?=some y->bw x y
 |[],_,h=>by cases h
 |(u,c)::r,hb,h=>by simp only[Qv.getObj]at h;split at h;rename_i hu;obtain rfl:=aN hu;obtain rfl:=aq h;exact hb.1;exact BW hb.2 h
def mkW (n off:Nat)(rel:List (Nat×FV))(aK:List (Nat×List FV))(bM:List (Nat×Nat×List (Nat×FV)))(cO:List Az)(dh:List (Nat×List UInt8))(maps:List (Nat×List (AV×FV)))(jD:List (Nat×(Option (AV×AV)×List (AV×AV)))):an:={n:=n,off:=off,tmps:=Gh rel,aK:=aK,bM:=QH bM,cO:=cO,dh:=dh,maps:=maps,jD:=jD}
def aak (maps:List (Nat×List (AV×FV))):List (Nat×List (AV×FV))->Prop|[]=>True|(o,l')::r=>(∃l,getM maps o=some l/\l.length=l'.length/\∀(i:Nat)(p p':AV×FV),l[i]?=some p->l'[i]?=some p'->p'.1=p.1/\bw p.2 p'.2)/\aak maps r
def aal (jD:List (Nat×(Option (AV×AV)×List (AV×AV)))):List (Nat×(Option (AV×AV)×List (AV×AV)))->Prop|[]=>True|(q,x)::r=>getM jD q=some x/\aal jD r
theorem QJ {l:List (Nat×List (AV×FV))}{o:Nat}{ys:List (AV×FV)}:∀{r:List (Nat×List (AV×FV))},aak l r->getM r o=some ys->∃xs,getM l o=some xs/\xs.length=ys.length/\∀(i:Nat)(p p':AV×FV),xs[i]?=some p->ys[i]?=some p'->p'.1=p.1/\bw p.2 p'.2
 |[],_,h=>by cases h
 |(u,c)::r,hb,h=>by simp only[getM]at h;split at h;rename_i hu;obtain rfl:=aN hu;obtain rfl:=aq h;exact hb.1;exact QJ hb.2 h
theorem QK {l:List (Nat×(Option (AV×AV)×List (AV×AV)))}{q:Nat}{x:Option (AV×AV)×List (AV×AV)}:∀{r:List (Nat×(Option (AV×AV)×List (AV×AV)))},aal l r->getM r q=some x->getM l q=some x
 |[],_,h=>by cases h
 |(u,c)::r,hb,h=>by simp only[getM]at h;split at h;rename_i hu;obtain rfl:=aN hu;obtain rfl:=aq h;exact hb.1;exact QK hb.2 h
theorem aam {maps:List (Nat×List (AV×FV))}{o:Nat}{l:List (AV×FV)}(h:getM maps o=some l):∃l0,getM maps o=some l0/\l0.length=l.length/\∀(i:Nat)(p p':AV×FV),l0[i]?=some p->l[i]?=some p'->p'.1=p.1/\bw p.2 p'.2:=⟨l,h,rfl,λi p p' h1 h2=>by rw[h1]at h2;obtain rfl:=aq h2;exact⟨rfl,bw.refl _⟩⟩
theorem BX {n off:Nat}{rel:List (Nat×FV)}{aK:List (Nat×List FV)}{bM:List (Nat×Nat×List (Nat×FV))}{cO:List Az}{dh:List (Nat×List UInt8)}{maps:List (Nat×List (AV×FV))}{jD:List (Nat×(Option (AV×AV)×List (AV×AV)))}(hn:(n,off,cO)=(S.n,S.off,S.cO))(h1:zJ S.tmps rel)(h2:Bg S.aK aK)(h3:NW S.bM bM)(h4:KL S.dh dh)(h5:aak S.maps maps)(h6:aal S.jD jD):cU S (mkW n off rel aK bM cO dh maps jD):=by
 injection hn with e1 e2;injection e2 with e2 e3;refine⟨e1,e2,e3,λo bs q=>⟨QI h4 q,λq2=>?_⟩,VG h3,λi=>Fg h1 i,λo ys ho=>BW h2 ho,λo l hl=>QJ h5 hl,λq x hx=>QK h6 hx⟩;cases hq:Qv.getObj aK o with
 |none=>exact hq
 |some ys=>obtain⟨xs,h5,-⟩:=BW h2 hq;simp_all
theorem bO {n off:Nat}{rel:List (Nat×FV)}{aK:List (Nat×List FV)}{bM:List (Nat×Nat×List (Nat×FV))}{cO:List Az}{dh:List (Nat×List UInt8)}(hn:(n,off,cO)=(S.n,S.off,S.cO))(h1:zJ S.tmps rel)(h2:Bg S.aK aK)(h3:NW S.bM bM)(h4:KL S.dh dh):cU S (NV n off rel aK bM cO dh):=BX (maps:=[]) (jD:=[]) hn h1 h2 h3 h4 trivial trivial
theorem yE {C:Ctx}{call:iR}{Y:pn}{c:Code}{Q:Exit->an->Prop}{α:Type}(n off:Nat)(rel:α->List (Nat×FV))(aK:α->List (Nat×List FV))(bM:α->List (Nat×Nat×List (Nat×FV)))(cO:List Az)(dh:α->List (Nat×List UInt8))(maps:α->List (Nat×List (AV×FV)))(jD:α->List (Nat×(Option (AV×AV)×List (AV×AV))))(Inv:α->Prop)(μ:α->Nat)(x0:α)(h0:Inv x0)(hn:(n,off,cO)=(S.n,S.off,S.cO))(h1:zJ S.tmps (rel x0))(h2:Bg S.aK (aK x0))(h3:NW S.bM (bM x0))(h4:KL S.dh (dh x0))(h5:aak S.maps (maps x0))(h6:aal S.jD (jD x0))(round:∀x,Inv x->yQ C call Y c (uR (λS'=>∃x' uL,cU S' uL/\(Inv x'/\uL=mkW n off (rel x') (aK x') (bM x') cO (dh x') (maps x') (jD x'))/\μ x'<μ x) Q) (mkW n off (rel x) (aK x) (bM x) cO (dh x) (maps x) (jD x))):∃(α:Type) (I:α->an->Prop) (μ:α->Nat),(∃a S',cU S S'/\I a S')/\∀a S,I a S->yQ C call Y c (uR (λS'=>∃a' uL,cU S' uL/\I a' uL/\μ a'<μ a) Q) S:=⟨α,λx S=>Inv x/\S=mkW n off (rel x) (aK x) (bM x) cO (dh x) (maps x) (jD x),μ,⟨x0,_,BX hn h1 h2 h3 h4 h5 h6,h0,rfl⟩,λx S ⟨hI,hS⟩=>hS▸round x hI⟩
theorem rF {S':an}{α:Type}{n off:Nat}{rel:α->List (Nat×FV)}{aK:α->List (Nat×List FV)}{bM:α->List (Nat×Nat×List (Nat×FV))}{cO:List Az}{dh:α->List (Nat×List UInt8)}{maps:α->List (Nat×List (AV×FV))}{jD:α->List (Nat×(Option (AV×AV)×List (AV×AV)))}{Inv:α->Prop}{μ:α->Nat}{x:α}(x':α)(h0:Inv x')(hμ:μ x'<μ x)(hn:(n,off,cO)=(S'.n,S'.off,S'.cO))(h1:zJ S'.tmps (rel x'))(h2:Bg S'.aK (aK x'))(h3:NW S'.bM (bM x'))(h4:KL S'.dh (dh x'))(h5:aak S'.maps (maps x'))(h6:aal S'.jD (jD x')):∃x' uL,cU S' uL/\(Inv x'/\uL=mkW n off (rel x') (aK x') (bM x') cO (dh x') (maps x') (jD x'))/\μ x'<μ x:=⟨x',_,BX hn h1 h2 h3 h4 h5 h6,⟨h0,rfl⟩,hμ⟩
theorem Xh (aK:List (Nat×List FV))(xs:List FV)(o:Nat)(h:Qv.getObj aK o=some xs):∃ys,Qv.getObj aK o=some ys/\ys.length=xs.length/\∀(i:Nat)(x y:FV),ys[i]?=some x->xs[i]?=some y->bw x y:=Gf h
theorem aG {aK:List (Nat×List FV)}{o:Nat}{xs:List FV}(h:Qv.getObj aK o=some xs):∃ys,Qv.getObj aK o=some ys/\ys.length=xs.length/\∀(i:Nat)(x y:FV),ys[i]?=some x->xs[i]?=some y->bw x y:=Xh aK xs o h
theorem DD {C:Ctx}{call:iR}{Y:pn}{c:Code}{Q:Exit->an->Prop}{α:Type}(n off:Nat)(rel:α->List (Nat×FV))(aK:α->List (Nat×List FV))(bM:α->List (Nat×Nat×List (Nat×FV)))(cO:List Az)(dh:α->List (Nat×List UInt8))(Inv:α->Prop)(μ:α->Nat)(x0:α)(h0:Inv x0)(hn:(n,off,cO)=(S.n,S.off,S.cO))(h1:zJ S.tmps (rel x0))(h2:Bg S.aK (aK x0))(h3:NW S.bM (bM x0))(h4:KL S.dh (dh x0))(round:∀x,Inv x->yQ C call Y c (uR (λS'=>∃x' uL,cU S' uL/\(Inv x'/\uL=NV n off (rel x') (aK x') (bM x') cO (dh x'))/\μ x'<μ x) Q) (NV n off (rel x) (aK x) (bM x) cO (dh x))):∃(α:Type) (I:α->an->Prop) (μ:α->Nat),(∃a S',cU S S'/\I a S')/\∀a S,I a S->yQ C call Y c (uR (λS'=>∃a' uL,cU S' uL/\I a' uL/\μ a'<μ a) Q) S:=⟨α,λx S=>Inv x/\S=NV n off (rel x) (aK x) (bM x) cO (dh x),μ,⟨x0,_,bO hn h1 h2 h3 h4,h0,rfl⟩,λx S ⟨hI,hS⟩=>hS▸round x hI⟩
theorem sG {S':an}{α:Type}{n off:Nat}{rel:α->List (Nat×FV)}{aK:α->List (Nat×List FV)}{bM:α->List (Nat×Nat×List (Nat×FV))}{cO:List Az}{dh:α->List (Nat×List UInt8)}{Inv:α->Prop}{μ:α->Nat}{x:α}(x':α)(h0:Inv x')(hμ:μ x'<μ x)(hn:(n,off,cO)=(S'.n,S'.off,S'.cO))(h1:zJ S'.tmps (rel x'))(h2:Bg S'.aK (aK x'))(h3:NW S'.bM (bM x'))(h4:KL S'.dh (dh x')):∃x' uL,cU S' uL/\(Inv x'/\uL=NV n off (rel x') (aK x') (bM x') cO (dh x'))/\μ x'<μ x:=⟨x',_,bO hn h1 h2 h3 h4,⟨h0,rfl⟩,hμ⟩
theorem afV {C:Ctx}{call:iR}{Y:pn}{c:Code}{Q:Exit->an->Prop}{α:Type}(n:Nat)(rel:α->List (Nat×FV))(aK:α->List (Nat×List FV))(dh:α->List (Nat×List UInt8))(Inv:α->Prop)(μ:α->Nat)(x0:α)(h0:Inv x0)(hn:(n,0,[],[])=(S.n,S.off,S.cO,S.bM))(h1:zJ S.tmps (rel x0))(h2:Bg S.aK (aK x0))(h4:KL S.dh (dh x0))(round:∀x,Inv x->yQ C call Y c (uR (λS'=>∃x' uL,cU S' uL/\(Inv x'/\uL=NV n 0 (rel x') (aK x') [] [] (dh x'))/\μ x'<μ x) Q) (NV n 0 (rel x) (aK x) [] [] (dh x))):∃(α:Type) (I:α->an->Prop) (μ:α->Nat),(∃a S',cU S S'/\I a S')/\∀a S,I a S->yQ C call Y c (uR (λS'=>∃a' uL,cU S' uL/\I a' uL/\μ a'<μ a) Q) S:=by injection hn with e1 e2;injection e2 with e2 e3;injection e3 with e3 e4;exact DD n 0 rel aK (λ_=>[]) [] dh Inv μ x0 h0 (by simp_all) h1 h2 (by rw[<-e4];trivial) h4 round
theorem aiP {S':an}{α:Type}{n:Nat}{rel:α->List (Nat×FV)}{aK:α->List (Nat×List FV)}{dh:α->List (Nat×List UInt8)}{Inv:α->Prop}{μ:α->Nat}{x:α}(x':α)(h0:Inv x')(hμ:μ x'<μ x)(hn:(n,0,[],[])=(S'.n,S'.off,S'.cO,S'.bM))(h1:zJ S'.tmps (rel x'))(h2:Bg S'.aK (aK x'))(h4:KL S'.dh (dh x')):∃x' uL,cU S' uL/\(Inv x'/\uL=NV n 0 (rel x') (aK x') [] [] (dh x'))/\μ x'<μ x:=by injection hn with e1 e2;injection e2 with e2 e3;injection e3 with e3 e4;exact⟨x',_,bO (by simp_all) h1 h2 (by rw[<-e4];trivial) h4,⟨h0,rfl⟩,hμ⟩
theorem bJ {C:Ctx}{call:iR}{Y:pn}{c:Code}{Q:Exit->an->Prop}{α:Type}(n:Nat)(rel:α->List (Nat×FV))(aK:α->List (Nat×List FV))(Inv:α->Prop)(μ:α->Nat)(x0:α)(h0:Inv x0)(hn:(n,0,[],[])=(S.n,S.off,S.cO,S.bM))(h1:zJ S.tmps (rel x0))(h2:Bg S.aK (aK x0))(round:∀x,Inv x->yQ C call Y c (uR (λS'=>∃x' uL,cU S' uL/\(Inv x'/\uL=NV n 0 (rel x') (aK x') [] [])/\μ x'<μ x) Q) (NV n 0 (rel x) (aK x) [] [])):∃(α:Type) (I:α->an->Prop) (μ:α->Nat),(∃a S',cU S S'/\I a S')/\∀a S,I a S->yQ C call Y c (uR (λS'=>∃a' uL,cU S' uL/\I a' uL/\μ a'<μ a) Q) S:=afV n rel aK (λ_=>[]) Inv μ x0 h0 hn h1 h2 trivial round
theorem aT {S':an}{α:Type}{n:Nat}{rel:α->List (Nat×FV)}{aK:α->List (Nat×List FV)}{Inv:α->Prop}{μ:α->Nat}{x:α}(x':α)(h0:Inv x')(hμ:μ x'<μ x)(hn:(n,0,[],[])=(S'.n,S'.off,S'.cO,S'.bM))(h1:zJ S'.tmps (rel x'))(h2:Bg S'.aK (aK x')):∃x' uL,cU S' uL/\(Inv x'/\uL=NV n 0 (rel x') (aK x') [] [])/\μ x'<μ x:=aiP (dh:=λ_=>[]) x' h0 hμ hn h1 h2 trivial
end
theorem ak {C:Ctx}{f:FuncId}{fn:Func}{args:List AV}{R:dJ->Prop}(hf:C.P.funcs[f]?=some fn)(hb:fn.body.isSome=true)(hname:(fn.name== "runtime.NumGoroutine")=false)(hlen:Nat.ble args.length fn.ntmps=true)(h:ev C (match fn.body with|some c=>c|none=>.skip) (uU C fn.results.toList R) (Bl fn.ntmps args)):av C f args R:=by obtain⟨c,hc⟩:=oq.1 hb;rw[hc]at h;exact KJ hf hc hname (iD hlen) h
theorem dY {C:Ctx}(l:List Nat){f:FuncId}{fn:Func}{args:List AV}{R:dJ->Prop}(hf:C.P.funcs[f]?=some fn)(hb:fn.body.isSome=true)(hname:(fn.name== "runtime.NumGoroutine")=false)(hlen:Nat.ble args.length fn.ntmps=true)(h:ev (C.cut l) (match fn.body with|some c=>c|none=>.skip) (uU (C.cut l) fn.results.toList R) (Bl fn.ntmps args)):av C f args R:=ak (C:=C.cut l) hf hb hname hlen h
theorem av.cut {C:Ctx}{l:List Nat}{f:FuncId}{args:List AV}{R:dJ->Prop}(h:av C f args R):av (C.cut l) f args R:=h
theorem bu {C:Ctx}(e:Extra)(l:List Nat){f:FuncId}{fn:Func}{args:List AV}{R:dJ->Prop}(hf:C.P.funcs[f]?=some fn)(hb:fn.body.isSome=true)(hname:(fn.name== "runtime.NumGoroutine")=false)(hlen:Nat.ble args.length fn.ntmps=true)(h:ev ((C.cut l).open e) (match fn.body with|some c=>c|none=>.skip) (uU ((C.cut l).open e) fn.results.toList R) (Bl fn.ntmps args)):av C f args R:=ak (C:=(C.cut l).open e) hf hb hname hlen h
theorem av.eG {C:Ctx}{e:Extra}{l:List Nat}{f:FuncId}{args:List AV}{R:dJ->Prop}(h:av C f args R):av ((C.cut l).open e) f args R:=h
theorem DE {C:Ctx}(e:Extra)(l:List Nat){f:FuncId}{fn:Func}{cells args:List AV}{R:AV->List AV->Prop}(hf:C.P.funcs[f]?=some fn)(hb:fn.body.isSome=true)(hname:(fn.name== "runtime.NumGoroutine")=false)(hlen:Nat.ble (args.length+1) fn.ntmps=true)(h:ev ((C.cut l).open e) (match fn.body with|some c=>c|none=>.skip) (PF ((C.cut l).open e) fn.results.toList cells.length R) (Vo fn.ntmps cells args)):HH C f cells args R:=by obtain⟨c,hc⟩:=oq.1 hb;rw[hc]at h;exact QG (C:=(C.cut l).open e) hf hc hname (iD hlen) h
theorem HH.eG {C:Ctx}{e:Extra}{l:List Nat}{f:FuncId}{cells args:List AV}{R:AV->List AV->Prop}(h:HH C f cells args R):HH ((C.cut l).open e) f cells args R:=h
theorem de {S:an}(n:Nat)(rel:List (Nat×FV))(aK:List (Nat×List FV)){K:an->Prop}(hn:(n,0,[],[])=(S.n,S.off,S.cO,S.bM))(h1:zJ S.tmps rel)(h2:Bg S.aK aK)(h:K (NV n 0 rel aK [] [])):∃T,cU S T/\K T:=by injection hn with e1 e2;injection e2 with e2 e3;injection e3 with e3 e4;exact⟨_,bO (dh:=[]) (by simp_all) h1 h2 (by rw[<-e4];trivial) trivial,h⟩
theorem wrap64 {n:Int}(h1:-9223372036854775808<=n)(h2:n<=9223372036854775807):IntKind.i64.wrap n=n:=by simp[IntKind.wrap,IntKind.bits,IntKind.signed];omega
theorem aan {n:Int}(h1:0<=n)(h2:n<=255):IntKind.u8.wrap n=n:=by simp[IntKind.wrap,IntKind.bits,IntKind.signed];omega
abbrev Bytes:=List UInt8
def mL (s:Bytes):List AV:=[.str s]
def QL (l:List Bytes):AV:=.sl (l.map mL)
theorem eC {α:Type}{f:α->List AV}{l:List α}{n:Int}{k:Nat}(hn:n=k)(hk:k<l.length):(l.map f)[n.toNat]?=some (f l[k]):=by simp_all
theorem bw.eq {x y:FV}(h:x=y):bw x y:=h▸bw.refl x
theorem wS {p:Prop}(h:p:=by(repeat refine⟨bw.eq kK,?_⟩);exact trivial):p:=h
theorem oS {p:Prop}(h:p:=by(repeat refine⟨aG kK,?_⟩);exact trivial):p:=h
theorem cl {C:Ctx}{f:FuncId}{args:List AV}{v:dJ}{K:dJ->Prop}(h:av C f args λr=>r=v)(k:K v):∃R,av C f args R/\∀r,R r->K r:=⟨_,h,λ_ hr=>hr▸k⟩
theorem nx (m:Nat){a:Int}{K:Int->Prop}(h:K (m:Int))(e:IntKind.i64.wrap a=(m:Int):=by rw[wrap64 oO oO];omega):∃c,IntKind.i64.wrap a=c/\K c:=⟨_,e,h⟩
theorem ix {α:Type}{f:α->List AV}{l:List α}{k m:Nat}{K:List AV->Prop}(hk:k<l.length)(h:K (f l[k]))(e:(f l[k]).length=m:=by exact rfl):0<=(k:Int)/\∃ys,(l.map f)[(k:Int).toNat]?=some ys/\ys.length=m/\K ys:=⟨oO,_,eC rfl hk,e,h⟩
theorem bw.lu (t:Nat)(T:TypeId)(bP:Nat):bw (.full []) (.gd t T bP []):=λG w v h=>by
 cases h with
 |full _ a h=>exact .gd t T bP [] a 0 h (.inl ⟨rfl,rfl⟩)
theorem bw.LL (t:Nat)(T:TypeId)(bP:Nat)(xs:List (List AV)):bw (.gd t T bP xs) (.p (.sl xs)):=λG w v h=>.p _ _ (h.fA rfl)
theorem bw.NX (xs:List (List AV)):bw (.full xs) (.p (.sl xs)):=λG w v h=>.p _ _ (h.fA rfl)
theorem aao {α:Type}{f:α->AV}(l:List α):∀zs,zs∈l.map (λx=>[f x])->zs.length=1:=by simp_all
theorem aiQ {c d:UInt8}(h:(c.toNat:Int)=(d.toNat:Int)):c=d:=UInt8.toNat.inj oO
theorem aF {p:Prop}[Decidable p]{K:Bool->Prop}(h1:p->K true)(h2:¬p->K false):Al λt:Bool=>t=decide p->K t:=⟨λt ht=>by by_cases h:p;simp_all;simp_all⟩
theorem aC {α:Type}[BEq α][LawfulBEq α]{a b:α}{K:Bool->Prop}(h1:a=b->K true)(h2:a≠b->K false):Al λt:Bool=>t=(a==b)->K t:=⟨λt ht=>by cases h:a==b;simp_all;simp_all⟩
theorem cm {α:Type}[BEq α][LawfulBEq α]{a b:α}{K:Bool->Prop}(h1:a≠b->K true)(h2:a=b->K false):Al λt:Bool=>t=(a !=b)->K t:=⟨λt ht=>by cases h:a==b;rw[ht];simp only[bne,h,Bool.not_false];simp_all;simp_all⟩
theorem BY {α:Type}[BEq α][LawfulBEq α]{a b:α}{K:Bool->Prop}(h1:a≠b->K true)(h2:a=b->K false):Al λt:Bool=>t=!(a==b)->K t:=cm h1 h2
theorem cq {α β:Type}{k:Nat}{l:List α}{f:α->β}{K:Bool->Prop}(h1:k<l.length->K true)(h2:¬k<l.length->K false):Al λt:Bool=>t=decide ((k:Int)<((l.map f).length:Int))->K t:=aF (λh=>h1 (by simp_all)) (λh=>h2 (by simp_all))
theorem bF {b:Bool}{K:Bool->Prop}(h:K !b):Al λt:Bool=>t=!b->K t:=⟨λt ht=>ht▸h⟩
end Qv
namespace Qv
open Go
inductive gE {H:Type}(P:Program):TypeId->DataW H->List AV->Prop|bool (t:TypeId)(b:Bool):P.underlying t=some .bool->gE P t (.lit (.bool b)) [.bool b]|int (t:TypeId)(k:IntKind)(n:Int):P.underlying t=some (.int k)->(Lit.int k n).wf=true->gE P t (.lit (.int k n)) [.int k n]|str (t:TypeId)(s:List UInt8):P.underlying t=some .string->gE P t (.lit (.string s)) [.str s]|nil (t e:TypeId):P.underlying t=some (.slice e)->gE P t .nil [.sl []]|slice (t e:TypeId)(ds sp:List (DataW H))(xs:List (List AV)):P.underlying t=some (.slice e)->ds.length=xs.length->(∀(i:Nat)(d:DataW H)(x:List AV),ds[i]?=some d->xs[i]?=some x->gE P e d x)->gE P t (.slice ds sp) [.sl xs]|struct (t:TypeId)(fs:Array Field)(ds:List (DataW H))(pieces:List (List AV)):P.underlying t=some (.struct fs)->fs.toList.length=ds.length->pieces.length=ds.length->(∀(i:Nat)(f:Field)(d:DataW H)(x:List AV),fs.toList[i]?=some f->ds[i]?=some d->pieces[i]?=some x->gE P f.type d x)->gE P t (.agg ds) pieces.flatten|arr (t e:TypeId)(n:Nat)(ds:List (DataW H))(pieces:List (List AV)):P.underlying t=some (.array n e)->ds.length=n->pieces.length=n->(∀(i:Nat)(d:DataW H)(x:List AV),ds[i]?=some d->pieces[i]?=some x->gE P e d x)->gE P t (.agg ds) pieces.flatten
def LM (P:Program)(ts:List TypeId)(t:TypeId):Bool:=match P.underlying t with|some .bool=>true|some (.int _)=>true|some .string=>true|some (.slice e)=>ts.contains e&&!(P.cellsOf e==0)|some (.struct fs)=>fs.toList.all λf=>ts.contains f.type|some (.array _ e)=>ts.contains e|_=>false
def BZ (P:Program)(ts:List TypeId):Bool:=ts.all λt=>decide (t<P.types.size)&&LM P ts t
theorem QM {α β:Type}{f:α->Option β}:∀{l:List α}{ys:List β},l.mapM f=some ys->ys.length=l.length/\∀(i:Nat)(x:α)(y:β),l[i]?=some x->ys[i]?=some y->f x=some y
 |[],ys,h=>by simp at h;subst h;exact⟨rfl,λi x y h=>by simp at h⟩
 |a::l,ys,h=>by
  rw[List.mapM_cons]at h;cases ha:f a with
  |none=>rw[ha]at h;cases h
  |some b=>
   rw[ha]at h;cases hl:l.mapM f with
   |none=>rw[hl]at h;cases h
   |some bs=>
    rw[hl]at h;obtain rfl:=aq h;obtain⟨h1,h2⟩:=QM hl;refine⟨by simp[h1],λi x y hx hy=>?_⟩;cases i with
    |zero=>simp at hx hy;subst hx;subst hy;exact ha
    |succ i=>simp at hx hy;exact h2 i x y hx hy
theorem vg {β:Type}(n:Nat)(R:Nat->β->Prop)(h:∀i,i<n->∃x,R i x):∃l:List β,l.length=n/\∀i x,l[i]?=some x->R i x:=by
 induction n with
 |zero=>exact⟨[],rfl,by simp⟩
 |succ n ih=>
  obtain⟨l,h1,h2⟩:=ih λi hi=>h i oO;obtain⟨x,hx⟩:=h n oO;refine⟨l++[x],by simp[h1],λi y hy=>?_⟩;by_cases hi:i<n;rw[cF oO]at hy;exact h2 i y hy;have hlt:i<(l++[x]).length:=(aI.1 hy).1;simp[h1]at hlt;obtain rfl:i=n:=oO
  rw[dN oO]at hy;simp[h1]at hy;subst hy;exact hx
def yR (br:Nat->Nat->Prop)(w:World)(cs:List Value)(xs:List AV):Prop:=cs.length=xs.length/\(∀x,x∈xs->x.one=true)/\∀(i:Nat)(c:Value)(x:AV),cs[i]?=some c->xs[i]?=some x->dH br w c x
theorem yR.nil (br:Nat->Nat->Prop)(w:World):yR br w [] []:=⟨rfl,by simp,by simp⟩
theorem yR.append {br:Nat->Nat->Prop}{w:World}{cs cs':List Value}{xs xs':List AV}(h:yR br w cs xs)(h':yR br w cs' xs'):yR br w (cs++cs') (xs++xs'):=by refine⟨by simp[h.1,h'.1],λx hx=>?_,λi c x hc hx=>?_⟩;rcases bk.1 hx with hx|hx;exact h.2.1 x hx;exact h'.2.1 x hx;by_cases hi:i<cs.length;rw[cF hi]at hc;rw[cF (by rw[<-h.1];exact hi)]at hx;exact h.2.2 i c x hc hx;rw[dN oO]at hc;rw[dN (by rw[<-h.1];omega),<-h.1]at hx;exact h'.2.2 _ c x hc hx
theorem yR.one {br:Nat->Nat->Prop}{w:World}{c:Value}{x:AV}(h:dH br w c x)(hx:x.one=true):yR br w [c] [x]:=⟨rfl,by simpa using hx,λi c' x' h1 h2=>by
 cases i with
 |zero=>simp at h1 h2;subst h1;subst h2;exact h
 |succ i=>simp at h1⟩
theorem IK {br:Nat->Nat->Prop}{w:World}(size:Field->Nat)(cs:List Value):∀(fs:List Field)(o:Nat)(pieces:List (List AV)),pieces.length=fs.length->(∀(j:Nat)(f:Field),fs[j]?=some f->f.offset=o+((fs.take j).map size).sum)->(cs.drop o).length=(fs.map size).sum->(∀(j:Nat)(f:Field)(x:List AV),fs[j]?=some f->pieces[j]?=some x->yR br w ((cs.drop f.offset).take (size f)) x)->yR br w (cs.drop o) pieces.flatten
 |[],o,pieces,hp,ho,hl,hr=>by have h1:pieces=[]:=ck.1 (by simpa using hp);have h2:cs.drop o=[]:=ck.1 (by simpa using hl);rw[h1,h2];exact .nil _ _
 |f::fs,o,[],hp,ho,hl,hr=>by simp at hp
 |f::fs,o,x::pieces,hp,ho,hl,hr=>by
  have hf:f.offset=o:=by simpa using ho 0 f rfl
  have h0:=hr 0 f x rfl rfl;rw[hf]at h0;simp only[dL,bB,qq]at hl;have ih:=IK size cs fs (o+size f) pieces (by simpa using hp) (λj g hg=>by have :=ho (j+1) g hg;simp only[xd,bB,qq]at this;omega) (by simp only[dL];omega) (λj g y hg hy=>hr (j+1) g y hg hy);have :cs.drop o=(cs.drop o).take (size f)++cs.drop (o+size f):=by rw[<-xl,fH]
  rw[this,nU];exact h0.append ih
theorem LN {br:Nat->Nat->Prop}{w:World}(z:Nat):∀(l:List (List AV))(cs:List Value),cs.length=l.length*z->(∀(i:Nat)(x:List AV),l[i]?=some x->yR br w ((cs.drop (i*z)).take z) x)->yR br w cs l.flatten
 |[],cs,hl,hr=>by have h1:cs=[]:=ck.1 (by simpa using hl);rw[h1];exact .nil _ _
 |x::l,cs,hl,hr=>by have h0:=hr 0 x rfl;rw[Nat.zero_mul,List.drop_zero]at h0;simp only[aW,bK,kR]at hl;have ih:=LN z l (cs.drop z) (by simp only[dL];omega) (λi y hy=>by have :=hr (i+1) y (by simpa using hy);rw[xl];rw[bK,kR,nV]at this;exact this);rw[<-fH z cs,nU];exact h0.append ih
theorem LO {w:World}{base:Nat}{a:Addr}{n:Nat}{cs:List Value}(h:w.cells? base a n=some cs):cs.length=n/\∀(i:Nat)(c:Value),cs[i]?=some c->w.cell? (a.add i)=some c:=by
 unfold World.cells? at h;split at h;obtain⟨h1,h2⟩:=QM h;simp at h1;refine⟨h1,λi c hc=>?_⟩;have hi:i<n:=by rw[<-h1];exact(aI.1 hc).1
 exact h2 i i c (by simp[hi]) hc;cases h
theorem VH {w:World}{a:Addr}{c:Value}(h:w.cell? a=some c):a.block<w.heap.size/\a.spot=none:=by
 unfold World.cell? at h;split at h;rename_i hq;refine⟨(bz.1 hq).1,?_⟩;split at h;cases h;rename_i hs;cases hsp:a.spot with
 |none=>rfl
 |some x=>rw[hsp]at hs;simp at hs
 cases h
theorem DF {P:Program}{ts:List TypeId}(h:BZ P ts=true){t:TypeId}(ht:t∈ts):t<P.types.size/\LM P ts t=true:=by have :=bD.1 h t ht;simpa using this
theorem lay_of {P:Program}(hl:laidOutB P=true){t:TypeId}(ht:t<P.types.size):rowFine P t=true:=by simp only[laidOutB,bn]at hl;exact bD.1 hl.1.1 t (by simpa using ht)
theorem aap {H:Type}{enc:TypeId×Value->H}{P:Program}{w:World}{held:Bool}{spare:Nat->Bool}{ts:List TypeId}(hl:laidOutB P=true)(hf:BZ P ts=true):∀(fuel:Nat)(t:TypeId)(cs:List Value)(d:DataW H)(ps:List MemPlace),t∈ts->DataW.trod enc P w 0 spare held fuel t cs=some (d,ps)->∃xs,gE P t d xs/\cs.length=P.cellsOf t/\yR (λb _=>b<w.heap.size) w cs xs:=by
 intro fuel;induction fuel with
 |zero=>intro t cs d ps ht h;cases h
 |succ fuel ih=>
  intro t cs d ps ht h;obtain⟨hlt,hft⟩:=DF hf ht;have hrow:=lay_of hl hlt;unfold LM at hft;have hone:∀{u:TypeDesc},P.underlying t=some u->(match u with|.bool|.int _|.string|.slice _=>True|_=>False)->P.cellsOf t=1:=λ{u} hu hm=>by unfold rowFine isVar at hrow;simp only[hu,hlt,decide_true,gO]at hrow;cases u<;>simp_all[kindOk]
  split at hft;rename_i hu;obtain⟨b,rfl,hx⟩:=DataW.trod_bool hu h;obtain⟨rfl,rfl⟩:=iF hx;exact⟨_,.bool t b hu,(hone hu trivial).symm,.one (.bool b) rfl⟩;rename_i k hu;obtain⟨n,rfl,hx,hwf⟩:=DataW.trod_int hu h;obtain⟨rfl,rfl⟩:=iF hx;exact⟨_,.int t k n hu hwf,(hone hu trivial).symm,.one (.int k n) rfl⟩;rename_i hu;obtain⟨⟨⟨s⟩⟩,rfl,hx,hwf⟩:=DataW.trod_string hu h;obtain⟨rfl,rfl⟩:=iF hx;exact⟨_,.str t s hu,(hone hu trivial).symm,.one (.str s) rfl⟩
  ·rename_i e hu;simp only[bn,ek,xA,ne_eq,DG]at hft;obtain⟨he,ZB⟩:=hft;rcases DataW.trod_slice hu h with⟨rfl,hx⟩|⟨a,len,cap,elems,rest,m,hm,rfl,hx,hb,hlc,hcm,hel,vX,_,_⟩;obtain⟨rfl,rfl⟩:=iF hx;exact⟨_,.nil t e hu,(hone hu trivial).symm,.one (.Vg none 0) rfl⟩;obtain⟨rfl,rfl⟩:=iF hx;obtain rfl:fuel=m:=oO
   have aiR:=hone hu trivial;have each:∀i,i<len->∃(x:List Value×List AV) (d:DataW H),(elems.map (·.1))[i]?=some d/\gE P e d x.2/\x.1.length=P.cellsOf e/\yR (λb _=>b<w.heap.size) w x.1 x.2/\w.cells? 0 (a.add (i*P.cellsOf e)) (P.cellsOf e)=some x.1:=λi hi=>by
    have h1:=vX i hi;have hlt':i<elems.length:=oO
    rw[ay hlt']at h1;obtain⟨cs',hcs,htr⟩:=Option.bind_eq_some_iff.1 h1;obtain⟨xs,g1,g2,g3⟩:=ih e cs' elems[i].1 elems[i].2 he htr;exact⟨(cs',xs),elems[i].1,by simp[hlt'],g1,g2,g3,hcs⟩
   obtain⟨l,Pk,GS⟩:=vg len _ each;refine⟨[.sl (l.map (·.2))],.slice t e _ _ _ hu (by simp[hel,Pk]) (λi d x hd hx=>?_),aiR.symm,.one ?_ rfl⟩;rw[aM]at hx;cases Tu:l[i]?with
   |none=>rw[Tu]at hx;cases hx
   |some y=>rw[Tu]at hx;obtain rfl:=aq hx;obtain⟨d',k1,k2,_⟩:=GS i y Tu;rw[hd]at k1;obtain rfl:=aq k1;exact k2
   by_cases h0:len=0;subst h0;obtain rfl:l=[]:=ck.1 Pk;exact .Vg _ _;have hpos:0<P.cellsOf e:=xx ZB;have hsp:a.spot=none:=by
    obtain⟨y,hy⟩:∃y,l[0]?=some y:=⟨l[0]'oO,ay _⟩;obtain⟨d',_,_,k3,_,k5⟩:=GS 0 y hy;obtain⟨c1,c2⟩:=LO k5;have alm:0<y.1.length:=oO
    have :=(VH (c2 0 y.1[0] (ay alm))).2;simpa[Addr.add]using this
   obtain⟨b,off,spot⟩:=a;obtain rfl:spot=none:=hsp;have key:∀(i:Nat)(ys:List AV)(j:Nat)(y:AV),(l.map (·.2))[i]?=some ys->ys[j]?=some y->∃z c,l[i]?=some z/\z.2=ys/\z.1[j]?=some c/\w.cell? ⟨b,off+i*P.cellsOf e+j,none⟩=some c/\dH (λb _=>b<w.heap.size) w c y/\y.one=true/\ys.length=P.cellsOf e:=λi ys j y h1 h2=>by
    rw[aM]at h1;cases Tu:l[i]?with
    |none=>rw[Tu]at h1;cases h1
    |some z=>
     rw[Tu]at h1;obtain rfl:=aq h1;simp only at h2;obtain⟨d',_,_,k3,⟨r1,r2,r3⟩,k5⟩:=GS i z Tu;obtain⟨c1,c2⟩:=LO k5;have hjl:j<z.1.length:=by rw[r1];exact(aI.1 h2).1
     refine⟨z,z.1[j],rfl,rfl,ay hjl,?_,r3 j _ _ (ay hjl) h2,r2 _ (bW h2),by show z.2.length=_;omega⟩;have :=c2 j _ (ay hjl);rwa[Go.WideShapes.add_plain,Go.WideShapes.add_plain]at this
   have hlen:(l.map (·.2)).length=len:=by simp[Pk]
   rw[<-hlen];refine .sl b off cap (P.cellsOf e) _ (λi j=>match l[i]?with|some z=>z.1.getD j undef|none=>undef) ?_ ?_ ?_ ?_ ?_ oO;intro i ys h1;rw[aM]at h1;cases Tu:l[i]?with
   |none=>rw[Tu]at h1;cases h1
   |some z=>rw[Tu]at h1;obtain rfl:=aq h1;obtain⟨d',_,_,k3,⟨r1,_⟩,_⟩:=GS i z Tu;show z.2.length=_;omega
   all_goals intro i ys j y h1 h2;obtain⟨z,c,hz,hzy,GQ,hcell,oD,hy1,_⟩:=key i ys j y h1 h2
   exact hy1;simp only[hz,List.getD,GQ,xw];exact hcell;exact(VH hcell).1;simp only[hz,List.getD,GQ,xw];exact oD
  rename_i fs hu;obtain⟨xs,m,hm,hx,mF,hxl,vX⟩:=DataW.trod_struct hu h;obtain⟨rfl,rfl⟩:=iF hx;obtain rfl:fuel=m:=oO
  have hall:=bD.1 hft;have hk:isVar P t=true:=by unfold isVar;rw[hu];simp[hlt,kindOk]
  unfold rowFine at hrow;rw[hk,hu]at hrow;simp only[xD,gA,bn,beq_iff_eq]at hrow;obtain⟨⟨_,hsum⟩,hoff⟩:=hrow;have each:∀i,i<fs.size->∃(x:List AV),∀f d,fs.toList[i]?=some f->(xs.map (·.1))[i]?=some d->gE P f.type d x/\yR (λb _=>b<w.heap.size) w ((cs.drop f.offset).take (P.cellsOf f.type)) x:=λi hi=>by
   have h1:=vX i fs[i] (tA hi);have hlt':i<xs.length:=oO
   rw[ay hlt']at h1;have hmem:fs[i].type∈ts:=by have :=hall fs[i] (by simp);simpa using this
   obtain⟨x,g1,g2,g3⟩:=ih fs[i].type _ xs[i].1 xs[i].2 hmem h1;refine⟨x,λf d hf hd=>?_⟩;rw[tj,tA hi]at hf;obtain rfl:=aq hf;rw[aM,ay hlt']at hd;obtain rfl:=aq hd;exact⟨g1,g3⟩
  obtain⟨l,Pk,GS⟩:=vg fs.size _ each;refine⟨l.flatten,.struct t fs _ l hu (by simp[hxl]) (by simp[Pk,hxl]) (λi f d x hf hd hx=>(GS i x hx f d hf hd).1),mF,?_⟩;have hp:=IK (br:=λb _=>b<w.heap.size) (w:=w) (λf=>P.cellsOf f.type) cs fs.toList 0 l (by simp[Pk]) (λj f hf=>by have hj:j<fs.toList.length:=(aI.1 hf).1;have :=bD.1 hoff j (by simpa using hj);rw[hf]at this;simpa using this) (by simpa[mF]using hsum) (λj f x hf hx=>by
   have hj:j<xs.length:=by rw[hxl];simpa using(aI.1 hf).1
   exact(GS j x hx f (xs[j].1) hf (by simp[hj])).2);simpa using hp;rename_i n e hu;rw[DG]at hft;obtain⟨xs,m,hm,hx,mF,hxl,vX⟩:=DataW.trod_array hu h;obtain⟨rfl,rfl⟩:=iF hx;obtain rfl:fuel=m:=oO
  have hk:isVar P t=true:=by unfold isVar;rw[hu];simp[hlt,kindOk]
  unfold rowFine at hrow;rw[hk,hu]at hrow;simp only[xD,gA,bn,beq_iff_eq]at hrow;obtain⟨_,hsum⟩:=hrow;have each:∀i,i<n->∃(x:List AV),∀d,(xs.map (·.1))[i]?=some d->gE P e d x/\yR (λb _=>b<w.heap.size) w ((cs.drop (i*P.cellsOf e)).take (P.cellsOf e)) x:=λi hi=>by
   have h1:=vX i hi;have hlt':i<xs.length:=oO
   rw[ay hlt']at h1;obtain⟨x,g1,g2,g3⟩:=ih e _ xs[i].1 xs[i].2 hft h1;refine⟨x,λd hd=>?_⟩;rw[aM,ay hlt']at hd;obtain rfl:=aq hd;exact⟨g1,g3⟩
  obtain⟨l,Pk,GS⟩:=vg n _ each;refine⟨l.flatten,.arr t e n _ l hu (by simp[hxl]) Pk (λi d x hd hx=>(GS i x hx d hd).1),mF,?_⟩;refine LN (P.cellsOf e) l cs (by rw[mF,hsum,Pk]) (λi x hx=>?_);have hj:i<xs.length:=by have :=(aI.1 hx).1;omega
  exact(GS i x hx (xs[i].1) (by simp[hj])).2;cases hft
theorem Gi {H:Type}{enc:TypeId×Value->H}{P:Program}{w:World}{held:Bool}{spare:Nat->Bool}{ts:List TypeId}(hl:laidOutB P=true)(hf:BZ P ts=true):∀(us:List TypeId)(vs:List Value)(ds:List (DataW H))(ps:List MemPlace),(∀u,u∈us->u∈ts)->DataW.TrodAll enc P w 0 spare held us vs ds ps->vs.length=us.length/\ds.length=us.length/\∀(i:Nat)(u:TypeId)(v:Value)(d:DataW H),us[i]?=some u->vs[i]?=some v->ds[i]?=some d->∃xs,gE P u d xs/\yR (λb _=>b<w.heap.size) w v.cells.toList xs
 |[],[],[],ps,hm,h=>⟨rfl,rfl,λi u v d h=>by simp at h⟩
 |u::us,v::vs,d::ds,ps,hm,h=>by
  obtain⟨p,q,⟨fuel,h1⟩,h2,h3⟩:=h;obtain⟨xs,g1,_,g3⟩:=aap hl hf fuel u _ d p (hm u (by simp)) h1;obtain⟨k1,k2,k3⟩:=Gi hl hf us vs ds q (λu hu=>hm u (by simp[hu])) h2;refine⟨by simp[k1],by simp[k2],λi u' v' d' h4 h5 h6=>?_⟩;cases i with
  |zero=>simp at h4 h5 h6;subst h4;subst h5;subst h6;exact⟨xs,g1,g3⟩
  |succ i=>exact k3 i u' v' d' (by simpa using h4) (by simpa using h5) (by simpa using h6)
end Qv
namespace Qv
open Go Go.RowKit Go.WideShapes Go.ChangeShapes Go.WideElems
def DH (P:Program)(t:TypeId)(xs:List AV):AV:=match P.underlying t with|some (.struct _)=>.agg xs|some (.array _ _)=>.agg xs|_=>xs.headD (.bool false)
theorem zK {P:Program}{t:TypeId}{u:TypeDesc}{x:AV}(h:P.underlying t=some u)(hu:∀fs,u≠.struct fs)(hu':∀n e,u≠.array n e:=by intro _ _ h;cases h):DH P t [x]=x:=by unfold DH;rw[h];cases u<;>first|rfl|exact absurd rfl (hu _)|exact absurd rfl (hu' _ _)
theorem DI {P:Program}{t:TypeId}{fs:Array Field}{xs:List AV}(h:P.underlying t=some (.struct fs)):DH P t xs=.agg xs:=by unfold DH;rw[h]
theorem aaq {P:Program}{t e:TypeId}{n:Nat}{xs:List AV}(h:P.underlying t=some (.array n e)):DH P t xs=.agg xs:=by unfold DH;rw[h]
def DJ {H:Type}(P:Program)(t:TypeId)(d:DataW H)(x:AV):Prop:=∃ys,gE P t d ys/\x=DH P t ys
theorem adV {H:Type}{P:Program}{w:World}{r:Reach}{base:Nat}{t:TypeId}{v:Value}{d:DataW H}{xs:List AV}{br:Nat->Nat->Prop}(hv:Value.okWide P w r base t v)(hd:gE P t d xs)(h:yR br w v.cells.toList xs):dH br w v (DH P t xs):=by
 have single:∀{x:AV},xs=[x]->v.cells=#[v]->(∀fs,P.underlying t≠some (.struct fs))->(∀n e,P.underlying t≠some (.array n e))->dH br w v (DH P t xs):=λ{x} hx hc hs hs'=>by subst hx;rw[hc]at h;have h1:=h.2.2 0 v x rfl rfl;unfold DH;split;rename_i fs hu;exact absurd hu (hs fs);rename_i n e hu;exact absurd hu (hs' n e);exact h1
 cases hd with
 |bool _ b hu=>obtain⟨b',rfl⟩:=okWide_bool hu hv;exact single rfl rfl (by rw[hu];intro _ h;cases h) (by rw[hu];intro _ _ h;cases h)
 |int _ k n hu _=>obtain⟨b',rfl⟩:=okWide_int hu hv;exact single rfl rfl (by rw[hu];intro _ h;cases h) (by rw[hu];intro _ _ h;cases h)
 |str _ s hu=>obtain⟨b',rfl⟩:=okWide_string hu hv;exact single rfl rfl (by rw[hu];intro _ h;cases h) (by rw[hu];intro _ _ h;cases h)
 |nil _ e hu=>obtain⟨a,b,c,rfl⟩:=okWide_slice hu hv;exact single rfl rfl (by rw[hu];intro _ h;cases h) (by rw[hu];intro _ _ h;cases h)
 |slice _ e ds sp xs' hu _ _=>obtain⟨a,b,c,rfl⟩:=okWide_slice hu hv;exact single rfl rfl (by rw[hu];intro _ h;cases h) (by rw[hu];intro _ _ h;cases h)
 |struct _ fs ds pieces hu _ _ _=>obtain⟨cs,rfl,_⟩:=okWide_struct hu hv;unfold DH;rw[hu];have :=dH.agg (br:=br) (w:=w) cs.toList pieces.flatten h.1 h.2.1 h.2.2;simpa using this
 |arr _ e n ds pieces hu _ _ _=>simp only[Value.okWide,hu]at hv;obtain⟨cs,rfl,_⟩:=hv;unfold DH;rw[hu];have :=dH.agg (br:=br) (w:=w) cs.toList pieces.flatten h.1 h.2.1 h.2.2;simpa using this
theorem aar {H:Type}{enc:TypeId×Value->H}{P:Program}{w:World}{r:Reach}{base:Nat}{held:Bool}{spare:Nat->Bool}{ts:List TypeId}(hl:laidOutB P=true)(hf:BZ P ts=true){us:List TypeId}{vs:List Value}{ds:List (DataW H)}{ps:List MemPlace}(hm:∀u,u∈us->u∈ts)(h:DataW.TrodAll enc P w 0 spare held us vs ds ps)(hv:∀(j:Nat)(t:TypeId)(v:Value),us[j]?=some t->vs[j]?=some v->Value.okWide P w r base t v):∃xs:List AV,vs.length=xs.length/\xs.length=us.length/\ds.length=us.length/\(∀(i:Nat)(u:TypeId)(d:DataW H)(x:AV),us[i]?=some u->ds[i]?=some d->xs[i]?=some x->DJ P u d x)/\∀(i:Nat)(v:Value)(x:AV),vs[i]?=some v->xs[i]?=some x->dH (λb _=>b<w.heap.size) w v x:=by
 obtain⟨k1,k2,k3⟩:=Gi hl hf us vs ds ps hm h;have each:∀i,i<us.length->∃x,∀(u:TypeId)(v:Value)(d:DataW H),us[i]?=some u->vs[i]?=some v->ds[i]?=some d->DJ P u d x/\dH (λb _=>b<w.heap.size) w v x:=λi hi=>by obtain⟨xs,g1,g2⟩:=k3 i us[i] (vs[i]'oO) (ds[i]'oO) (ay hi) (ay _) (ay _);refine⟨DH P us[i] xs,λu v d hu WT hd=>?_⟩;rw[ay hi]at hu;rw[ay oO]at WT hd;obtain rfl:=aq hu;obtain rfl:=aq WT;obtain rfl:=aq hd;exact⟨⟨xs,g1,rfl⟩,adV (hv i _ _ (ay hi) (ay _)) g1 g2⟩
 obtain⟨l,Pk,GS⟩:=vg us.length _ each;refine⟨l,oO,Pk,k2,λi u d x hu hd hx=>?_,λi v x WT hx=>?_⟩;have hi:i<us.length:=(aI.1 hu).1;exact(GS i x hx u (vs[i]'oO) d hu (ay _) hd).1;have hi:i<us.length:=by have :=(aI.1 hx).1;omega
 exact(GS i x hx us[i] v (ds[i]'oO) (ay hi) WT (ay _)).2
def AM (P:Program)(ns:List String):Bool:=ns.all λn=>((P.globalNamed n).bind (P.globals[·]?)).all λgl=>P.readableRec gl.type&&decide (gl.type<P.types.size)
section
variable {H:Type}{enc:TypeId×Value->H}{P:Program}
theorem LP (hl:laidOutB P=true){W W':World}(hb:Below W.heap.size W W'){sp:Nat->Bool}:∀{ts:List TypeId}{vs:List Value}{ds:List (DataW H)}{ps:List MemPlace},(ts.all λt=>P.readableRec t&&decide (t<P.types.size))=true->(∀x∈ps,x.block<W.heap.size)->(∀x∈ps,sp x.block=true)->DataW.TrodAll enc P W 0 (λ_=>true) true ts vs ds ps->DataW.TrodAll enc P W' 0 sp true ts vs ds ps
 |[],[],[],_,_,_,_,h=>h
 |t::ts,v::vs,d::ds,ps,hr,hlt,hs,⟨p,q,h1,h2,e⟩=>by
  simp only[tg,bn,decide_eq_true_eq]at hr;have m1:∀x∈p,x∈ps:=λx hx=>by rw[e];exact jJ _ hx
  have m2:∀x∈q,x∈ps:=λx hx=>by rw[e];exact tH _ hx
  exact⟨p,q,WideElems.Trod_stays hl hr.1.1 hr.1.2 h1 (λx hx=>hb.same (hlt x (m1 x hx))) (λx hx=>hs x (m1 x hx)),LP hl hb hr.2 (λx hx=>hlt x (m2 x hx)) (λx hx=>hs x (m2 x hx)) h2,e⟩
theorem LQ (hl:laidOutB P=true){W W':World}(hb:Below W.heap.size W W'){sp:Nat->Bool}:∀{ns:List String}{gs:List (DataW H)}{ps:List MemPlace},AM P ns=true->(∀x∈ps,sp x.block=true)->DataW.TrodVars enc P W (λ_=>true) ns gs ps->DataW.TrodVars enc P W' sp ns gs ps
 |[],[],_,_,_,h=>h
 |[],_::_,_,_,_,h=>h.elim
 |_::_,[],_,_,_,h=>h.elim
 |n::ns,d::ds,ps,hv,hsp,h=>by
  have hlt:=h.lt;obtain⟨g,t,cs,fuel,p,q,h1,h2,h3,h4,hs,e⟩:=h;simp only[AM,tg,bn]at hv;have ht:P.readableRec t=true/\t<P.types.size:=by
   have :=hv.1;rw[h1]at this;cases hg:P.globals[g]?with
   |none=>rw[hg]at h2;cases h2
   |some gl=>rw[hg]at h2;obtain rfl:gl.type=t:=aq h2;simpa[hg]using this
  have hp:∀x∈p,x.block<W.heap.size:=λx hx=>hlt x (by rw[e];simp[hx]);have h3':W'.var? P n=some cs:=by
   unfold World.var? at h3⊢;rw[h1]at h3⊢;simp only[nZ]at h3⊢;have hg:g<W.heap.size:=by
    cases hh:W.heap[g]?with
    |none=>rw[hh]at h3;cases h3
    |some o=>exact(bz.1 hh).1
   rw[hb.block g hg];exact h3
  exact⟨g,t,cs,fuel,p,q,h1,h2,h3',DataW.trod_stays (kids_book hl ht.1) (book_sized ht.1) (λh=>by cases h) ⟨ht.2,book_self t⟩ h4 (λx hx=>hb.same (hp x hx)) (λx hx=>hsp x (by rw[e];simp[hx])),LQ hl hb (by simpa[AM]using hv.2) (λx hx=>hsp x (by rw[e];simp[hx])) hs,e⟩
theorem Ty {f:Func}{s:ChangeSpec}{apart fresh handsOn again:Bool}{W W':World}{args:Array Value}{v:Value}{ds gs:List (DataW H)}{before pa pv:List MemPlace}(hW:DataW.Whole enc P f.params.toList s.vars apart W args.toList ds gs before)(hres:∀(b:Nat)(sp:Nat->Bool)(hd:Bool),DataW.TrodAll enc P W' b sp hd f.resultTypes.toList (v.resultList f.resultTypes.size) (s.fn H (ds++gs)).results [])(hargs:∀sp:Nat->Bool,(∀p∈before,sp p.block=true)->DataW.TrodAll enc P W' 0 sp true f.params.toList args.toList (s.fn H (ds++gs)).args pa)(hvars:∀sp:Nat->Bool,(∀p∈before,sp p.block=true)->DataW.TrodVars enc P W' sp s.vars (s.fn H (ds++gs)).vars pv)(hps:before=pa++pv)(hb:Below W.heap.size W W')(hok:∀(j:Nat)(t:TypeId)(r:Value),f.resultTypes[j]?=some t->(v.resultList f.resultTypes.size)[j]?=some r->Value.okWide P W' .any 0 t r):s.post enc P f apart fresh handsOn again W args v W':=by
 have hlt:∀p∈before,p.block<W.heap.size:=λp hp=>hW.lt p hp;have hold:∀p∈before,(λb=>decide (b<W.heap.size)) p.block=true:=λp hp=>by simpa using hlt p hp
 refine⟨ds,gs,before,[],pa,pv,hW,hres _ _ _,hargs _ hold,hvars _ hold,World.keptBut_mono (λp hp=>⟨hp,?_⟩) (hb.frame (·∈before)),λ_=>?_⟩;rw[hps,bk]at hp;exact Or.inr hp;obtain⟨_,_,_,_,_,hz,hn⟩:=hW;refine⟨hok,_,_,([]++pa)++pv,⟨[]++pa,pv,trodAll_append (hargs _ (λ_ _=>rfl)) (hres _ _ _),hvars _ (λ_ _=>rfl),rfl,?_,?_⟩,?_⟩;intro b off hp;have hin:MemPlace.cell b off∈before:=by rw[hps];simpa using hp
 rw[hb.frozen (hlt _ hin)];exact hz b off hin;intro ha;have :=hn ha;rw[hps]at this;simpa using this;intro p hp _;rw[hps];simpa using hp
end
theorem Xi {H:Type}{enc:TypeId×Value->H}{Cx:Ctx}{fid:FuncId}{f:Func}{s:ChangeSpec}{apart fresh handsOn again:Bool}{W:World}{base:Nat}{args:Array Value}{ds gs:List (DataW H)}{before:List MemPlace}{ts:List TypeId}{tb:TypeId}{r:Reach}(hl:laidOutB Cx.P=true)(hf:BZ Cx.P ts=true)(hsub:f.params.toList.all (λu=>ts.contains u)=true)(hread:(f.params.toList.all λt=>Cx.P.readableRec t&&decide (t<Cx.P.types.size))=true)(hvars:AM Cx.P s.vars=true)(hres:f.resultTypes=#[tb])(htb:Cx.P.underlying tb=some .bool)(hspec:(s.fn H (ds++gs)).results=[.lit (.bool true)]/\(s.fn H (ds++gs)).args=ds/\(s.fn H (ds++gs)).vars=gs)(hval:∀(j:Nat) t v,f.params[j]?=some t->args[j]?=some v->Value.okWide Cx.P W r base t v)(hW:DataW.Whole enc Cx.P f.params.toList s.vars apart W args.toList ds gs before)(hJ:Cx.J W/\qc (λb _=>b<W.heap.size) W)(hng:Cx.nt<=W.heap.size)(alo:∀xs:List AV,xs.length=f.params.size->ds.length=f.params.size->(∀(i:Nat)(u:TypeId)(d:DataW H)(x:AV),f.params[i]?=some u->ds[i]?=some d->xs[i]?=some x->DJ Cx.P u d x)->av Cx fid xs (λq=>q=.val (.bool true))):Calls Cx.P fid args W λe W'=>∃v,e=.returned v/\s.post enc Cx.P f apart fresh handsOn again W args v W':=by
 have hW':=hW;obtain⟨p,q,hA,hV,rfl,hfz,Ti⟩:=hW;obtain⟨xs,h1,h2,h3,h4,h5⟩:=aar hl hf (λu hu=>by have :=bD.1 hsub u hu;simpa using this) hA (r:=r) (base:=base) (λj t v hj hv=>hval j t v (by simpa using hj) (by simpa using hv));obtain⟨_,hc⟩:=alo xs (by simpa using h2) (by simpa using h3) (λi u d x hu hd hx=>h4 i u d x (by simpa using hu) hd hx);have dO:=hc (λb _=>b<W.heap.size) W args.toList hJ hng (λb o h=>h) h1 h5;simp only[Ds]at dO;refine dO.mono λe W' ⟨v,rr,he,hr,alp,hb⟩=>?_;subst hr;have hv:v=.bool true:=by cases alp;rfl
 subst hv;refine⟨_,he,Ty (pa:=p) (pv:=q) hW' (λb sp hd=>?_) (λsp hs=>?_) (λsp hs=>?_) rfl hb (ok_one hres rfl (okWide_bool_mk htb _))⟩;rw[hspec.1,hres];exact trodAll_mk1 (shut_bool htb _);rw[hspec.2.1];exact LP hl hb hread (λx hx=>hW'.lt x (jJ _ hx)) (λx hx=>hs x (jJ _ hx)) hA;rw[hspec.2.2];exact LQ hl hb hvars (λx hx=>hs x (tH _ hx)) hV
theorem Ca {α β:Type}(enc:α->β):∀(l:List β),(∀x,x∈l->∃a,x=enc a)->∃ls:List α,l=ls.map enc|[],_=>⟨[],rfl⟩|x::l,h=>by obtain⟨a,ha⟩:=h x (by simp);obtain⟨ls,hls⟩:=Ca enc l λy hy=>h y (by simp[hy]);exact⟨a::ls,by simp[ha,hls]⟩
section
variable {H:Type}{P:Program}{t:TypeId}{d:DataW H}{xs:List AV}
theorem gE.nF (hu:P.underlying t=some .bool)(h:gE P t d xs):∃b,xs=[.bool b]:=by
 cases h with
 |bool _ b _=>exact⟨b,rfl⟩
 |_=>simp_all
theorem gE.gh {k:IntKind}(hu:P.underlying t=some (.int k))(h:gE P t d xs):∃n,xs=[.int k n]/\(Lit.int k n).wf=true:=by
 cases h with
 |int _ k' n h1 h2=>
  rw[hu]at h1;obtain rfl:k=k':=by simpa using h1
  exact⟨n,rfl,h2⟩
 |_=>simp_all
theorem gE.kq (hu:P.underlying t=some .string)(h:gE P t d xs):∃s,xs=[.str s]:=by
 cases h with
 |str _ s _=>exact⟨s,rfl⟩
 |_=>simp_all
theorem gE.nc {e:TypeId}{α:Type}{enc:α->List AV}(hu:P.underlying t=some (.slice e))(he:∀(d:DataW H)(x:List AV),gE P e d x->∃a,x=enc a)(h:gE P t d xs):∃ls:List α,xs=[.sl (ls.map enc)]:=by
 cases h with
 |nil _ _ _=>exact⟨[],rfl⟩
 |slice _ e' ds sp ys h1 h2 h3=>
  rw[hu]at h1;obtain rfl:e=e':=by simpa using h1
  obtain⟨ls,hls⟩:=Ca enc ys λx hx=>by
   obtain⟨i,hi⟩:=iX hx;have hlt:i<ds.length:=by rw[h2];exact(aI.1 hi).1
   exact he _ x (h3 i _ x (ay hlt) hi)
  exact⟨ls,by rw[hls]⟩
 |_=>simp_all
theorem gE.adW {e:TypeId}{n:Nat}(hu:P.underlying t=some (.array n e))(h:gE P t d xs):∃(ds:List (DataW H)) (pieces:List (List AV)),d=.agg ds/\xs=pieces.flatten/\ds.length=n/\pieces.length=n/\∀(i:Nat)(d:DataW H)(x:List AV),ds[i]?=some d->pieces[i]?=some x->gE P e d x:=by
 cases h with
 |arr _ e' n' ds pieces h1 h2 h3 h4=>rw[hu]at h1;have h5:=aq h1;injection h5 with h5 h6;subst h5;subst h6;exact⟨ds,pieces,rfl,rfl,h2,h3,h4⟩
 |_=>simp_all
theorem gE.pq {fs:Array Field}(hu:P.underlying t=some (.struct fs))(h:gE P t d xs):∃(ds:List (DataW H)) (pieces:List (List AV)),d=.agg ds/\xs=pieces.flatten/\ds.length=fs.size/\pieces.length=fs.size/\∀(i:Nat)(f:Field)(d:DataW H)(x:List AV),fs.toList[i]?=some f->ds[i]?=some d->pieces[i]?=some x->gE P f.type d x:=by
 cases h with
 |struct _ fs' ds pieces h1 h2 h3 h4=>
  rw[hu]at h1;obtain rfl:fs=fs':=by simpa using h1
  exact⟨ds,pieces,rfl,rfl,by simpa using h2.symm,by simp at h2;omega,h4⟩
 |_=>simp_all
end
mutual def AV.wt:AV->Nat|.str s=>s.length+1|.sl xs=>AV.KM xs+1|.bool _=>1|.int _ _=>1|_=>0 def AV.wtL:List AV->Nat|[]=>0|x::xs=>AV.wt x+AV.wtL xs def AV.KM:List (List AV)->Nat|[]=>0|x::xs=>AV.wtL x+AV.KM xs end
theorem Tz (a b:List AV):AV.wtL (a++b)=AV.wtL a+AV.wtL b:=by
 induction a with
 |nil=>simp[AV.wtL]
 |cons x a ih=>simp[AV.wtL,ih];omega
theorem afW (l:List (List AV)):AV.wtL l.flatten=AV.KM l:=by
 induction l with
 |nil=>simp[AV.wtL,AV.KM]
 |cons x l ih=>simp[AV.KM,Tz,ih]
theorem aiS (l:List (List AV)):AV.KM l=(l.map AV.wtL).sum:=by
 induction l with
 |nil=>rfl
 |cons x l ih=>simp[AV.KM,ih]
theorem adX:∀(l:List (List AV))(ms:List Nat),ms.length=l.length->(∀(i:Nat)(x:List AV)(m:Nat),l[i]?=some x->ms[i]?=some m->AV.wtL x<=m)->AV.KM l<=ms.sum
 |[],ms,_,_=>by simp[AV.KM]
 |x::l,[],h,_=>by simp at h
 |x::l,m::ms,h,hi=>by have h0:=hi 0 x m rfl rfl;have ih:=adX l ms (by simpa using h) λi y k hy hk=>hi (i+1) y k (by simpa using hy) (by simpa using hk);simp only[AV.KM,qq];omega
inductive AV.Small (M:Nat):AV->Prop|bool (b:Bool):AV.Small M (.bool b)|int (k:IntKind)(n:Int):AV.Small M (.int k n)|str (s:List UInt8):s.length<=M->AV.Small M (.str s)|sl (xs:List (List AV)):xs.length<=M->(∀ys,ys∈xs->∀y,y∈ys->AV.Small M y)->AV.Small M (.sl xs)
def LR (P:Program)(ts:List TypeId):Bool:=ts.all λt=>match P.underlying t with|some (.slice e)=>decide (0<P.bytesOf e)|_=>true
theorem uz {H:Type}{P:Program}{e:TypeId}:∀{ds:List (DataW H)}{d:DataW H}{n:Nat},d∈ds->n∈d.weights P e->n∈DataW.weightsAll P e ds|x::ds,d,n,h,hn=>by simp only[DataW.weightsAll,bk];rcases aL.1 h with rfl|h;exact .inl hn;exact .inr (uz h hn)
theorem sH {H:Type}{P:Program}:∀{ts:List TypeId}{ds:List (DataW H)}{i:Nat}{t:TypeId}{d:DataW H}{n:Nat},ts[i]?=some t->ds[i]?=some d->n∈d.weights P t->n∈DataW.weightsEach P ts ds
 |[],ds,i,t,d,n,h1,h2,h3=>by simp at h1
 |u::ts,[],i,t,d,n,h1,h2,h3=>by simp at h2
 |u::ts,x::ds,0,t,d,n,h1,h2,h3=>by simp at h1 h2;subst h1;subst h2;simp[DataW.weightsEach,h3]
 |u::ts,x::ds,i+1,t,d,n,h1,h2,h3=>by simp only[DataW.weightsEach,bk];exact .inr (sH (by simpa using h1) (by simpa using h2) h3)
theorem gE.small {H:Type}{P:Program}{M:Nat}{ts:List TypeId}(hf:BZ P ts=true)(hb:LR P ts=true){t:TypeId}{d:DataW H}{xs:List AV}(h:gE P t d xs):t∈ts->(∀n,n∈d.weights P t->n<=M)->∀x,x∈xs->AV.Small M x:=by
 induction h with
 |bool t b hu=>intro ht _ x hx;simp at hx;subst hx;exact .bool b
 |int t k n hu _=>intro ht _ x hx;simp at hx;subst hx;exact .int k n
 |str t s hu=>intro ht hw x hx;simp at hx;subst hx;exact .str s (hw _ (by simp[DataW.weights]))
 |nil t e hu=>intro ht _ x hx;simp at hx;subst hx;exact .sl [] (zL) (by simp)
 |slice t e ds sp ys hu hl _ ih=>
  intro ht hw x hx;simp at hx;subst hx;have hpos:0<P.bytesOf e:=by have :=bD.1 hb t ht;rw[hu]at this;simpa using this
  have he:e∈ts:=by have :=(DF hf ht).2;unfold LM at this;rw[hu]at this;simp only[bn,DG]at this;exact this.1
  simp only[DataW.weights,hu]at hw;refine .sl ys ?_ λzs hz y hy=>?_;have :=hw _ kX;have h2:(ds.length+sp.length)*1<=(ds.length+sp.length)*P.bytesOf e:=Nat.mul_le_mul_left _ hpos;omega;obtain⟨i,hi⟩:=iX hz;have hlt:i<ds.length:=by rw[hl];exact(aI.1 hi).1
  refine ih i _ zs (ay hlt) hi he (λn hn=>hw n ?_) y hy;exact dG _ (jJ _ (uz (aQ hlt) hn))
 |struct t fs ds pieces hu hl hp _ ih=>
  intro ht hw x hx;obtain⟨piece,hpm,hxp⟩:=Dt.1 hx;obtain⟨i,hi⟩:=iX hpm;have hlt:i<ds.length:=by have :=(aI.1 hi).1;omega
  have hlf:i<fs.toList.length:=oO
  have he:(fs.toList[i]).type∈ts:=by have :=(DF hf ht).2;unfold LM at this;rw[hu]at this;have :=bD.1 this _ (aQ hlf);simpa using this
  simp only[DataW.weights,hu]at hw;exact ih i _ _ piece (ay hlf) (ay hlt) hi he (λn hn=>hw n (sH (t:=(fs.toList[i]).type) (by rw[aM,ay hlf];rfl) (ay hlt) hn)) x hxp
 |arr t e n ds pieces hu hl hp _ ih=>
  intro ht hw x hx;obtain⟨piece,hpm,hxp⟩:=Dt.1 hx;obtain⟨i,hi⟩:=iX hpm;have hlt:i<ds.length:=by have :=(aI.1 hi).1;omega
  have he:e∈ts:=by have :=(DF hf ht).2;unfold LM at this;rw[hu]at this;simpa using this
  simp only[DataW.weights,hu]at hw;exact ih i _ piece (ay hlt) hi he (λn hn=>hw n (uz (aQ hlt) hn)) x hxp
theorem AV.Small.kq {M:Nat}{s:List UInt8}(h:AV.Small M (.str s)):s.length<=M:=by cases h;assumption
theorem AV.Small.lG {M:Nat}{xs:List (List AV)}(h:AV.Small M (.sl xs)):xs.length<=M/\∀ys,ys∈xs->∀y,y∈ys->AV.Small M y:=by cases h;exact⟨by assumption,by assumption⟩
theorem IL {P:Program}{W:World}{n:String}{d:DataW Unit}:∀{l:List (String×DataW Unit)}{ps:List MemPlace},DataW.LaidVars P W l ps->(n,d)∈l->∃g t cs fuel p,P.globalNamed n=some g/\(P.globals[g]?).map (·.type)=some t/\W.var? P n=some cs/\DataW.trod (λ_=>()) P W 0 (λ_=>true) false fuel t cs.toList=some (d,p)|(m,e)::l,ps,⟨g,t,cs,fuel,p,q,h1,h2,h3,h4,h5,h6⟩,h=>by rcases aL.1 h with h|h;cases h;exact⟨g,t,cs,fuel,p,h1,h2,h3,h4⟩;exact IL h5 h
theorem adY {P:Program}{W:World}{l:List (String×DataW Unit)}{name:String}{k:IntKind}{zs:List Int}{g:Nat}{t e:TypeId}{n:Nat}(hg:P.globalNamed name=some g)(hty:(P.globals[g]?).map (·.type)=some t)(ht:P.underlying t=some (.array n e))(he:P.underlying e=some (.int k))(hce:P.cellsOf e=1)(hct:P.cellsOf t=n)(h:laidMet P l W)(hm:(name,Lib.tabData k zs)∈l):Lib.TabIs P W name k zs:=by obtain⟨ps,hl,_⟩:=h;obtain⟨g',t',cs,fuel,p,hg',ht',TA,hd⟩:=IL hl hm;obtain rfl:=aq (hg.symm.trans hg');obtain rfl:=aq (hty.symm.trans ht');unfold Lib.TabIs;rw[TA,<-Lib.cells_of_tab ht he hce hct hd]
theorem adZ {P:Program}{W:World}{l:List (String×DataW Unit)}{name:String}{d:DataW Unit}{g:Nat}(hg:P.globalNamed name=some g)(h:laidMet P l W)(hm:(name,d)∈l):g<W.heap.size:=by
 obtain⟨ps,hl,_⟩:=h;obtain⟨g',t',cs,fuel,p,hg',ht',TA,hd⟩:=IL hl hm;obtain rfl:=aq (hg.symm.trans hg');unfold World.var? at TA;rw[hg']at TA;simp only[nZ]at TA;cases hh:W.heap[g]?with
 |none=>rw[hh]at TA;cases TA
 |some o=>exact(bz.1 hh).1
theorem Gj {H:Type}{enc:TypeId×Value->H}{P:Program}{w:World}{base:Nat}{held:Bool}{spare:Nat->Bool}:∀{us:List TypeId}{vs:List Value}{ds:List (DataW H)}{ps:List MemPlace},DataW.TrodAll enc P w base spare held us vs ds ps->ds.length=us.length|[],[],[],_,_=>rfl|_::us,_::vs,_::ds,_,⟨_,_,_,h,_⟩=>by simp[Gj h]
theorem Xj {H:Type}{enc:TypeId×Value->H}{P:Program}{ts:List TypeId}{vars:List String}{apart:Bool}{w:World}{vs:List Value}{ds gs:List (DataW H)}{ps:List MemPlace}(h:DataW.Whole enc P ts vars apart w vs ds gs ps):ds.length=ts.length:=by obtain⟨_,_,hA,_⟩:=h;exact Gj hA
theorem TB {H:Type}{enc:TypeId×Value->H}{P:Program}{ts:List TypeId}{apart:Bool}{w:World}{vs:List Value}{ds gs:List (DataW H)}{ps:List MemPlace}(h:DataW.Whole enc P ts [] apart w vs ds gs ps):gs=[]:=by obtain⟨_,_,_,hV,_⟩:=h;exact(trodVars_none hV).1
theorem LS {H:Type}{P:Program}{ts us:List TypeId}{ds gs:List (DataW H)}(h:(DataW.weightsEach P (ts++us) (ds++gs)).all (·<=reachBytes)=true){i:Nat}{t:TypeId}{d:DataW H}(h1:ts[i]?=some t)(h2:ds[i]?=some d):∀n,n∈d.weights P t->n<=reachBytes:=λn hn=>by have l1:i<ts.length:=(aI.1 h1).1;have l2:i<ds.length:=(aI.1 h2).1;have :=bD.1 h n (sH (i:=i) (t:=t) (d:=d) (by rw[cF l1,h1]) (by rw[cF l2,h2]) hn);simpa using this
end Qv
namespace Qv
open Go Go.RowKit
theorem IM {e:Bool}{f:Bool->FV}{K:FV->Prop}(h:Al λt:Bool=>t=e->K (f t)):∃v,(Al λt:Bool=>t=e->f t=v)/\K v:=⟨f e,⟨λt ht=>ht▸rfl⟩,h.out e rfl⟩
theorem tJ {x:FV}{K:FV->Prop}(h:K x):∃v,x=v/\K v:=⟨x,rfl,h⟩
theorem AN {x:FV}{K:FV->Prop}(h:force x K):∃v,force x (λu=>u=v)/\K v:=by rw[force_eq]at h;exact⟨x,by rw[force_eq],h⟩
theorem ad0 {op:BinOp}{k:IntKind}{a b:Int}{K:FV->Prop}(h:Pr op k a b K):∃v,Pr op k a b (λu=>u=v)/\K v:=by unfold Pr at h⊢;cases op<;>first|exact IM h|exact h.elim|(obtain⟨c,h1,h2⟩:=h;exact⟨_,⟨c,h1,rfl⟩,h2⟩)|(obtain⟨h0,c,h1,h2⟩:=h;exact⟨_,⟨h0,c,h1,rfl⟩,h2⟩)
theorem Xk {op:BinOp}{k:IntKind}{a b:Int}{K:FV->Prop}(h:CK op k a b K):∃v,CK op k a b (λu=>u=v)/\K v:=by unfold CK at h⊢;cases op<;>first|exact h.elim|(obtain⟨h0,c,h1,h2⟩:=h;exact⟨_,⟨h0,c,h1,rfl⟩,h2⟩)
theorem ad1 {op:BinOp}{a b:List UInt8}{K:FV->Prop}(h:Pt op a b K):∃v,Pt op a b (λu=>u=v)/\K v:=by unfold Pt at h⊢;cases op<;>first|exact IM h|exact h.elim|(obtain⟨h0,h1⟩:=h;exact⟨_,⟨h0,rfl⟩,h1⟩)
theorem aat {C:Ctx}{aK:List (Nat×List FV)}{t:TypeId}{a:FV}{K:FV->Prop}(h:nB C aK t a K):∃v,nB C aK t a (λu=>u=v)/\K v:=by
 unfold nB at h⊢;repeat' split at h
 all_goals first|exact h.elim|exact tJ h|skip
 all_goals obtain⟨A,ys,B,e1,e2,h⟩:=h;repeat' split at h
 all_goals first|exact h.elim|exact⟨_,⟨A,ys,B,e1,e2,by simp_all⟩,h⟩
theorem KN {C:Ctx}{s:TypeId}{x:FV}{f:Nat}{K:FV->Prop}(h:nC C s x f K):∃v,nC C s x f (λu=>u=v)/\K v:=by
 unfold nC at h⊢;repeat' split at h
 all_goals first|exact h.elim|exact tJ h
theorem Xl {C:Ctx}{s:TypeId}{x:FV}{f:Nat}{K:FV->Prop}(h:wR C s x f K):∃v,wR C s x f (λu=>u=v)/\K v:=by
 unfold wR at h⊢;repeat' split at h
 all_goals first|exact h.elim|exact tJ h
theorem Xm {C:Ctx}{t:TypeId}{x i:FV}{K:FV->Prop}(h:wT C t x i K):∃v,wT C t x i (λu=>u=v)/\K v:=by
 unfold wT at h⊢;repeat' split at h
 all_goals first|exact h.elim|(obtain⟨h0,c,h1,h2⟩:=h;exact⟨_,⟨h0,c,h1,rfl⟩,h2⟩)|skip
 all_goals obtain⟨m,e1,e2,h⟩:=h;repeat' split at h
 all_goals first|exact h.elim|exact⟨_,⟨m,e1,e2,by simp_all⟩,h⟩
theorem KO {C:Ctx}{aK:List (Nat×List FV)}{t:TypeId}{x i:FV}{K:FV->Prop}(h:jP C aK t x i K):∃v,jP C aK t x i (λu=>u=v)/\K v:=by
 unfold jP at h⊢;repeat' split at h
 all_goals first|exact h.elim|(obtain⟨m,base,e1,e2,e3,h⟩:=h;exact⟨_,⟨m,base,e1,e2,e3,rfl⟩,h⟩)|(obtain⟨g0,ys,g1,g2,h⟩:=h;exact⟨_,⟨g0,ys,g1,g2,rfl⟩,h⟩)|skip
 all_goals obtain⟨m,e1,e2,h⟩:=h;repeat' split at h
 all_goals first|exact h.elim|(obtain⟨base,g1,h⟩:=h;exact⟨_,⟨m,e1,e2,base,g1,rfl⟩,h⟩)|(obtain⟨ys,g1,h⟩:=h;exact⟨_,⟨m,e1,e2,ys,g1,rfl⟩,h⟩)|skip
 all_goals obtain⟨sym,h⟩:=h;cases sym
 exact⟨_,⟨m,e1,e2,false,rfl⟩,h⟩;obtain⟨base,g1,h⟩:=h;exact⟨_,⟨m,e1,e2,true,base,g1,rfl⟩,h⟩
theorem aau {C:Ctx}{t:TypeId}{op:BinOp}{x y:FV}{K:FV->Prop}(h:EH C t op x y K):∃v,EH C t op x y (λu=>u=v)/\K v:=by
 unfold EH at h⊢;repeat' split at h
 all_goals first|exact h.elim|skip
 all_goals obtain⟨L,e1,e2,e3,e4,h⟩:=h;repeat' split at h
 all_goals first|exact h.elim|(obtain⟨v,g1,g2⟩:=IM h;exact⟨v,⟨L,e1,e2,e3,e4,g1⟩,g2⟩)
theorem ad3 {C:Ctx}{t:TypeId}{op:BinOp}{x y:FV}{K:FV->Prop}(h:HK C t op x y K):∃v,HK C t op x y (λu=>u=v)/\K v:=by
 unfold HK at h⊢;repeat' split at h
 all_goals first|exact h.elim|exact Xk h|exact ad0 h|exact ad1 h|exact tJ h|exact IM h|exact aau h
theorem aav {C:Ctx}{t:TypeId}{op:BinOp}{x:FV}{K:FV->Prop}(h:BJ C t op x K):∃v,BJ C t op x (λu=>u=v)/\K v:=by
 unfold BJ at h⊢;repeat' split at h
 all_goals first|exact h.elim|exact tJ h
theorem agO {op:UnOp}{x:FV}{K:FV->Prop}(h:SN op x K):∃v,SN op x (λu=>u=v)/\K v:=by
 unfold SN at h⊢;repeat' split at h
 all_goals first|exact h.elim|exact IM h|(obtain⟨c,h1,h2⟩:=h;exact⟨_,⟨c,h1,rfl⟩,h2⟩)
theorem QN {C:Ctx}{aK:List (Nat×List FV)}{b:Builtin}{args:List FV}{types:List TypeId}{K:FV->Prop}(h:jY C aK b args types K):∃v,jY C aK b args types (λu=>u=v)/\K v:=by
 unfold jY at h⊢;repeat' split at h
 all_goals first|exact h.elim|exact tJ h|(obtain⟨c,h1,h2⟩:=h;exact⟨_,⟨c,h1,rfl⟩,h2⟩)|(obtain⟨c,h1,h2⟩:=h;exact⟨_,⟨c,by simp_all<;>omega,rfl⟩,h2⟩)
def NY (C:Ctx)(f:FV)(args:List FV)(K:FV->Prop):Prop:=match f with
 |.p (.fn (.func g) first captured)=>match FV.gx args with|some xs=>∃x,av C g (first++xs++captured) (λr=>r=.val x)/\K (.p x)|none=>False
 |.fn (.func g) first captured=>match FV.gx (first++args++captured)with|some xs=>∃x,av C g xs (λr=>r=.val x)/\K (.p x)|none=>False
 |_=>False
theorem aaw {C:Ctx}{f:FV}{args:List FV}{K:FV->Prop}(h:NY C f args K):∃v,AA C f args (λu=>u=v)/\K v:=by unfold NY at h;split at h;simp only[AA];split at h;rename_i xs hx;simp only[hx];obtain⟨x,h1,h2⟩:=h;exact⟨_,⟨_,h1,λr hr=>by subst hr;rfl⟩,h2⟩;exact h.elim;simp only[AA];split at h;rename_i xs hx;simp only[hx];obtain⟨x,h1,h2⟩:=h;exact⟨_,⟨_,h1,λr hr=>by subst hr;rfl⟩,h2⟩;exact h.elim;exact h.elim
def agP (C:Ctx)(S:an)(op:Op)(K:FV->Prop):Prop:=match op with
 |.move x=>force (S.val x) K
 |.assign x=>force (S.val x) K
 |.pick c a b=>match S.val c with|.p (.bool true)=>force (S.val a) K|.p (.bool false)=>force (S.val b) K|_=>False
 |.binOp op t x y _=>match Nn y with|true=>BJ C t op (S.val x) K|false=>match No y with|true=>∃v,Np C t op (S.val x) (λu=>u=v)/\K v|false=>HK C t op (S.val x) (S.val y) K
 |.unOp op _ x=>SN op (S.val x) K
 |.load t a=>nB C S.aK t (S.val a) K
 |.fieldAddr s x f=>nC C s (S.val x) f K
 |.field s x f=>wR C s (S.val x) f K
 |.indexAddr t x i=>jP C S.aK t (S.val x) (S.val i) K
 |.index t x i=>wT C t (S.val x) (S.val i) K
 |.call c=>match c.callee with|.builtin b=>jY C S.aK b (c.args.toList.map S.val) c.argTypes.toList K|.value f=>NY C (S.val f) (c.args.toList.map S.val) K|.invoke _ _=>False
 |.nilCheck x=>match S.val x with|.ptr b off=>K (.ptr b off)|.p (.imp xs)=>K (.p (.imp xs))|.gV o base off=>K (.gV o base off)|.p (.fn (.func f) a b)=>K (.p (.fn (.func f) a b))|.fn (.func f) a b=>K (.fn (.func f) a b)|_=>False
 |.extract x i=>match S.val x with
  |.eN xs=>match gC i xs with|y::_=>K y|[]=>False
  |.p (.eN xs)=>match gC i xs with|y::_=>K (.p y)|[]=>False
  |_=>False
 |op=>∃v,eV C S op (λu=>u=v)/\K v
theorem VI {C:Ctx}{S:an}{op:Op}{K:FV->Prop}(h:agP C S op K):∃v,eV C S op (λu=>u=v)/\K v:=by
 unfold agP at h;split at h;exact AN h;exact AN h;simp only[eV];split at h;rename_i hc;simp only[hc];exact AN h;rename_i hc;simp only[hc];exact AN h;exact h.elim;simp only[eV];split at h;rename_i hc;simp only[hc];exact aav h;rename_i hc;simp only[hc];split at h;rename_i WO;simp only[WO];exact h;rename_i WO;simp only[WO];exact ad3 h;exact agO h;exact aat h;exact KN h;exact Xl h;exact KO h;exact Xm h;simp only[eV];split at h;rename_i hc;simp only[hc];exact QN h;rename_i hc;simp only[hc];exact aaw h;exact h.elim
 ·simp only[eV];split at h;all_goals first|exact h.elim|(rename_i hc;simp only[hc];exact tJ h)
 simp only[eV];split at h;rename_i hc;simp only[hc];split at h;rename_i hd;simp only[hd];exact tJ h;exact h.elim;rename_i hc;simp only[hc];split at h;rename_i hd;simp only[hd];exact tJ h;exact h.elim;exact h.elim;exact h
def ad4 (C:Ctx)(o:Oper)(K:an->Prop)(S:an):Prop:=agP C S o.op λv=>K (S.put o.dst v)
def KP (C:Ctx)(ops:Array Oper):List Oper->(an->Prop)->an->Prop
 |[],K,S=>K S
 |o::rest,K,S=>match o.guard with
  |none=>ad4 C o (KP C ops rest K) S
  |some (j,want)=>match(ops[j]?).bind (·.dst)with
   |none=>False
   |some d=>match S.get d with
    |.p (.bool b)=>match HT b want with|true=>ad4 C o (KP C ops rest K) S|false=>KP C ops rest K (S.put o.dst (.p (.eN [])))
    |.p (.eN [])=>KP C ops rest K (S.put o.dst (.p (.eN [])))
    |_=>False
theorem zM {C:Ctx}{ops:Array Oper}{K:an->Prop}:∀(l:List Oper)(S:an),KP C ops l K S->Ho C ops l K S|[],S,h=>h|o::rest,S,h=>by unfold KP at h;unfold Ho;split at h;rename_i hg;simp only[hg];unfold ad4 at h;obtain⟨v,h1,h2⟩:=VI h;exact⟨v,h1,zM rest _ h2⟩;rename_i j want hg;simp only[hg];split at h;exact h.elim;rename_i d hd;simp only[hd];split at h;rename_i b hb;simp only[hb];split at h;rename_i hs;simp only[hs];unfold ad4 at h;obtain⟨v,h1,h2⟩:=VI h;exact⟨v,h1,zM rest _ h2⟩;rename_i hs;simp only[hs];exact zM rest _ h;rename_i hb;simp only[hb];exact zM rest _ h;exact h.elim
theorem bZ {C:Ctx}{call:iR}{Y:pn}{ops:Array Oper}{K:an->Prop}{S:an}(m:Nat)(hd:BL ops m=true)(h:KP C ops (ops.toList.take m) (pK C call Y ops (ops.toList.drop m) K) S):lV C call Y ops true K S:=by unfold lV;exact⟨.lex m,hd,zM _ _ h⟩
theorem aax {C:Ctx}{call:iR}{Y:pn}{ops:Array Oper}{K:an->Prop}{S:an}(x:FV)(d:Nat)(hd:BL ops ops.size=true)(hk:qe ops.toList=[d])(h:KP C ops ops.toList (λS'=>S'.get d=x) S)(hK:K ((S.vH (dstsOf ops.toList)).put (some d) x)):lV C call Y ops true K S:=by
 unfold lV;refine⟨.keep (λvs=>vs=[x]),hd,?_,?_⟩;refine zM _ _ ?_;have e:(λS':an=>getAll S' (qe ops.toList)=[x])=λS'=>S'.get d=x:=by funext S';rw[hk];show([S'.get d]=[x])=_;rw[kS];simp
 rw[e];exact h;rw[hk];exact⟨λv=>⟨λhv=>by have :v=x:=(fI hv).1;subst this;exact hK⟩⟩
theorem VJ {C:Ctx}{ops:Array Oper}{K:an->Prop}{S:an}(x:FV)(d:Nat)(hk:qe ops.toList=[d])(h:KP C ops ops.toList (λS'=>S'.get d=x) S)(hK:K ((S.vH (dstsOf ops.toList)).put (some d) x)):Ho C ops ops.toList (λS'=>getAll S' (qe ops.toList)=[x]) S/\EL K (S.vH (dstsOf ops.toList)) (qe ops.toList) (λvs=>vs=[x]):=by
 refine⟨?_,?_⟩;refine zM _ _ ?_;have e:(λS':an=>getAll S' (qe ops.toList)=[x])=λS'=>S'.get d=x:=by funext S';rw[hk];show([S'.get d]=[x])=_;rw[kS];simp
 rw[e];exact h;rw[hk];exact⟨λv=>⟨λhv=>by have :v=x:=(fI hv).1;subst this;exact hK⟩⟩
end Qv
open Go Go.Proofs Go.RowKit
namespace Qv
theorem mM {p:Prop}(h:p:=by first|omega|(dsimp only;omega)):p:=h
def aay (w:World):Prop:=Lib.TabIs Tryz.prog w "internal/strconv.uint64pow10" .u64 Lib.pow10Tab
theorem IN:Tryz.prog.globalNamed "internal/strconv.uint64pow10" =some 1:=kK
theorem QO (w w':World)(h:∀k,k<4->w'.heap[k]?=w.heap[k]?)(hJ:aay w):aay w':=by unfold aay Lib.TabIs at*;rw[<-hJ];simp only[World.var?,IN,nZ,h 1 dD]
abbrev v8:Value:=.int .u8 0
def jE:List (TypeId×jV):=[(3,⟨1,8,.int .i64,[.int .i64 0]⟩),(4,⟨1,1,.bool,[.bool false]⟩),(54,⟨33,40,.struct [(0,33),(32,3)],[v8,v8,v8,v8,v8,v8,v8,v8,v8,v8,v8,v8,v8,v8,v8,v8,v8,v8,v8,v8,v8,v8,v8,v8,v8,v8,v8,v8,v8,v8,v8,v8,.int .i64 0]⟩),(9,⟨1,16,.str,[.string ⟨#[]⟩]⟩),(28,⟨1,24,.slice 109,[.slice none 0 0]⟩),(23,⟨1,24,.slice 39,[.slice none 0 0]⟩),(62,⟨1,24,.slice 54,[.slice none 0 0]⟩),(33,⟨32,32,.array 32 5,[v8,v8,v8,v8,v8,v8,v8,v8,v8,v8,v8,v8,v8,v8,v8,v8,v8,v8,v8,v8,v8,v8,v8,v8,v8,v8,v8,v8,v8,v8,v8,v8]⟩),(209,⟨1,4,.int .u32,[.int .u32 0]⟩),(109,⟨172,296,.struct [(0,54),(33,3),(34,54),(67,3),(68,54),(101,9),(102,3),(103,9),(104,9),(105,54),(138,54),(171,62)],[v8,v8,v8,v8,v8,v8,v8,v8,v8,v8,v8,v8,v8,v8,v8,v8,v8,v8,v8,v8,v8,v8,v8,v8,v8,v8,v8,v8,v8,v8,v8,v8,.int .i64 0,.int .i64 0,v8,v8,v8,v8,v8,v8,v8,v8,v8,v8,v8,v8,v8,v8,v8,v8,v8,v8,v8,v8,v8,v8,v8,v8,v8,v8,v8,v8,v8,v8,v8,v8,.int .i64 0,.int .i64 0,v8,v8,v8,v8,v8,v8,v8,v8,v8,v8,v8,v8,v8,v8,v8,v8,v8,v8,v8,v8,v8,v8,v8,v8,v8,v8,v8,v8,v8,v8,v8,v8,.int .i64 0,.string ⟨#[]⟩,.int .i64 0,.string ⟨#[]⟩,.string ⟨#[]⟩,v8,v8,v8,v8,v8,v8,v8,v8,v8,v8,v8,v8,v8,v8,v8,v8,v8,v8,v8,v8,v8,v8,v8,v8,v8,v8,v8,v8,v8,v8,v8,v8,.int .i64 0,v8,v8,v8,v8,v8,v8,v8,v8,v8,v8,v8,v8,v8,v8,v8,v8,v8,v8,v8,v8,v8,v8,v8,v8,v8,v8,v8,v8,v8,v8,v8,v8,.int .i64 0,.slice none 0 0]⟩),(34,⟨1,24,.slice 33,[.slice none 0 0]⟩),(42,⟨1,8,.int .i64,[.int .i64 0]⟩),(83,⟨139,264,.struct [(0,3),(1,54),(34,3),(35,54),(68,9),(69,3),(70,9),(71,54),(104,54),(137,81),(138,62)],[.int .i64 0,v8,v8,v8,v8,v8,v8,v8,v8,v8,v8,v8,v8,v8,v8,v8,v8,v8,v8,v8,v8,v8,v8,v8,v8,v8,v8,v8,v8,v8,v8,v8,v8,.int .i64 0,.int .i64 0,v8,v8,v8,v8,v8,v8,v8,v8,v8,v8,v8,v8,v8,v8,v8,v8,v8,v8,v8,v8,v8,v8,v8,v8,v8,v8,v8,v8,v8,v8,v8,v8,.int .i64 0,.string ⟨#[]⟩,.int .i64 0,.string ⟨#[]⟩,v8,v8,v8,v8,v8,v8,v8,v8,v8,v8,v8,v8,v8,v8,v8,v8,v8,v8,v8,v8,v8,v8,v8,v8,v8,v8,v8,v8,v8,v8,v8,v8,.int .i64 0,v8,v8,v8,v8,v8,v8,v8,v8,v8,v8,v8,v8,v8,v8,v8,v8,v8,v8,v8,v8,v8,v8,v8,v8,v8,v8,v8,v8,v8,v8,v8,v8,.int .i64 0,.slice none 0 0,.slice none 0 0]⟩),(37,⟨5,88,.struct [(0,9),(1,9),(2,3),(3,34),(4,35)],[.string ⟨#[]⟩,.string ⟨#[]⟩,.int .i64 0,.slice none 0 0,.slice none 0 0]⟩),(259,⟨1,24,.slice 261,[.slice none 0 0]⟩),(261,⟨3,48,.struct [(0,4),(1,9),(2,259)],[.bool false,.string ⟨#[]⟩,.slice none 0 0]⟩),(5,⟨1,1,.int .u8,[.int .u8 0]⟩),(81,⟨1,24,.slice 9,[.slice none 0 0]⟩),(35,⟨1,24,.slice 83,[.slice none 0 0]⟩),(210,⟨8,32,.array 8 209,[.int .u32 0,.int .u32 0,.int .u32 0,.int .u32 0,.int .u32 0,.int .u32 0,.int .u32 0,.int .u32 0]⟩),(24,⟨1,24,.slice 5,[.slice none 0 0]⟩),(117,⟨1,8,.func,[.nilFunc]⟩),(39,⟨37,120,.struct [(0,33),(32,37)],[v8,v8,v8,v8,v8,v8,v8,v8,v8,v8,v8,v8,v8,v8,v8,v8,v8,v8,v8,v8,v8,v8,v8,v8,v8,v8,v8,v8,v8,v8,v8,v8,.string ⟨#[]⟩,.string ⟨#[]⟩,.int .i64 0,.slice none 0 0,.slice none 0 0]⟩),(269,⟨64,256,.array 64 209,List.replicate 64 (.int .u32 0)⟩),(194,⟨1,8,.int .u64,[.int .u64 0]⟩),(41,⟨1,24,.slice 3,[.slice none 0 0]⟩),(148,⟨1,8,.map 54 4,[.map none]⟩),(198,⟨1,8,.map 33 34,[.map none]⟩),(200,⟨1,8,.map 33 4,[.map none]⟩),(163,⟨1,24,.slice 166,[.slice none 0 0]⟩),(166,⟨34,48,.struct [(0,54),(33,117)],[v8,v8,v8,v8,v8,v8,v8,v8,v8,v8,v8,v8,v8,v8,v8,v8,v8,v8,v8,v8,v8,v8,v8,v8,v8,v8,v8,v8,v8,v8,v8,v8,.int .i64 0,.nilFunc]⟩),(337,⟨1,8,.ptr 339,[.pointer none]⟩),(153,⟨1,8,.map 54 62,[.map none]⟩),(316,⟨1,8,.map 3 318,[.map none]⟩),(257,⟨1,8,.int .u64,[.int .u64 0]⟩),(347,⟨1,8,.ptr 349,[.pointer none]⟩),(296,⟨1,8,.func,[.nilFunc]⟩),(188,⟨1,8,.map 54 28,[.map none]⟩),(335,⟨1,8,.func,[.nilFunc]⟩),(236,⟨1,8,.func,[.nilFunc]⟩),(349,⟨2,16,.struct [(0,3),(1,4)],[.int .i64 0,.bool false]⟩),(121,⟨1,8,.func,[.nilFunc]⟩),(275,⟨1,8,.func,[.nilFunc]⟩),(290,⟨1,8,.map 3 3,[.map none]⟩),(158,⟨1,8,.func,[.nilFunc]⟩),(152,⟨1,8,.func,[.nilFunc]⟩),(132,⟨1,8,.func,[.nilFunc]⟩),(93,⟨1,8,.func,[.nilFunc]⟩),(227,⟨1,8,.func,[.nilFunc]⟩),(145,⟨1,8,.func,[.nilFunc]⟩),(61,⟨1,8,.func,[.nilFunc]⟩),(234,⟨1,8,.func,[.nilFunc]⟩),(243,⟨1,8,.func,[.nilFunc]⟩),(280,⟨1,8,.func,[.nilFunc]⟩),(283,⟨1,8,.func,[.nilFunc]⟩),(339,⟨2,32,.struct [(0,337),(1,24)],[.pointer none,.slice none 0 0]⟩),(352,⟨1,16,.iface,[.nilIface]⟩),(70,⟨1,8,.func,[.nilFunc]⟩),(226,⟨1,8,.func,[.nilFunc]⟩),(282,⟨1,8,.func,[.nilFunc]⟩),(86,⟨1,8,.func,[.nilFunc]⟩),(219,⟨1,8,.func,[.nilFunc]⟩),(38,⟨37,120,.struct [(0,33),(32,37)],[v8,v8,v8,v8,v8,v8,v8,v8,v8,v8,v8,v8,v8,v8,v8,v8,v8,v8,v8,v8,v8,v8,v8,v8,v8,v8,v8,v8,v8,v8,v8,v8,.string ⟨#[]⟩,.string ⟨#[]⟩,.int .i64 0,.slice none 0 0,.slice none 0 0]⟩),(104,⟨1,8,.func,[.nilFunc]⟩),(100,⟨1,8,.func,[.nilFunc]⟩),(245,⟨1,8,.func,[.nilFunc]⟩),(185,⟨1,8,.func,[.nilFunc]⟩),(279,⟨1,8,.func,[.nilFunc]⟩),(237,⟨1,8,.func,[.nilFunc]⟩),(322,⟨1,8,.func,[.nilFunc]⟩),(281,⟨1,8,.func,[.nilFunc]⟩),(318,⟨1,8,.func,[.nilFunc]⟩),(310,⟨1,8,.func,[.nilFunc]⟩),(313,⟨1,8,.func,[.nilFunc]⟩),(321,⟨1,8,.func,[.nilFunc]⟩),(183,⟨1,8,.func,[.nilFunc]⟩),(235,⟨1,8,.func,[.nilFunc]⟩),(233,⟨1,8,.func,[.nilFunc]⟩),(80,⟨1,8,.func,[.nilFunc]⟩),(22,⟨1,24,.slice 39,[.slice none 0 0]⟩),(32,⟨32,32,.array 32 5,[v8,v8,v8,v8,v8,v8,v8,v8,v8,v8,v8,v8,v8,v8,v8,v8,v8,v8,v8,v8,v8,v8,v8,v8,v8,v8,v8,v8,v8,v8,v8,v8]⟩),(53,⟨33,40,.struct [(0,33),(32,3)],[v8,v8,v8,v8,v8,v8,v8,v8,v8,v8,v8,v8,v8,v8,v8,v8,v8,v8,v8,v8,v8,v8,v8,v8,v8,v8,v8,v8,v8,v8,v8,v8,.int .i64 0]⟩),(36,⟨5,88,.struct [(0,9),(1,9),(2,3),(3,34),(4,35)],[.string ⟨#[]⟩,.string ⟨#[]⟩,.int .i64 0,.slice none 0 0,.slice none 0 0]⟩),(108,⟨172,296,.struct [(0,54),(33,3),(34,54),(67,3),(68,54),(101,9),(102,3),(103,9),(104,9),(105,54),(138,54),(171,62)],[v8,v8,v8,v8,v8,v8,v8,v8,v8,v8,v8,v8,v8,v8,v8,v8,v8,v8,v8,v8,v8,v8,v8,v8,v8,v8,v8,v8,v8,v8,v8,v8,.int .i64 0,.int .i64 0,v8,v8,v8,v8,v8,v8,v8,v8,v8,v8,v8,v8,v8,v8,v8,v8,v8,v8,v8,v8,v8,v8,v8,v8,v8,v8,v8,v8,v8,v8,v8,v8,.int .i64 0,.int .i64 0,v8,v8,v8,v8,v8,v8,v8,v8,v8,v8,v8,v8,v8,v8,v8,v8,v8,v8,v8,v8,v8,v8,v8,v8,v8,v8,v8,v8,v8,v8,v8,v8,.int .i64 0,.string ⟨#[]⟩,.int .i64 0,.string ⟨#[]⟩,.string ⟨#[]⟩,v8,v8,v8,v8,v8,v8,v8,v8,v8,v8,v8,v8,v8,v8,v8,v8,v8,v8,v8,v8,v8,v8,v8,v8,v8,v8,v8,v8,v8,v8,v8,v8,.int .i64 0,v8,v8,v8,v8,v8,v8,v8,v8,v8,v8,v8,v8,v8,v8,v8,v8,v8,v8,v8,v8,v8,v8,v8,v8,v8,v8,v8,v8,v8,v8,v8,v8,.int .i64 0,.slice none 0 0]⟩),(82,⟨139,264,.struct [(0,3),(1,54),(34,3),(35,54),(68,9),(69,3),(70,9),(71,54),(104,54),(137,81),(138,62)],[.int .i64 0,v8,v8,v8,v8,v8,v8,v8,v8,v8,v8,v8,v8,v8,v8,v8,v8,v8,v8,v8,v8,v8,v8,v8,v8,v8,v8,v8,v8,v8,v8,v8,v8,.int .i64 0,.int .i64 0,v8,v8,v8,v8,v8,v8,v8,v8,v8,v8,v8,v8,v8,v8,v8,v8,v8,v8,v8,v8,v8,v8,v8,v8,v8,v8,v8,v8,v8,v8,v8,v8,.int .i64 0,.string ⟨#[]⟩,.int .i64 0,.string ⟨#[]⟩,v8,v8,v8,v8,v8,v8,v8,v8,v8,v8,v8,v8,v8,v8,v8,v8,v8,v8,v8,v8,v8,v8,v8,v8,v8,v8,v8,v8,v8,v8,v8,v8,.int .i64 0,v8,v8,v8,v8,v8,v8,v8,v8,v8,v8,v8,v8,v8,v8,v8,v8,v8,v8,v8,v8,v8,v8,v8,v8,v8,v8,v8,v8,v8,v8,v8,v8,.int .i64 0,.slice none 0 0,.slice none 0 0]⟩),(27,⟨1,24,.slice 99,[.slice none 0 0]⟩),(29,⟨2,48,.struct [(0,27),(1,28)],[.slice none 0 0,.slice none 0 0]⟩),(30,⟨2,48,.struct [(0,27),(1,28)],[.slice none 0 0,.slice none 0 0]⟩),(40,⟨1,24,.slice 30,[.slice none 0 0]⟩),(55,⟨1,24,.slice 123,[.slice none 0 0]⟩),(56,⟨1,24,.slice 125,[.slice none 0 0]⟩),(57,⟨2,48,.struct [(0,55),(1,56)],[.slice none 0 0,.slice none 0 0]⟩),(58,⟨2,48,.struct [(0,55),(1,56)],[.slice none 0 0,.slice none 0 0]⟩),(88,⟨1,8,.map 54 109,[.map none]⟩),(89,⟨2,16,.struct [(0,87),(1,88)],[.map none,.map none]⟩),(90,⟨2,16,.struct [(0,87),(1,88)],[.map none,.map none]⟩),(98,⟨33,56,.struct [(0,33),(32,34)],[v8,v8,v8,v8,v8,v8,v8,v8,v8,v8,v8,v8,v8,v8,v8,v8,v8,v8,v8,v8,v8,v8,v8,v8,v8,v8,v8,v8,v8,v8,v8,v8,.slice none 0 0]⟩),(99,⟨33,56,.struct [(0,33),(32,34)],[v8,v8,v8,v8,v8,v8,v8,v8,v8,v8,v8,v8,v8,v8,v8,v8,v8,v8,v8,v8,v8,v8,v8,v8,v8,v8,v8,v8,v8,v8,v8,v8,.slice none 0 0]⟩),(118,⟨1,8,.ptr 190,[.pointer none]⟩),(120,⟨1,8,.map 54 3,[.map none]⟩),(122,⟨35,64,.struct [(0,54),(33,9),(34,4)],[v8,v8,v8,v8,v8,v8,v8,v8,v8,v8,v8,v8,v8,v8,v8,v8,v8,v8,v8,v8,v8,v8,v8,v8,v8,v8,v8,v8,v8,v8,v8,v8,.int .i64 0,.string ⟨#[]⟩,.bool false]⟩),(123,⟨35,64,.struct [(0,54),(33,9),(34,4)],[v8,v8,v8,v8,v8,v8,v8,v8,v8,v8,v8,v8,v8,v8,v8,v8,v8,v8,v8,v8,v8,v8,v8,v8,v8,v8,v8,v8,v8,v8,v8,v8,.int .i64 0,.string ⟨#[]⟩,.bool false]⟩),(124,⟨2,16,.struct [(0,3),(1,3)],[.int .i64 0,.int .i64 0]⟩),(125,⟨2,16,.struct [(0,3),(1,3)],[.int .i64 0,.int .i64 0]⟩),(134,⟨1,8,.ptr 203,[.pointer none]⟩),(144,⟨1,8,.map 33 3,[.map none]⟩),(169,⟨1,24,.slice 173,[.slice none 0 0]⟩),(171,⟨1,8,.func,[.nilFunc]⟩),(172,⟨34,48,.struct [(0,54),(33,171)],[v8,v8,v8,v8,v8,v8,v8,v8,v8,v8,v8,v8,v8,v8,v8,v8,v8,v8,v8,v8,v8,v8,v8,v8,v8,v8,v8,v8,v8,v8,v8,v8,.int .i64 0,.nilFunc]⟩),(173,⟨34,48,.struct [(0,54),(33,171)],[v8,v8,v8,v8,v8,v8,v8,v8,v8,v8,v8,v8,v8,v8,v8,v8,v8,v8,v8,v8,v8,v8,v8,v8,v8,v8,v8,v8,v8,v8,v8,v8,.int .i64 0,.nilFunc]⟩),(189,⟨2,16,.struct [(0,188),(1,148)],[.map none,.map none]⟩),(190,⟨2,16,.struct [(0,188),(1,148)],[.map none,.map none]⟩),(201,⟨1,8,.map 33 28,[.map none]⟩),(202,⟨2,32,.struct [(0,23),(1,201)],[.slice none 0 0,.map none]⟩),(203,⟨2,32,.struct [(0,23),(1,201)],[.slice none 0 0,.map none]⟩),(204,⟨1,24,.slice 207,[.slice none 0 0]⟩),(207,⟨34,48,.struct [(0,54),(33,117)],[v8,v8,v8,v8,v8,v8,v8,v8,v8,v8,v8,v8,v8,v8,v8,v8,v8,v8,v8,v8,v8,v8,v8,v8,v8,v8,v8,v8,v8,v8,v8,v8,.int .i64 0,.nilFunc]⟩)]
theorem aaz:∀t i,(t,i)∈jE->gj Tryz.prog t i:=by
 intro t i h;simp only[jE,aL,Prod.mk.injEq,gQ]at h;repeat (rcases h with⟨rfl,rfl⟩|h;exact⟨kK,kK,kK⟩)
 exact h.elim
noncomputable def C:Ctx:=⟨Tryz.prog,jE,aaz,aay,4,rfl,339,5,QO,[],{opens:=[],Nj:=[],full:=false}⟩
end Qv
open Go Go.RowKit
namespace Qv
abbrev Dg:={l:Bytes//l.length=32}
def aZ:Dg:=⟨List.replicate 32 0,rfl⟩
instance:Inhabited Dg:=⟨aZ⟩
structure bQ where
 p:Dg
 n:Int deriving DecidableEq,Inhabited
structure bR where
 id:bQ
 kind:Int
 file:bQ
 type:Int
 parent:bQ
 name:Bytes
 mode:Int
 data:Bytes
 text:Bytes
 fr:bQ
 to:bQ
 over:List bQ deriving DecidableEq,Inhabited
structure dw where
 kind:Int
 file:bQ
 type:Int
 parent:bQ
 name:Bytes
 mode:Int
 data:Bytes
 cQ:bQ
 dc:bQ
 lines:List Bytes
 over:List bQ deriving DecidableEq,Inhabited
structure gr where
 fQ:Bytes
 message:Bytes
 time:Int
 deps:List Dg
 changes:List dw deriving DecidableEq,Inhabited
structure fD where
 id:Dg
 pat:gr deriving DecidableEq,Inhabited
def cD (d:Dg):List AV:=[.int .u8 (d.1.getD 0 0).toNat,.int .u8 (d.1.getD 1 0).toNat,.int .u8 (d.1.getD 2 0).toNat,.int .u8 (d.1.getD 3 0).toNat,.int .u8 (d.1.getD 4 0).toNat,.int .u8 (d.1.getD 5 0).toNat,.int .u8 (d.1.getD 6 0).toNat,.int .u8 (d.1.getD 7 0).toNat,.int .u8 (d.1.getD 8 0).toNat,.int .u8 (d.1.getD 9 0).toNat,.int .u8 (d.1.getD 10 0).toNat,.int .u8 (d.1.getD 11 0).toNat,.int .u8 (d.1.getD 12 0).toNat,.int .u8 (d.1.getD 13 0).toNat,.int .u8 (d.1.getD 14 0).toNat,.int .u8 (d.1.getD 15 0).toNat,.int .u8 (d.1.getD 16 0).toNat,.int .u8 (d.1.getD 17 0).toNat,.int .u8 (d.1.getD 18 0).toNat,.int .u8 (d.1.getD 19 0).toNat,.int .u8 (d.1.getD 20 0).toNat,.int .u8 (d.1.getD 21 0).toNat,.int .u8 (d.1.getD 22 0).toNat,.int .u8 (d.1.getD 23 0).toNat,.int .u8 (d.1.getD 24 0).toNat,.int .u8 (d.1.getD 25 0).toNat,.int .u8 (d.1.getD 26 0).toNat,.int .u8 (d.1.getD 27 0).toNat,.int .u8 (d.1.getD 28 0).toNat,.int .u8 (d.1.getD 29 0).toNat,.int .u8 (d.1.getD 30 0).toNat,.int .u8 (d.1.getD 31 0).toNat]
def cI (x:bQ):List AV:=cD x.p++[.int .i64 x.n]
def oZ (l:List bQ):List (List AV):=l.map cI
def pe (l:List Dg):List (List AV):=l.map cD
def cA (a:bR):List AV:=cI a.id++([.int .i64 a.kind]++(cI a.file++([.int .i64 a.type]++(cI a.parent++([.str a.name,.int .i64 a.mode,.str a.data,.str a.text]++(cI a.fr++(cI a.to++[.sl (oZ a.over)])))))))
def gI (l:List bR):List (List AV):=l.map cA
def cC (c:dw):List AV:=[.int .i64 c.kind]++(cI c.file++([.int .i64 c.type]++(cI c.parent++([.str c.name,.int .i64 c.mode,.str c.data]++(cI c.cQ++(cI c.dc++[QL c.lines,.sl (oZ c.over)]))))))
def AO (l:List dw):List (List AV):=l.map cC
def cP (p:gr):List AV:=[.str p.fQ,.str p.message,.int .i64 p.time,.sl (pe p.deps),.sl (AO p.changes)]
def mT (s:fD):List AV:=cD s.id++cP s.pat
def kG (s:List fD):List (List AV):=s.map mT
theorem agQ (a:bR):(cA a).length=172:=rfl
theorem tK (s:fD):(mT s).length=37:=rfl
theorem IP (d:Dg):cD d=(List.range 32).map λi=>.int .u8 (d.1.getD i 0).toNat:=rfl
theorem IQ (d:Dg):cD d=d.1.map λb=>.int .u8 b.toNat:=by rw[IP];refine gz λi=>?_;rw[aM,aM];have hd:=d.2;by_cases h:i<32;rw[qt h,ay oO];simp[List.getD,ay (show i<d.1.length by omega)];rw[oe (by simp;omega),oe oO];rfl
theorem Gk:∀{a b c d:List AV},a.length=b.length->sameAs (a++c) (b++d)=(sameAs a b&&sameAs c d)
 |[],[],c,d,_=>by simp[sameAs]
 |x::a,y::b,c,d,h=>by have ih:=Gk (a:=a) (b:=b) (c:=c) (d:=d) (by simpa using h);simp only[cr,sameAs,ih,Bool.and_assoc]
 |[],_::_,_,_,h=>by simp at h
 |_::_,[],_,_,h=>by simp at h
theorem DK:∀a b:Bytes,sameAs (a.map λb=>.int .u8 b.toNat) (b.map λb=>.int .u8 b.toNat)=decide (a=b)
 |[],[]=>rfl
 |[],y::b=>by simp[sameAs]
 |x::a,[]=>by simp[sameAs]
 |x::a,y::b=>by simp only[bB,sameAs,sD,Bk,Zi,jI,gO,DK a b];rw[ot];simp only[bn,beq_iff_eq,decide_eq_true_eq,kS];constructor;rintro⟨h1,h2⟩;exact⟨aiQ h1,h2⟩;rintro⟨rfl,rfl⟩;exact⟨rfl,rfl⟩
theorem VK (a b:Dg):sameAs (cD a) (cD b)=decide (a=b):=by rw[IQ,IQ,DK];exact decide_eq_decide.2 ⟨λh=>Subtype.ext h,λh=>aY _ h⟩
theorem aaA (a b:bQ):sameAs (cI a) (cI b)=decide (a=b):=by obtain⟨p,n⟩:=a;obtain⟨q,m⟩:=b;show sameAs (cD p++[.int .i64 n]) (cD q++[.int .i64 m])=_;rw[Gk (show(cD p).length=(cD q).length from rfl),VK];simp only[sameAs,sD,Bk,Zi,jI,gO,Bool.and_true];rw[ot];simp[bQ.mk.injEq]
theorem afX (d:Dg){k:Nat}(h:k<32):aH (cD d)=(aH (cD d)).take k++([.p (.int .u8 (d.1.getD k 0).toNat)]++(aH (cD d)).drop (k+1))/\((aH (cD d)).take k).length=k:=by
 have hl:(aH (cD d)).length=32:=rfl;refine⟨?_,by rw[aR,hl];omega⟩;have h1:(aH (cD d))[k]?=some (.p (.int .u8 (d.1.getD k 0).toNat)):=by rw[we,IP,aM,qt h];rfl
 have h2:(aH (cD d)).drop k=.p (.int .u8 (d.1.getD k 0).toNat)::(aH (cD d)).drop (k+1):=by
  have hlt:k<(aH (cD d)).length:=by rw[hl];exact h
  rw[bY hlt];congr 1;rw[ay hlt]at h1;exact aq h1
 rw[tq,<-h2,fH]
def cmpL:Bytes->Bytes->Int|[],[]=>0|[],_::_=>-1|_::_,[]=>1|x::xs,y::ys=>if x.toNat<y.toNat then-1 else if y.toNat<x.toNat then 1 else cmpL xs ys
def dy (a b:Dg):Int:=cmpL a.1 b.1
def gb (a b:bQ):Int:=if dy a.p b.p≠0 then dy a.p b.p else if a.n<b.n then-1 else if b.n<a.n then 1 else 0
theorem LU {l:Bytes}{k:Nat}(h:k<l.length):l.drop k=l.getD k 0::l.drop (k+1):=by rw[bY h];simp[List.getD,ay h]
end Qv
open Go Go.Proofs Go.RowKit
namespace Qv
def sC:List gZ:=[.int .u8,.int .u8,.int .u8,.int .u8,.int .u8,.int .u8,.int .u8,.int .u8,.int .u8,.int .u8,.int .u8,.int .u8,.int .u8,.int .u8,.int .u8,.int .u8,.int .u8,.int .u8,.int .u8,.int .u8,.int .u8,.int .u8,.int .u8,.int .u8,.int .u8,.int .u8,.int .u8,.int .u8,.int .u8,.int .u8,.int .u8,.int .u8]
def Po:List gZ:=sC++[.int .i64]
theorem ct:fB Tryz.prog 40 33=some sC:=kK
theorem lz:fB Tryz.prog 40 54=some Po:=kK
theorem pg:Tryz.prog.eqGuardType Tryz.prog.depth 33=false:=kK
theorem ad5:Tryz.prog.eqGuardType Tryz.prog.depth 54=false:=kK
theorem pW {xs ys:List AV}{K:Prop}(h:K)(e1:fU Po xs=true:=by rfl)(e2:fU Po ys=true:=by rfl):∃L,fB Tryz.prog 40 54=some L/\Tryz.prog.eqGuardType Tryz.prog.depth 54=false/\fU L xs=true/\fU L ys=true/\K:=⟨Po,lz,ad5,e1,e2,h⟩
theorem zN {a b:Dg}{K:Bool->Prop}(h:K (decide (a=b))):Al λt:Bool=>t=sameAs (cD a) (cD b)->K t:=⟨λt ht=>by rw[ht,VK];exact h⟩
theorem jw {a b:bQ}{K:Bool->Prop}(h:K (decide (a=b))):Al λt:Bool=>t=sameAs (cI a) (cI b)->K t:=⟨λt ht=>by rw[ht,aaA];exact h⟩
theorem mw {a b:Dg}{K:Bool->Prop}(h:K (!decide (a=b))):Al λt:Bool=>t=!sameAs (cD a) (cD b)->K t:=⟨λt ht=>by rw[ht,VK];exact h⟩
theorem zO {a b:bQ}{K:Bool->Prop}(h:K (!decide (a=b))):Al λt:Bool=>t=!sameAs (cI a) (cI b)->K t:=⟨λt ht=>by rw[ht,aaA];exact h⟩
theorem xF (d:Dg):av C 128 [.agg (cD d)] (λr=>r=.val (.bool (decide (d=aZ)))):=by exact ak Tryz.func128 rfl rfl rfl ⟨sC,ct,pg,rfl,rfl,zN (a:=d) (b:=aZ) rfl⟩
theorem nH (a b:Dg):av C 99 [.agg (cD a),.agg (cD b)] (λr=>r=.val (.int .i64 (dy a b))):=by
 refine ak Tryz.func99 rfl rfl rfl (bJ 24 (λk:Nat=>[(2,.ptr 2 0),(3,.ptr 3 0),(5,.p (.int .i64 k))]) (λ_=>[(2,aH (cD a)),(3,aH (cD b))]) (λk=>k<=32/\cmpL (a.1.drop k) (b.1.drop k)=dy a b) (λk=>32-k) 0 ⟨oO,by simp[dy]⟩ rfl wS oS ?_);rintro k ⟨hk,hc⟩;have ha:=a.2;have hb:=b.2;refine aF (λhlt=>?_) (λhge=>?_);have hlt:k<32:=oO
 obtain⟨a1,a2⟩:=afX a hlt;obtain⟨b1,b2⟩:=afX b hlt;rw[LU (l:=a.1) (k:=k) oO,LU (l:=b.1) (k:=k) oO]at hc;generalize a.1.getD k 0=x at a1 hc;generalize b.1.getD k 0=y at b1 hc;have hc:(if x.toNat<y.toNat then-1 else if y.toNat<x.toNat then 1 else cmpL (a.1.drop (k+1)) (b.1.drop (k+1)))=dy a b:=hc;refine bZ 7 kK ⟨k,rfl,hlt,true,k,(by show 0+k*1=k;omega),?_⟩;refine⟨_,_,_,a1,a2,k,rfl,hlt,true,k,(by show 0+k*1=k;omega),?_⟩;refine⟨_,_,_,b1,b2,aF (λh=>?_) (λh=>?_)⟩;rw[ag oO]at hc;rw[<-hc];exact rfl;rw[af oO]at hc;refine bZ 7 kK ⟨k,rfl,hlt,true,k,(by show 0+k*1=k;omega),?_⟩;refine⟨_,_,_,a1,a2,k,rfl,hlt,true,k,(by show 0+k*1=k;omega),?_⟩;refine⟨_,_,_,b1,b2,aF (λh=>?_) (λh=>?_)⟩;rw[ag oO]at hc;rw[<-hc];exact rfl;rw[af oO]at hc;exact nx (k+1) (aT (k+1) ⟨hlt,hc⟩ oO rfl wS oS);obtain rfl:k=32:=oO
 rw[cZ oO,cZ oO]at hc;rw[<-hc];exact rfl
theorem zP (a b:bQ):av C 123 [.agg (cI a),.agg (cI b)] (λr=>r=.val (.int .i64 (gb a b))):=by refine ak Tryz.func123 rfl rfl rfl (cl (nH a.p b.p) ?_);unfold gb;generalize dy a.p b.p=c;refine cm (λh=>?_) (λh=>?_);rw[ag h];exact rfl;rw[af oO];refine aF (λh=>?_) (λh=>?_);rw[ag h];exact rfl;rw[af h];refine aF (λh=>?_) (λh=>?_);rw[ag oO];exact rfl;rw[af oO];exact rfl
end Qv
