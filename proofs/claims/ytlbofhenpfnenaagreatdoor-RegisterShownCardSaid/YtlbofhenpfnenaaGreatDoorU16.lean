/- Part 16 of the proof: its lemmas. No condition. -/
import Derived.Test.YtlbofhenpfnenaaGreatDoorU15
import Derived.Deep.LoopGhost
set_option maxRecDepth 10000
set_option maxHeartbeats 80000000
set_option linter.all false
namespace Qv
open Go Go.RowKit
section
variable {E:Env}{G:aV}{S:ai}{a:Act}{w:World}{o:Oper}{ops:Array Oper}{C:Ctx}{call:iw}{Y:pE}
theorem EY {fs:List (Nat×TypeId)}{jG:List (TypeId×jX)}{S S':ai}:∀(parts:List (Nat×Operand))(cells:List FV),(∀p,p∈parts->S'.val p.2=S.val p.2)->nv fs jG S' parts cells=nv fs jG S parts cells:=by
 intro parts;induction parts with
 |nil=>intro cells _;rfl
 |cons p parts ih=>obtain⟨i,x⟩:=p;intro cells h;have hx:=h (i,x) gq;simp only at hx;simp only[nv,hx];split;rfl;split;rfl;split;split;rfl;exact ih _ λp hp=>h p (bq _ hp);rfl
theorem vX {size:Nat}{S S':ai}:∀(parts:List (Nat×Operand))(cells:List FV),(∀p,p∈parts->S'.val p.2=S.val p.2)->fK size S' parts cells=fK size S parts cells:=by
 intro parts;induction parts with
 |nil=>intro cells _;rfl
 |cons p parts ih=>obtain⟨i,x⟩:=p;intro cells h;have hx:=h (i,x) gq;simp only at hx;simp only[fK,hx];split;split;rfl;exact ih _ λp hp=>h p (bq _ hp);rfl
theorem Gg {S S':ai}{t:TypeId}{parts:Array (Nat×Operand)}{K:FV->Prop}(h:∀p,p∈parts.toList->S'.val p.2=S.val p.2):ew C S' (.build t parts) K=ew C S (.build t parts) K:=by simp only[ew,Hr];split;split;rfl;rw[EY _ _ h];split;rfl;rw[vX _ _ h];rfl
theorem vY {S S':ai}{t:TypeId}{len:Nat}{parts:Array (Nat×Operand)}{K:FV->Prop}(h:∀p,p∈parts.toList->S'.val p.2=S.val p.2):ew C S' (.buildSlice t len parts) K=ew C S (.buildSlice t len parts) K:=by simp only[ew,lW];split;split;rfl;split;rfl;rw[vX _ _ h];rfl
theorem Gh {S S':ai}{op:Op}{K:FV->Prop}(hv:∀x,x∈op.operands->S'.val x=S.val x)(ho:S'.aN=S.aN)(hm:∀t x i ok,op=.lookup t x i ok->S'.maps=S.maps)(hit:∀it,op=.entry it->S'.iM=S.iM):ew C S' op K=ew C S op K:=by
 cases op<;>try rfl
 case lookup t x i ok=>simp only[ew];rw[hv x (by simp[Op.operands]),hv i (by simp[Op.operands]),hm _ _ _ _ rfl]
 case move x=>simp only[ew];rw[hv x (by simp[Op.operands])]
 case assign x=>simp only[ew];rw[hv x (by simp[Op.operands])]
 case pick c x y=>simp only[ew];rw[hv c (by simp[Op.operands]),hv x (by simp[Op.operands]),hv y (by simp[Op.operands])]
 case binOp op t x y yt=>simp only[ew];rw[hv x (by simp[Op.operands]),hv y (by simp[Op.operands])]
 case unOp op t x=>simp only[ew];rw[hv x (by simp[Op.operands])]
 case convert s d x=>simp only[ew];rw[hv x (by simp[Op.operands])]
 case makeInterface t x=>simp only[ew];rw[hv x (by simp[Op.operands])]
 case makeFunc fn first captured=>simp only[ew];have h1:first.toList.map S'.val=first.toList.map S.val:=fQ λx hx=>hv x (by simp[Op.operands];exact .inl (by simpa using hx));have h2:captured.toList.map S'.val=captured.toList.map S.val:=fQ λx hx=>hv x (by simp[Op.operands];exact .inr (by simpa using hx));rw[h1,h2]
 case build t parts=>exact Gg λp hp=>hv p.2 (by simp[Op.operands];exact⟨p.1,by simpa using hp⟩)
 case buildSlice t len parts=>exact vY λp hp=>hv p.2 (by simp[Op.operands];exact⟨p.1,by simpa using hp⟩)
 case load t x=>simp only[ew];rw[hv x (by simp[Op.operands]),ho]
 case nilCheck x=>simp only[ew];rw[hv x (by simp[Op.operands])]
 case fieldAddr s x f=>simp only[ew];rw[hv x (by simp[Op.operands])]
 case field s x f=>simp only[ew];rw[hv x (by simp[Op.operands])]
 case indexAddr t x i=>simp only[ew];rw[hv x (by simp[Op.operands]),hv i (by simp[Op.operands]),ho]
 case index t x i=>simp only[ew];rw[hv x (by simp[Op.operands]),hv i (by simp[Op.operands])]
 case slice t x lo hi mx=>
  cases mx with
  |some m=>rfl
  |none=>
   simp only[ew];have h1:lo.map S'.val=lo.map S.val:=by
    cases lo with
    |none=>rfl
    |some y=>simp only[eA];rw[hv y (by simp[Op.operands])]
   have h2:hi.map S'.val=hi.map S.val:=by
    cases hi with
    |none=>rfl
    |some y=>simp only[eA];rw[hv y (by simp[Op.operands])]
   rw[hv x (by simp[Op.operands]),h1,h2]
 case extract x i=>simp only[ew];rw[hv x (by simp[Op.operands])]
 case call c=>
  obtain⟨callee,args,types⟩:=c;have h1:args.toList.map S'.val=args.toList.map S.val:=fQ λx hx=>hv x (by cases callee<;>simp[Op.operands,Call.operands]<;>first|exact .inr (by simpa using hx)|(simpa using hx));cases callee with
  |value f=>simp only[ew];rw[h1,hv f (by simp[Op.operands,Call.operands])]
  |builtin b=>simp only[ew];rw[h1,ho]
  |invoke r m=>rfl
theorem ai.Iy {S:ai}{dst:Option Nat}{v:FV}{t:Nat}(h:∀d,dst=some d->t≠d):(S.put dst v).get t=S.get t:=by
 cases dst with
 |none=>rfl
 |some d=>
  have hne:=h d rfl;have :Nat.beq t d=false:=by cases hb:Nat.beq t d;rfl;exact absurd (aP hb) hne
  simp only[ai.get,ai.put,this]
theorem ai.xD {S:ai}{dst:Option Nat}{v:FV}{x:Operand}(h:∀d,dst=some d->x≠.tmp d):(S.put dst v).val x=S.val x:=by
 cases x with
 |tmp t=>exact ai.Iy λd hd e=>h d hd (by rw[e])
 |_=>rfl
theorem ai.QG {S:ai}{dst:Option Nat}{v:FV}:(S.put dst v).aN=S.aN:=by cases dst<;>rfl
theorem ai.put_comm {S:ai}{x y:Option Nat}{u v:FV}(h:∀d,x=some d->y≠some d):(S.put x u).put y v=(S.put y v).put x u:=by
 cases x with
 |none=>rfl
 |some d=>
  cases y with
  |none=>rfl
  |some e=>
   have hne:d≠e:=λhe=>h d rfl (he▸rfl);simp only[ai.put];congr 1;funext i;by_cases h1:i=d;have h2:Nat.beq i e=false:=by cases hb:Nat.beq i e;rfl;exact absurd ((aP hb).symm.trans h1).symm hne
   rw[h2];have h2:Nat.beq i d=false:=by cases hb:Nat.beq i d;rfl;exact absurd (aP hb) h1
   rw[h2]
theorem th {S:ai}{dst:Option Nat}{v:FV}{o:Oper}{K:FV->Prop}(h:∀d,dst=some d->d∉o.looksAt ops):ew C (S.put dst v) o.op K=ew C S o.op K:=Gh (λx hx=>ai.xD λd hd hxd=>h d hd (by subst hxd;exact gY _ (xE.2 ⟨.tmp d,by simpa using hx,rfl⟩))) ai.QG (λ_ _ _ _ _=>by cases dst<;>rfl) (λ_ _=>by cases dst<;>rfl)
def jt (ops:Array Oper)(S:ai)(o:Oper):Option Bool:=match o.guard with|none=>some true|some (j,want)=>match(ops[j]?).bind (·.dst)with|none=>none|some d=>match S.get d with|.p (.bool b)=>some (b==want)|.p (.eV [])=>some false|_=>none
theorem rZ {dst:Option Nat}{v:FV}(h:∀d,dst=some d->d∉o.looksAt ops):jt ops (S.put dst v) o=jt ops S o:=by unfold jt;split;rfl;rename_i j want hg;split;rfl;rename_i d hd;have :(S.put dst v).get d=S.get d:=ai.Iy λe he hde=>h e he (by subst hde;simp[Oper.looksAt,hg,hd]);rw[this]
theorem tj (hs:bp E G S a w){b:Bool}(h:jt ops S o=some b):Region.wanted o (yielded ops a.tmps)=b:=by unfold jt at h;unfold Region.wanted;split at h;rename_i hg;rw[hg];exact au h;rename_i j want hg;rw[hg];split at h;cases h;rename_i d hd;split at h;rename_i c hc;simp only[tg hs hd hc];have :=au h;rw[<-this];cases c<;>cases want<;>rfl;rename_i hc;simp only[rN hs hd hc];exact au h;cases h
def EZ:FV:=.p (.eV [])
def nA (C:Ctx)(ops:Array Oper)(o:Oper)(K:ai->Prop)(S:ai):Prop:=match jt ops S o with|some true=>∃v,ew C S o.op (λu=>u=v)/\K (S.put o.dst v)|some false=>K (S.put o.dst EZ)|none=>False
def Gi (C:Ctx)(call:iw)(Y:pE)(ops:Array Oper)(o:Oper)(K:ai->Prop)(S:ai):Prop:=match jt ops S o with|some true=>HX C call Y o K S|some false=>K (S.put o.dst EZ)|none=>False
theorem QH {rest:List Oper}{K:ai->Prop}(h:Kv C ops (o::rest) K S):nA C ops o (Kv C ops rest K) S:=by
 simp only[Kv]at h;unfold nA jt;split at h;rename_i hg;rw[hg];exact h;rename_i j want hg;rw[hg];split at h;exact h.elim;rename_i d hd;simp only[hd];split at h;rename_i b hb;rw[oI]at h;simp only[hb];cases EF:(b==want)with
 |true=>rw[EF]at h;exact h
 |false=>rw[EF]at h;exact h
 rename_i hb;simp only[hb];exact h;exact h.elim
theorem Iz {rest:List Oper}{K:ai->Prop}(h:pK C call Y ops (o::rest) K S):Gi C call Y ops o (pK C call Y ops rest K) S:=by
 simp only[pK]at h;unfold Gi jt;split at h;rename_i hg;rw[hg];exact h;rename_i j want hg;rw[hg];split at h;exact h.elim;rename_i d hd;simp only[hd];split at h;rename_i b hb;rw[oI]at h;simp only[hb];cases EF:(b==want)with
 |true=>rw[EF]at h;exact h
 |false=>rw[EF]at h;exact h
 rename_i hb;simp only[hb];exact h;exact h.elim
def kA (C:Ctx)(ops:Array Oper)(o:Oper)(x:FV)(S:ai):Prop:=(jt ops S o=some true/\ew C S o.op λu=>u=x)\/(jt ops S o=some false/\x=EZ)
theorem kB {K:ai->Prop}(h:nA C ops o K S):∃x,kA C ops o x S/\K (S.put o.dst x):=by unfold nA at h;split at h;rename_i hw;obtain⟨v,h1,h2⟩:=h;exact⟨v,.inl ⟨hw,h1⟩,h2⟩;rename_i hw;exact⟨EZ,.inr ⟨hw,rfl⟩,h⟩;exact h.elim
theorem kA.nA {x:FV}(hy:kA C ops o x S){K:ai->Prop}(h:K (S.put o.dst x)):nA C ops o K S:=by unfold Qv.nA;rcases hy with⟨hw,hv⟩|⟨hw,rfl⟩;rw[hw];exact⟨x,hv,h⟩;rw[hw];exact h
theorem kA.put {x:FV}(hy:kA C ops o x S){dst:Option Nat}{v:FV}(h:∀d,dst=some d->d∉o.looksAt ops):kA C ops o x (S.put dst v):=by unfold kA at*;rw[rZ h,th h];exact hy
theorem kA.VT {x:FV}{dst:Option Nat}{v:FV}(hy:kA C ops o x (S.put dst v))(h:∀d,dst=some d->d∉o.looksAt ops):kA C ops o x S:=by unfold kA at*;rw[rZ h,th h]at hy;exact hy
theorem XA {oi oj:Oper}{x:FV}(hap:oi.apart ops oj=true){K:ai->Prop}(hy:kA C ops oi x S)(h:nA C ops oj K (S.put oi.dst x)):nA C ops oj (λS'=>kA C ops oi x S'/\K (S'.put oi.dst x)) S:=by obtain⟨h1,h2,h3⟩:=Oper.apart_spec hap;obtain⟨u,hu,hK⟩:=kB h;refine(hu.VT h1).nA ⟨hy.put h3,?_⟩;rw[<-ai.put_comm h2];exact hK
def LH (C:Ctx)(call:iw)(Y:pE)(ops:Array Oper)(q:Nat->Bool)(i:Nat)(K:ai->Prop)(S:ai):Prop:=match ops[i]?with|none=>K S|some o=>match q i with|true=>nA C ops o K S|false=>∃K':ai->Prop,Gi C call Y ops o K' S/\∀S',K' S'->K S'
def XB (C:Ctx)(call:iw)(Y:pE)(ops:Array Oper)(q:Nat->Bool)(K:ai->Prop):Nat->Array Bool->ai->Prop|0,listed,S=>Region.ready .any ops listed=[]/\K S|fuel+1,listed,S=>(Region.ready .any ops listed=[]->K S)/\∀i∈Region.ready .any ops listed,LH C call Y ops q i (XB C call Y ops q K fuel (listed.setIfInBounds i true)) S
theorem zH (hs:pV E S a w){K:ai->Prop}{K':Act->World->Prop}{Q:Exit->Act->World->Prop}(h:nA E.C ops o K S)(hK:∀S a w,K S->pV E S a w->K' a w):if Region.wanted o (yielded ops a.tmps)then Dd E o a w K' Q else(∀f,o.about E.C.P w a.eval=some f->E.kX.fn f)/\K' (a.put o.dst undef) w:=by obtain⟨G,hs⟩:=hs;unfold nA at h;split at h;rename_i hw;rw[af (tj hs hw)];obtain⟨v,h1,h2⟩:=h;exact EX (K:=λ_=>True) hs h1 λa' w' hs'=>hK _ _ _ h2 hs';rename_i hw;rw[aa (by rw[tj hs hw];simp)];exact⟨λf _=>Env.gd f,hK _ _ _ h ⟨G,hs.put o.dst (jI G w)⟩⟩;exact h.elim
theorem zI (de:mc E.C call)(hY:eN E Y)(hs:pV E S a w){K:ai->Prop}{K':Act->World->Prop}{Q:Exit->Act->World->Prop}(h:Gi E.C call Y ops o K S)(hK:∀S a w,K S->pV E S a w->K' a w):if Region.wanted o (yielded ops a.tmps)then Dd E o a w K' Q else(∀f,o.about E.C.P w a.eval=some f->E.kX.fn f)/\K' (a.put o.dst undef) w:=by obtain⟨G,hs⟩:=hs;unfold Gi at h;split at h;rename_i hw;rw[af (tj hs hw)];exact ug de hY hs h λS' a' w' hk hs'=>hK _ _ _ hk hs';rename_i hw;rw[aa (by rw[tj hs hw];simp)];exact⟨λf _=>Env.gd f,hK _ _ _ h ⟨G,hs.put o.dst (jI G w)⟩⟩;exact h.elim
theorem TD (de:mc E.C call)(hY:eN E Y){q:Nat->Bool}{K:ai->Prop}{Q:Exit->Act->World->Prop}(hQ:∀S a w,K S->pV E S a w->Q .normal a w):∀(fuel:Nat)(listed:Array Bool)(S:ai)(a:Act)(w:World),pV E S a w->XB E.C call Y ops q K fuel listed S->wpAnyIn E.kX 0 E.C.P .any ops Q fuel listed a w:=by
 intro fuel;induction fuel with
 |zero=>intro listed S a w hs h;exact⟨h.1,hQ _ _ _ h.2 hs⟩
 |succ fuel ih=>intro listed S a w hs h;refine⟨λh0=>hQ _ _ _ (h.1 h0) hs,λi hi=>?_⟩;have h2:=h.2 i hi;unfold LH at h2;unfold wpOpIn;split at h2;rename_i ho;simp only[ho];exact ih _ _ _ _ hs h2;rename_i o ho;simp only[ho];split at h2;exact zH hs h2 λS a w hk hs'=>ih _ _ _ _ hs' hk;obtain⟨K',h3,h4⟩:=h2;exact zI de hY hs h3 λS a w hk hs'=>ih _ _ _ _ hs' (h4 _ hk)
def uh (ops:Array Oper)(listed:Array Bool):Prop:=listed.size=ops.size/\∀p o,ops[p]?=some o->listed.getD p false=true->∀e∈o.after,Region.binds .any e=true->listed.getD e.on false=true
theorem uh.set {listed:Array Bool}{i:Nat}(h:uh ops listed)(hi:i∈Region.ready .any ops listed):uh ops (listed.setIfInBounds i true):=by obtain⟨h1,h2⟩:=h;obtain⟨h0,o,ho,hall⟩:=mem_ready.1 hi;refine⟨by simpa using h1,λp op hp hl e he hb=>?_⟩;by_cases hpi:i=p;subst hpi;rw[ho]at hp;obtain rfl:=au hp;exact getD_set_true (hall e he hb);rw[getD_set_ne false hpi]at hl;exact getD_set_true (h2 p op hp hl e he hb)
theorem uh.reach {listed:Array Bool}(h:uh ops listed):∀(fuel j i:Nat),wX ops fuel j i=true->(∀o,ops[j]?=some o->∀e∈o.after,Region.binds .any e=true->listed.getD e.on false=true)->listed.getD i false=true:=by
 intro fuel;induction fuel with
 |zero=>intro j i hr;cases hr
 |succ fuel ih=>intro j i hr hall;simp only[wX]at hr;split at hr;cases hr;rename_i o ho;obtain⟨e,he,hb⟩:=fR.1 hr;simp only[aW,qd,beq_iff_eq]at hb;have hl:=hall o ho e (by simpa using he) hb.1;rcases hb.2 with hi|hr';exact hi▸hl;exact ih e.on i hr' λo' ho'=>h.2 e.on o' ho' hl
theorem QI {listed:Array Bool}{i:Nat}(h:listed.getD i true=false):listed.getD i false=false:=by rcases Nat.lt_or_ge i listed.size with h'|h';simp[h']at h⊢;exact h;simp[Dm h']at h
theorem TE {q:Nat->Bool}{K:ai->Prop}{i:Nat}{oi:Oper}{x:FV}(hi:ops[i]?=some oi)(him:q i=true):∀(fuel:Nat)(listed:Array Bool)(S:ai),uh ops listed->(∀j oj,ops[j]?=some oj->j≠i->listed.getD j true=false->wX ops ops.size j i=true\/(q j=true/\oi.apart ops oj=true))->i∈Region.ready .any ops listed->kA C ops oi x S->XB C call Y ops q K fuel (listed.setIfInBounds i true) (S.put oi.dst x)->XB C call Y ops q K (fuel+1) listed S:=by
 have self:∀{K':ai->Prop}{S:ai},kA C ops oi x S->K' (S.put oi.dst x)->LH C call Y ops q i K' S:=λhy h=>by unfold LH;simp only[hi,him];exact hy.nA h
 intro fuel;induction fuel with
 |zero=>intro listed S _ _ hr hy H;refine⟨λh=>(by rw[h]at hr;cases hr),λj hj=>?_⟩;by_cases hji:j=i;subst hji;exact self hy H;have :=ready_mono hj hji;rw[H.1]at this;cases this
 |succ fuel ih=>
  intro listed S jH hfree hr hy H;refine⟨λh=>(by rw[h]at hr;cases hr),λj hj=>?_⟩;by_cases hji:j=i;subst hji;exact self hy H;have h1:=H.2 j (ready_mono hj hji);obtain⟨aav,oj,hoj,hall⟩:=mem_ready.1 hj;rcases hfree j oj hoj hji aav with hre|⟨hjm,hap⟩;have h2:=jH.reach _ _ _ hre λo ho=>by rw[hoj]at ho;obtain rfl:=au ho;exact hall
  rw[QI (mem_ready.1 hr).1]at h2;cases h2;unfold LH at h1⊢;simp only[hoj,hjm]at h1⊢;have h2:=XA hap hy h1;have TF:∀k ok,ops[k]?=some ok->k≠i->(listed.setIfInBounds j true).getD k true=false->wX ops ops.size k i=true\/(q k=true/\oi.apart ops ok=true):=λk ok hk hki hun=>by refine hfree k ok hk hki ?_;by_cases hjk:j=k;subst hjk;exact aav;rw[getD_set_ne true hjk]at hun;exact hun
  obtain⟨y,hy2,h3⟩:=kB h2;refine hy2.nA (ih (listed.setIfInBounds j true) _ (jH.set hj) TF (ready_mono hr (eO hji)) h3.1 ?_);rw[Array.setIfInBounds_comm _ _ hji];exact h3.2
theorem IA {q:Nat->Bool}{listed:Array Bool}{i:Nat}{oi:Oper}(hi:ops[i]?=some oi)(h:VB ops q listed i=true)(j:Nat)(oj:Oper)(hj:ops[j]?=some oj)(hne:j≠i)(hun:listed.getD j true=false):wX ops ops.size j i=true\/(q j=true/\oi.apart ops oj=true):=by simp only[VB,hi,bY,iR]at h;have h1:=h j (bB.1 hj).1;simp only[hj,qd,beq_iff_eq,hne,false_or,hun,sS,aW]at h1;exact h1
theorem XC {m:Nat}{K:ai->Prop}:∀(l:List Oper)(k:Nat)(listed:Array Bool)(S:ai),m<=k->(∀j,l[j]?=ops[k+j]?)->tZ ops m l.length k listed=true->pK C call Y ops l K S->XB C call Y ops (λi=>decide (i<m)) K l.length listed S:=by
 intro l;induction l with
 |nil=>intro k listed S _ _ hB h;exact⟨by simpa[tZ]using hB,h⟩
 |cons o l ih=>
  intro k listed S hk hl hB h;have h0:ops[k]?=some o:=by simpa using(hl 0).symm
  have hkm:decide (k<m)=false:=by simp;omega
  simp only[aL,tZ,hkm,aW,beq_iff_eq]at hB;obtain⟨hr,hB'⟩:=hB;refine⟨λe=>(by rw[hr]at e;cases e),λi hi=>?_⟩;rw[hr]at hi;obtain rfl:i=k:=by simpa using hi
  unfold LH;simp only[h0,hkm];exact⟨_,Iz h,λS' h'=>ih (i+1) _ S' oO (λj=>by have :=hl (j+1);simpa[gj,pZ 1 j]using this) hB' h'⟩
theorem aaw {m:Nat}{K:ai->Prop}:∀(l l':List Oper)(k:Nat)(listed:Array Bool)(S:ai),uh ops listed->k+l.length=m->(∀j,(l++l')[j]?=ops[k+j]?)->tZ ops m (l++l').length k listed=true->Kv C ops l (pK C call Y ops l' K) S->XB C call Y ops (λi=>decide (i<m)) K (l++l').length listed S:=by
 intro l;induction l with
 |nil=>intro l' k listed S _ hkm hl hB h;exact XC l' k listed S (by simp at hkm;omega) (by simpa using hl) (by simpa using hB) h
 |cons o l ih=>
  intro l' k listed S jH hkm hl hB h;have h0:ops[k]?=some o:=by simpa using(hl 0).symm
  have hlt:k<m:=by simp at hkm;omega
  have hk':decide (k<m)=true:=by simp[hlt]
  simp only[eB,aL,tZ,hk',aW]at hB;obtain⟨⟨hr,hf⟩,hB'⟩:=hB;have hr':k∈Region.ready .any ops listed:=by simpa using hr
  obtain⟨x,hy,hK⟩:=kB (QH h);simp only[eB,aL];refine TE h0 hk' (l++l').length listed S jH (λj oj hj hne hun=>IA h0 hf j oj hj hne hun) hr' hy ?_;exact ih l' (k+1) _ _ (jH.set hr') (by simp at hkm;omega) (λj=>by have :=hl (j+1);simpa[gj,pZ 1 j]using this) hB' hK
theorem IB (de:mc E.C call)(hY:eN E Y){id m:Nat}{K:ai->Prop}{Q:Exit->Act->World->Prop}(hQ:∀S a w,K S->pV E S a w->Q .normal a w)(hB:BE ops m=true)(hs:pV E S a w)(h:Kv E.C ops (ops.toList.take m) (pK E.C call Y ops (ops.toList.drop m) K) S)(hm:m<=ops.size):(Code.region id ops true).wpIn E.kX 0 E.C.P Q a w:=by
 simp only[BE,aW]at hB;refine wpIn_region_any E.C.mixed (TD de hY (q:=λi=>decide (i<m)) hQ _ _ _ _ _ (let⟨G,hs⟩:=hs;⟨G,hs.drew⟩) ?_);have hlen:(ops.toList.take m++ops.toList.drop m).length=ops.size:=by simp
 have :=aaw (C:=E.C) (call:=call) (Y:=Y) (ops:=ops) (m:=m) (K:=K) (ops.toList.take m) (ops.toList.drop m) 0 (Array.replicate ops.size false) S ⟨by simp,λp o hp hl=>by have :p<ops.size:=(bB.1 hp).1;simp[this]at hl⟩ (by simp;omega) (λj=>by simp) (by rw[hlen];exact hB.2) h;rw[hlen]at this;exact this
theorem kC {pr:List Nat}{o k:Nat}(h:iF o pr=true)(hk:iF k pr=false):Nat.beq o k=false:=by cases hb:Nat.beq o k;rfl;rw[aP hb]at h;rw[h]at hk;cases hk
mutual theorem FV.pO {pr:List Nat}{k:Nat}(hk:iF k pr=false):∀{x:FV},x.safe pr=true->x.kill k=x
 |.p _,_=>rfl
 |.agg xs,h=>by simp only[FV.safe]at h;simp only[FV.kill,FV.uj hk h]
 |.eV xs,h=>by simp only[FV.safe]at h;simp only[FV.kill,FV.uj hk h]
 |.ptr o off,h=>by simp only[FV.safe]at h;simp only[FV.kill,kC h hk]
 |.eH t T e xs,h=>by simp only[FV.safe]at h;simp only[FV.kill,kC h hk]
 |.full _,_=>rfl
 |.fn f a b,h=>by simp only[FV.safe]at h;split at h;rename_i h1;simp only[FV.kill,FV.uj hk h1,FV.uj hk h];cases h
 |.ni l,h=>by simp only[FV.safe]at h;simp only[FV.kill,kC h hk]
 |.fe o T e,h=>by simp only[FV.safe]at h;simp only[FV.kill,kC h hk]
 |.uH o x T e,h=>by simp only[FV.safe]at h;simp only[FV.kill,kC h hk]
 |.ij o b off,h=>by simp only[FV.safe]at h;simp only[FV.kill,kC h hk]
 |.fI o,h=>by simp only[FV.safe]at h;simp only[FV.kill,kC h hk]
 |.Bh o,h=>by simp only[FV.safe]at h;simp only[FV.kill,kC h hk]
 |.dF,_=>rfl theorem FV.uj {pr:List Nat}{k:Nat}(hk:iF k pr=false):∀{xs:List FV},FV.uL pr xs=true->FV.eL k xs=xs|[],_=>rfl|x::xs,h=>by simp only[FV.uL]at h;split at h;rename_i h1;simp only[FV.eL,FV.pO hk h1,FV.uj hk h];cases h end
structure Agree (pr:List Nat)(S S':ai):Prop where
 val:∀z:Operand,(S.val z).safe pr=true->S'.val z=S.val z
 aN:∀o cells,iF o pr=true->Qv.getObj S.aN o=some cells->∃cells',Qv.getObj S'.aN o=some cells'/\cells'.length=cells.length/\∀(i:Nat)(y:FV),cells[i]?=some y->y.safe pr=true->cells'[i]?=some y
theorem Agree.trans {pr:List Nat}{S S' uE:ai}(h:Agree pr S S')(h':Agree pr S' uE):Agree pr S uE:=by refine⟨λz hz=>?_,λo cells ho hc=>?_⟩;have :=h.val z hz;rw[h'.val z (by rw[this];exact hz),this];obtain⟨c1,h1,l1,h2⟩:=h.aN o cells ho hc;obtain⟨c2,h3,l2,h4⟩:=h'.aN o c1 ho h1;exact⟨c2,h3,l2.trans l1,λi y hi hy=>h4 i y (h2 i y hi hy) hy⟩
theorem aax (S:ai)(k:Nat)(z:Operand):(S.kill k).val z=(S.val z).kill k\/(S.val z).kill k=(S.kill k).val z:=by
 left;cases z with
 |tmp t=>simp only[ai.val,ai.get,ai.kill];split<;>rfl
 |const v=>
  simp only[ai.val];have h1:∀u:Value,(FV.gP u).kill k=FV.gP u:=λu=>by unfold FV.gP;split<;>rfl
  unfold FV.PE;split;simp only[FV.kill,FV.fq,gZ];congr 1;exact(fQ λu _=>(h1 u)).symm;rfl;exact(h1 _).symm
 |func f=>rfl
 |global g=>simp only[ai.val];split<;>rfl
theorem QJ {d o:Nat}:∀{l:List (Nat×List FV)}{cs:List FV},o≠d->Qv.getObj l o=some cs->Qv.getObj (en d l) o=some (FV.eL d cs):=by
 intro l;induction l with
 |nil=>intro cs _ h;cases h
 |cons p l ih=>
  obtain⟨u,i⟩:=p;intro cs hne h;simp only[Qv.getObj]at h;simp only[en];split at h;rename_i hb;obtain rfl:=aP hb;obtain rfl:=au h;have :Nat.beq u d=false:=by cases hb:Nat.beq u d;rfl;exact absurd (aP hb) hne
  rw[this];simp[Qv.getObj];rename_i hb;split;exact ih hne h;simp only[Qv.getObj,hb];exact ih hne h
theorem Agree.kill {pr:List Nat}(S:ai){k:Nat}(hk:iF k pr=false):Agree pr S (S.kill k):=by refine⟨λz hz=>?_,λo cells ho hc=>?_⟩;rcases aax S k z with h|h;rw[h,FV.pO hk hz];rw[<-h,FV.pO hk hz];refine⟨_,QJ (λe=>by rw[e,hk]at ho;cases ho) hc,by rw[FV.fq,aj],λi y hi hy=>?_⟩;rw[FV.fq,aR,hi];simp[FV.pO hk hy]
theorem NN {ob o:Nat}{c:List FV}:∀{l:List (Nat×List FV)},o≠ob->Qv.getObj (setObj l ob c) o=Qv.getObj l o:=by
 intro l hne;induction l with
 |nil=>rfl
 |cons p l ih=>
  obtain⟨u,i⟩:=p;simp only[setObj];split;rename_i hb;obtain rfl:=aP hb;have :Nat.beq u o=false:=by cases hb:Nat.beq u o;rfl;exact absurd (aP hb).symm hne
  simp only[Qv.getObj,this];simp only[Qv.getObj,ih]
theorem Agree.Cw {pr:List Nat}(S:ai){ob:Nat}(c:List FV)(hk:iF ob pr=false):Agree pr S (S.Cw ob c):=⟨λz _=>by cases z<;>rfl,λo cells ho hc=>⟨cells,by show Qv.getObj (setObj S.aN ob c) o=_;rw[NN (λe=>by rw[e,hk]at ho;cases ho)];exact hc,rfl,λi y hi _=>hi⟩⟩
theorem Agree.af9 {pr:List Nat}(S:ai){d:Nat}(c:List FV)(hk:iF d pr=false):Agree pr S {S with aN:=(d,c)::S.aN}:=⟨λz _=>by cases z<;>rfl,λo cells ho hc=>⟨cells,by
 have :Nat.beq d o=false:=by cases hb:Nat.beq d o;rfl;rw[aP hb,ho]at hk;cases hk
 simp only[Qv.getObj,this];exact hc,rfl,λi y hi _=>hi⟩⟩
theorem Agree.jl {pr:List Nat}(S:ai)(b:List (Nat×List UInt8)):Agree pr S {S with cL:=b}:=⟨λz _=>by cases z<;>rfl,λo cells ho hc=>⟨cells,hc,rfl,λi y hi _=>hi⟩⟩
def gH (C:Ctx)(ops:Array Oper)(pr:List Nat)(o:Oper)(x:FV)(S:ai):Prop:=(jt ops S o=some true/\(ew C S o.op λu=>u=x)/\yy pr S o.op x=true)\/(jt ops S o=some false/\x=EZ)
theorem gH.yA {pr:List Nat}{x:FV}(h:gH C ops pr o x S):kA C ops o x S:=h.imp (λh=>⟨h.1,h.2.1⟩) id
theorem uk {pr:List Nat}{op:Op}{x:FV}(h:yy pr S op x=true):(∃zs,opsL op=some zs/\∀z,z∈zs->(S.val z).safe pr=true)/\x.safe pr=true:=by
 unfold yy at h;split at h;cases h;rename_i zs hz;split at h;rename_i hs;refine⟨⟨zs,hz,?_⟩,h⟩;clear hz;induction zs with
 |nil=>simp
 |cons y ys ih=>simp only[ze]at hs;split at hs;rename_i hy;intro z hz;rcases aQ.1 hz with rfl|hz;exact hy;exact ih hs z hz;cases hs
 cases h
theorem IC {pr:List Nat}{op:Op}{x:FV}{zs:List Operand}(h:opsL op=some zs)(hz:∀z,z∈zs->(S.val z).safe pr=true)(hx:x.safe pr=true):yy pr S op x=true:=by
 unfold yy;rw[h];have :ze pr S zs=true:=by
  clear h;induction zs with
  |nil=>rfl
  |cons y ys ih=>simp only[ze,hz y gq];exact ih λz h=>hz z (bq _ h)
 simp only[this];exact hx
theorem gH.safe {pr:List Nat}{x:FV}(h:gH C ops pr o x S):x.safe pr=true:=by rcases h with h|⟨-,rfl⟩;exact(uk h.2.2).2;rfl
theorem QK {op:Op}{zs:List Operand}(h:opsL op=some zs):∀z,z∈zs->z∈op.operands:=by
 intro z hz;unfold opsL at h;split at h;all_goals cases h
 all_goals simp[Op.operands,Call.operands]at hz⊢
 all_goals exact hz
theorem aay {op:Op}{zs:List Operand}(h:opsL op=some zs):∀z,z∈op.operands->z∈zs:=by
 intro z hz;unfold opsL at h;split at h;all_goals cases h
 all_goals simp[Op.operands,Call.operands]at hz⊢
 all_goals exact hz
theorem XD {pr:List Nat}{x:FV}{dst:Option Nat}{v:FV}(h:∀d,dst=some d->d∉o.looksAt ops)(hs:yy pr S o.op x=true):yy pr (S.put dst v) o.op x=true:=by obtain⟨⟨zs,h1,h2⟩,h3⟩:=uk hs;refine IC h1 (λz hz=>?_) h3;rw[ai.xD λd hd hzd=>h d hd (by subst hzd;exact gY _ (xE.2 ⟨.tmp d,by simpa using QK h1 _ hz,rfl⟩))];exact h2 z hz
theorem QL {pr:List Nat}{x:FV}{dst:Option Nat}{v:FV}(h:∀d,dst=some d->d∉o.looksAt ops)(hs:yy pr (S.put dst v) o.op x=true):yy pr S o.op x=true:=by obtain⟨⟨zs,h1,h2⟩,h3⟩:=uk hs;refine IC h1 (λz hz=>?_) h3;have :=h2 z hz;rw[ai.xD λd hd hzd=>h d hd (by subst hzd;exact gY _ (xE.2 ⟨.tmp d,by simpa using QK h1 _ hz,rfl⟩))]at this;exact this
theorem gH.put {pr:List Nat}{x:FV}(hy:gH C ops pr o x S){dst:Option Nat}{v:FV}(h:∀d,dst=some d->d∉o.looksAt ops):gH C ops pr o x (S.put dst v):=by unfold gH at*;rw[rZ h,th h];exact hy.imp (λq=>⟨q.1,q.2.1,XD h q.2.2⟩) id
theorem gH.VT {pr:List Nat}{x:FV}{dst:Option Nat}{v:FV}(hy:gH C ops pr o x (S.put dst v))(h:∀d,dst=some d->d∉o.looksAt ops):gH C ops pr o x S:=by unfold gH at*;rw[rZ h,th h]at hy;exact hy.imp (λq=>⟨q.1,q.2.1,QL h q.2.2⟩) id
theorem zJ {pr:List Nat}:∀(n:Nat){xs xs' cs:List FV},takeN n xs=some cs->FV.uL pr cs=true->(∀(i:Nat)(y:FV),xs[i]?=some y->y.safe pr=true->xs'[i]?=some y)->takeN n xs'=some cs
 |0,xs,xs',cs,h,_,_=>h
 |n+1,[],xs',cs,h,_,_=>by simp[takeN]at h
 |n+1,x::xs,xs',cs,h,hs,ha=>by
  simp only[takeN]at h;split at h;rename_i ys hys;obtain rfl:=au h;simp only[FV.uL]at hs;split at hs;rename_i hx;have h0:=ha 0 x rfl hx;cases xs' with
  |nil=>simp at h0
  |cons x' xs'=>
   simp at h0;subst h0;have :=zJ n (xs:=xs) (xs':=xs') hys hs λi y hi hy=>by simpa using ha (i+1) y (by simpa using hi) hy
   simp only[takeN,this]
  cases hs;cases h
theorem Fa {α:Type}:∀(n:Nat)(xs:List α)(i:Nat),(fT n xs)[i]?=xs[n+i]?
 |0,xs,i=>by simp[fT]
 |n+1,[],i=>by simp[fT]
 |n+1,x::xs,i=>by rw[fT,Fa n xs i,show n+1+i=(n+i)+1 by omega];simp
theorem NO {pr:List Nat}{S':ai}(h:Agree pr S S'){t:TypeId}{v x:FV}(hv:v.safe pr=true)(hx:x.safe pr=true)(he:nt C S.aN t v λu=>u=x):nt C S'.aN t v λu=>u=x:=by
 unfold nt at he⊢;cases hi:bU C.jG t with
 |none=>rw[hi]at he;exact he.elim
 |some i=>
  rw[hi]at he;simp only at he⊢;cases v with
  |ptr o off=>
   simp only at he⊢;cases hc:Qv.getObj S.aN o with
   |none=>rw[hc]at he;exact he.elim
   |some cells=>
    rw[hc]at he;obtain⟨cells',h1,hl,h2⟩:=h.aN o cells hv hc;rw[h1];simp only at he⊢;have hd:∀(i:Nat)(y:FV),(fT off cells)[i]?=some y->y.safe pr=true->(fT off cells')[i]?=some y:=λi y hi hy=>by rw[Fa]at hi⊢;exact h2 _ y hi hy
    cases hag:i.shape.isAgg with
    |true=>
     rw[hag]at he;simp only at he⊢;cases hcs:takeN i.size (fT off cells)with
     |none=>rw[hcs]at he;exact he.elim
     |some cs=>rw[hcs]at he;simp only at he;subst he;rw[zJ _ hcs hx hd]
    |false=>
     rw[hag]at he;simp only at he⊢;cases hys:fT off cells with
     |nil=>rw[hys]at he;exact he.elim
     |cons y ys=>
      rw[hys]at he;simp only at he;subst he;have :=hd 0 y (by rw[hys];rfl) hx;cases hq:fT off cells' with
      |nil=>rw[hq]at this;simp at this
      |cons z zs=>rw[hq]at this;simpa using this
  |ij o base off=>
   simp only at he⊢;cases hc:Qv.getObj S.aN o with
   |none=>rw[hc]at he;exact he.elim
   |some cells=>
    rw[hc]at he;obtain⟨cells',h1,hl,h2⟩:=h.aN o cells hv hc;rw[h1];simp only at he⊢;obtain⟨A,ys,B,rfl,hA,he⟩:=he;have hlen:cells'.length=A.length+(ys.length+B.length):=by simpa using hl
    refine⟨cells'.take A.length,(cells'.drop A.length).take ys.length,(cells'.drop A.length).drop ys.length,by rw[cT,cT],by rw[aD,<-hA];omega,?_⟩;have hd:∀(i:Nat)(y:FV),(fT off ys)[i]?=some y->y.safe pr=true->(fT off ((cells'.drop A.length).take ys.length))[i]?=some y:=λi y hi hy=>by rw[Fa]at hi⊢;have hlt:=(aG.1 hi).1;rw[Da hlt,lV];refine h2 _ y ?_ hy;rw[dY oO,cO oO,<-hi];congr 1;omega
    cases hag:i.shape.isAgg with
    |true=>
     rw[hag]at he;simp only at he⊢;cases hcs:takeN i.size (fT off ys)with
     |none=>rw[hcs]at he;exact he.elim
     |some cs=>rw[hcs]at he;simp only at he;subst he;rw[zJ _ hcs hx hd]
    |false=>
     rw[hag]at he;simp only at he⊢;cases hys:fT off ys with
     |nil=>rw[hys]at he;exact he.elim
     |cons y zs=>
      rw[hys]at he;simp only at he;subst he;have :=hd 0 y (by rw[hys];rfl) hx;cases hq:fT off ((cells'.drop A.length).take ys.length)with
      |nil=>rw[hq]at this;simp at this
      |cons z zs=>rw[hq]at this;simpa using this
  |p y=>cases y<;>first|exact he|exact he.elim
  |_=>exact he.elim
theorem Dq {pr:List Nat}{S':ai}(h:Agree pr S S'){t:TypeId}{v i:FV}{K:FV->Prop}(hv:v.safe pr=true)(he:jB C S.aN t v i K):jB C S'.aN t v i K:=by
 unfold jB at he⊢;split at he;rename_i k n;split at he;split at he;exact he.elim;rename_i j hj;try simp only[hj]
 split at he;rename_i o T bP;split at he;rename_i cells hc hb;obtain⟨cells',h1,hl,-⟩:=h.aN o cells hv hc;rw[h1];simp only[hb];obtain⟨m,base,e1,e2,e3,e4⟩:=he;exact⟨m,base,e1,e2,oO,e4⟩;exact he.elim;rename_i o bx T bP;split at he;rename_i cells hc hb;obtain⟨cells',h1,hl,-⟩:=h.aN o cells hv hc;rw[h1];simp only[hb];obtain⟨m,base,e1,e2,e3,e4⟩:=he;exact⟨m,base,e1,e2,oO,e4⟩;exact he.elim;exact he;exact he;exact he;exact he
theorem Fb {pr:List Nat}{S':ai}(h:Agree pr S S'){b:Builtin}{args:List FV}{types:List TypeId}{K:FV->Prop}(hv:∀v,v∈args->v.safe pr=true)(he:jJ C S.aN b args types K):jJ C S'.aN b args types K:=by unfold jJ at he⊢;split at he;split at he;split at he;exact he;exact he;split at he;rename_i o T bP;split at he;rename_i cells hc;obtain⟨cells',h1,hl,-⟩:=h.aN o cells (hv (.fe o T bP) (by simp)) hc;rw[h1];obtain⟨n,e1,e2⟩:=he;exact⟨n,oO,e2⟩;exact he.elim;rename_i o bx T bP;split at he;rename_i cells hc;obtain⟨cells',h1,hl,-⟩:=h.aN o cells (hv (.uH o bx T bP) (by simp)) hc;rw[h1];obtain⟨n,e1,e2⟩:=he;exact⟨n,oO,e2⟩;exact he.elim;exact he;exact he;exact he;exact he;exact he;exact he
theorem QM {pr:List Nat}{S':ai}(h:Agree pr S S'){op:Op}{x:FV}(hs:yy pr S op x=true)(he:ew C S op λu=>u=x):ew C S' op λu=>u=x:=by
 obtain⟨⟨zs,h1,h2⟩,h3⟩:=uk hs;have hv:∀z,z∈zs->S'.val z=S.val z:=λz hz=>h.val z (h2 z hz);have gen:∀S2:ai,(∀z,z∈op.operands->S2.val z=S.val z)->S2.aN=S.aN->ew C S2 op (λu=>u=x):=λS2 a b=>by rw[Gh a b (λ_ _ _ _ e=>by subst e;cases h1) (λ_ e=>by subst e;cases h1)];exact he
 by_cases hl:∃t a,op=.load t a;obtain⟨t,a,rfl⟩:=hl;simp only[opsL,bN]at h1;subst h1;have ha:=h2 a (by simp);simp only[ew]at he⊢;rw[hv a (by simp)];exact NO h ha h3 he;by_cases Ge:∃t a i,op=.indexAddr t a i;obtain⟨t,a,i,rfl⟩:=Ge;simp only[opsL,bN]at h1;subst h1;have ha:=h2 a (by simp);simp only[ew]at he⊢;rw[hv a (by simp),hv i (by simp)];exact Dq h ha he;by_cases hl3:∃b args types,op=.call ⟨.builtin b,args,types⟩;obtain⟨b,args,types,rfl⟩:=hl3;simp only[opsL,bN]at h1;subst h1;simp only[ew]at he⊢;have ha:args.toList.map S'.val=args.toList.map S.val:=fQ λz hz=>hv z hz;rw[ha];exact Fb h (λv Xu=>by obtain⟨z,hz,rfl⟩:=aI.1 Xu;exact h2 z hz) he;have hall:=aay h1;have :=gen {S' with aN:=S.aN} (λz hz=>by have :=hv z (hall z hz);cases z<;>exact this) rfl;cases op;case slice t x lo hi mx=>
  cases mx with
  |none=>exact this
  |some m=>cases h1
 case load t a=>exact absurd ⟨t,a,rfl⟩ hl
 case indexAddr t a i=>exact absurd ⟨t,a,i,rfl⟩ Ge
 case call c=>
  obtain⟨callee,args,types⟩:=c;cases callee with
  |builtin b=>exact absurd ⟨b,args,types,rfl⟩ hl3
  |_=>exact this
 case build t parts=>simp only[opsL,bN]at h1;subst h1;exact(Gg (λp hp=>hv p.2 (tn hp))).mpr he
 case buildSlice t len parts=>simp only[opsL,bN]at h1;subst h1;exact(vY (λp hp=>hv p.2 (tn hp))).mpr he
 all_goals exact this
theorem Bq {pr:List Nat}{S':ai}(h:Agree pr S S'){b:Bool}(hw:jt ops S o=some b):jt ops S' o=some b:=by
 unfold jt at*;split at hw;exact hw;rename_i j want hg;split at hw;cases hw;rename_i d hd;have key:∀y:AV,S.get d=.p y->S'.get d=.p y:=λy hy=>by have :=h.val (.tmp d) (by show(S.get d).safe pr=true;rw[hy];rfl);exact this.trans hy
 split at hw;rename_i c hc;rw[key _ hc];exact hw;rename_i hc;rw[key _ hc];exact hw;cases hw
theorem gH.agree {pr:List Nat}{S':ai}(h:Agree pr S S'){x:FV}(hy:gH C ops pr o x S):gH C ops pr o x S':=by rcases hy with⟨h1,h2,h3⟩|⟨h1,h2⟩;refine .inl ⟨Bq h h1,QM h h3 h2,?_⟩;obtain⟨⟨zs,q1,q2⟩,q3⟩:=uk h3;exact IC q1 (λz hz=>by rw[h.val z (q2 z hz)];exact q2 z hz) q3;exact .inr ⟨Bq h h1,h2⟩
def aaz (C:Ctx)(ops:Array Oper)(pr:List Nat)(o:Oper)(K:ai->Prop)(S:ai):Prop:=∃x,gH C ops pr o x S/\K (S.put o.dst x)
def Gj (C:Ctx)(call:iw)(Y:pE)(ops:Array Oper)(pr:List Nat)(o:Oper)(K:ai->Prop)(S:ai):Prop:=match jt ops S o with|some true=>oJ pr S o.dst o.op=true/\HX C call Y o K S|some false=>K (S.put o.dst EZ)|none=>False
theorem XE {pr:List Nat}{K:ai->Prop}(h:agI C ops pr o K S):aaz C ops pr o K S:=by
 unfold agI at h;unfold aaz gH jt;split at h;rename_i hg;rw[hg];obtain⟨v,h1,h2,h3⟩:=h;exact⟨v,.inl ⟨by first|rfl|trivial,h1,h2⟩,h3⟩;rename_i j want hg;rw[hg];split at h;exact h.elim;rename_i d hd;simp only[hd];split at h;rename_i b hb;rw[oI]at h;simp only[hb];cases EF:(b==want)with
 |true=>rw[EF]at h;obtain⟨v,h1,h2,h3⟩:=h;exact⟨v,.inl ⟨by first|rfl|trivial,h1,h2⟩,h3⟩
 |false=>rw[EF]at h;exact⟨_,.inr ⟨by first|rfl|trivial,rfl⟩,h⟩
 rename_i hb;simp only[hb];exact⟨_,.inr ⟨by first|rfl|trivial,rfl⟩,h⟩;exact h.elim
theorem XF {pr:List Nat}{K:ai->Prop}(h:agJ C call Y ops pr o K S):Gj C call Y ops pr o K S:=by
 unfold agJ at h;unfold Gj jt;split at h;rename_i hg;rw[hg];exact h;rename_i j want hg;rw[hg];split at h;exact h.elim;rename_i d hd;simp only[hd];split at h;rename_i b hb;rw[oI]at h;simp only[hb];cases EF:(b==want)with
 |true=>rw[EF]at h;exact h
 |false=>rw[EF]at h;exact h
 rename_i hb;simp only[hb];exact h;exact h.elim
theorem vZ {dst:Option Nat}{x:FV}{k:Nat}(hx:x.kill k=x):(S.put dst x).kill k=(S.kill k).put dst x:=by
 cases dst with
 |none=>rfl
 |some d=>simp only[ai.put,ai.kill];congr 1;funext i;split;exact hx;rfl
theorem XG {pr:List Nat}{oi oj:Oper}{x:FV}(hap:oi.apart ops oj=true){K:ai->Prop}(hy:gH C ops pr oi x S)(h:Gj C call Y ops pr oj K (S.put oi.dst x)):Gj C call Y ops pr oj (λS1=>gH C ops pr oi x S1/\K (S1.put oi.dst x)) S:=by
 obtain⟨h1,h2,h3⟩:=Oper.apart_spec hap;have hxs:=hy.safe;unfold Gj at*;rw[rZ h1]at h;split at h;obtain⟨hh,he⟩:=h;have hval:∀z,z∈oj.op.operands->(S.put oi.dst x).val z=S.val z:=λz hz=>ai.xD λd hd hzd=>h1 d hd (by subst hzd;exact gY _ (xE.2 ⟨.tmp d,by simpa using hz,rfl⟩));have hoff:(S.put oi.dst x).off=S.off:=by cases oi.dst<;>rfl
 have adX:(S.put oi.dst x).aN=S.aN:=ai.QG;have Zu:(S.put oi.dst x).cL=S.cL:=by cases oi.dst<;>rfl
 have fin:∀(S1 S2:ai)(v:FV),Agree pr S S1->S2=S1.put oi.dst x->K (S2.put oj.dst v)->gH C ops pr oi x (S1.put oj.dst v)/\K ((S1.put oj.dst v).put oi.dst x):=λS1 S2 v ha e hk=>by refine⟨(hy.agree ha).put h3,?_⟩;rw[<-ai.put_comm h2,<-e];exact hk
 cases hop:oj.op with
 |alloc t=>
  rw[hop]at hh;simp only[HX,hop]at he⊢;simp only[oJ]at hh⊢;split at he;rename_i d inf hd CZ;rw[hd]at hh;rw[hoff]at hh;simp only[eC]at hh;simp only[hd,CZ];refine⟨by simpa using hh,?_⟩;have hk:=FV.pO hh hxs;split at he;rename_i hb hz;try simp only[hb,hz]
  have :=fin {S.kill (S.off+d)with cL:=(S.off+d,[])::Ct (S.off+d) S.cL} {(S.put oi.dst x).kill (S.off+d)with cL:=(S.off+d,[])::Ct (S.off+d) S.cL} (.ptr (S.off+d) 0) ((Agree.kill S hh).trans (Agree.jl _ _)) (by rw[vZ hk];cases oi.dst<;>rfl);rw[hd]at this;rw[HV]at he⊢;unfold SX at*;rw[hoff,Zu]at he;exact⟨he.1,this he.2⟩;rename_i hno;rw[jY,wV]at he;rw[jY,wV];unfold newObj at*;rw[hoff,adX]at he;have :=fin {S.kill (S.off+d)with aN:=(S.off+d,FV.eL (S.off+d) (inf.zero.map FV.gP))::en (S.off+d) S.aN} {(S.put oi.dst x).kill (S.off+d)with aN:=(S.off+d,FV.eL (S.off+d) (inf.zero.map FV.gP))::en (S.off+d) S.aN} (.ptr (S.off+d) 0) ((Agree.kill S hh).trans (Agree.af9 (S.kill (S.off+d)) _ hh)) (by rw[vZ hk];cases oi.dst<;>rfl);rw[hd]at this;exact⟨he.1,this he.2⟩;exact he.elim
 |store t p z=>
  rw[hop]at hh hval;have hp:=hval p (by simp[Op.operands]);have hz:=hval z (by simp[Op.operands]);simp only[HX,hop,hz,hp,adX]at he⊢;simp only[oJ,hp]at hh⊢;split at he;rename_i inf ob off CZ yE;rw[yE]at hh;simp only[eC]at hh;simp only[CZ,yE];refine⟨by simpa using hh,?_⟩;split at he;exact he.elim;rename_i cells hc;try simp only[hc]
  split at he;rename_i hb;try simp only[hb]
  split at he;rename_i wM;try simp only[wM]
  split at he;rename_i cs hcs;try simp only[hcs]
  rw[jY]at he⊢;have :=fin (S.Cw ob cs) ((S.put oi.dst x).Cw ob cs) (.p (.eV [])) (Agree.Cw S cs hh) (by unfold ai.Cw;cases oi.dst<;>rfl);exact this he;exact he.elim;exact he.elim;exact he.elim;rename_i yE;rw[yE]at hh;simp at hh;exact he.elim
 |call c=>
  obtain⟨callee,args,types⟩:=c;cases callee with
  |value f=>rw[hop]at hh;simp[oJ]at hh
  |invoke r m=>rw[hop]at hh;simp[oJ]at hh
  |builtin b=>
   cases b<;>try (rw[hop]at hh;simp[oJ]at hh;done)
   rw[hop]at hh hval;have hargs:args.toList.map (S.put oi.dst x).val=args.toList.map S.val:=fQ λz hz=>hval z (by simp[Op.operands,Call.operands];simpa using hz);simp only[HX,hop,hargs]at he⊢;simp only[oJ,hargs]at hh⊢;split at he;rename_i a b t u d ha ht hd;rw[ha,hd]at hh;simp only at hh;rw[hoff]at hh;simp only[ha,ht,hd];refine⟨by simpa using hh,?_⟩;split at he;cases hh;replace hh:Lv pr (S.off+d) a=true:=by split at hh;cases hh;exact hh
   have app:tX C t u d (S.put oi.dst x) a b K->tX C t u d S a b (λS'=>gH C ops pr oi x S'/\K (S'.put oi.dst x)):=λhe=>by
    unfold tX at he⊢;split at he;rename_i b1 b2 e b3 b4 hti hui;simp only[hti,hui];split at he;exact he.elim;rename_i QN;try simp only[QN]
    split at he;exact he.elim;rename_i j hj;try simp only[hj]
    split at he;exact he.elim;rename_i ys hys;try simp only[hys]
    cases a with
    |eH k T bP xs=>
     simp only[Lv]at hh he⊢;simp only[eC]at hh;have hk:=FV.pO hh hxs;split at he;rename_i e1 e2 e3;try simp only[e1,e2,e3]
     obtain⟨q1,q2,q3,zs,q4,q5⟩:=he;have :=fin (S.kill k) ((S.put oi.dst x).kill k) (.eH k T bP zs) (Agree.kill S hh) (vZ hk);rw[hd]at this;exact⟨q1,q2,q3,zs,q4,this q5⟩;exact he.elim
    |full xs=>
     simp only[Lv]at hh;simp only[eC]at hh;have hk:=FV.pO hh hxs;cases xs with
     |nil=>
      simp only at he⊢;split at he;rename_i e1;try simp only[e1]
      obtain⟨q1,q2,q3⟩:=he;rw[mM,hoff]at q3;rw[mM];have :=fin (S.kill (S.off+d)) ((S.put oi.dst x).kill (S.off+d)) (.eH (S.off+d) e j.size ys) (Agree.kill S hh) (vZ hk);rw[hd]at this;exact⟨q1,q2,this q3⟩;exact he.elim
     |cons z zs=>
      simp only at he⊢;split at he;rename_i e1;try simp only[e1]
      obtain⟨q1,q2,q3,q4,q5⟩:=he;rw[mM,hoff]at q5;rw[mM];obtain⟨zs',q6,q7⟩:=q5;have :=fin (S.kill (S.off+d)) ((S.put oi.dst x).kill (S.off+d)) (.eH (S.off+d) e j.size zs') (Agree.kill S hh) (vZ hk);rw[hd]at this;exact⟨q1,q2,q3,q4,zs',q6,this q7⟩;exact he.elim
    |_=>first|(simp[Lv]at hh;done)|exact he.elim
    exact he.elim
   unfold Tc at he⊢;split at he;rename_i LC;try simp only[LC]
   cases a with
   |full xs=>
    cases xs with
    |cons z zs=>exact app he
    |nil=>
     simp only[Lv]at hh he⊢;simp only[eC]at hh;have hk:=FV.pO hh hxs;unfold Nn at he⊢;split at he;rename_i b1 b2 e b3 b4 hti hui;simp only[hti,hui];split at he;exact he.elim;rename_i QN;try simp only[QN]
     split at he;exact he.elim;rename_i j hj;try simp only[hj]
     split at he;rename_i ys v1 v2 v3;try simp only[v1,v2,v3]
     obtain⟨q1,q2,q3,q5⟩:=he;rw[lX,hoff]at q5;rw[lX];obtain⟨q8,zs,q6,q7⟩:=q5;have :=fin {S.kill (S.off+d)with aN:=(S.off+d,zs)::en (S.off+d) S.aN} {(S.put oi.dst x).kill (S.off+d)with aN:=(S.off+d,zs)::en (S.off+d) S.aN} (.fe (S.off+d) e j.size) ((Agree.kill S hh).trans (Agree.af9 (S.kill (S.off+d)) _ hh)) (by rw[vZ hk];cases oi.dst<;>rfl);rw[hd]at this;rw[adX]at q7;exact⟨q1,q2,q3,q8,zs,q6,this q7⟩;exact he.elim;exact he.elim
   |_=>exact app he
   rename_i LC;try simp only[LC]
   exact app he;exact he.elim
 |_=>rw[hop]at hh;simp[oJ]at hh
 rename_i hw;refine⟨hy.put h3,?_⟩;rw[<-ai.put_comm h2];exact h;exact h.elim
def sN (C:Ctx)(call:iw)(Y:pE)(ops:Array Oper)(c:rX)(i:Nat)(K:ai->Prop)(S:ai):Prop:=match ops[i]?with|none=>K S|some o=>match c.of i with|0=>nA C ops o K S|1=>aaz C ops c.pr o K S|2=>∃K':ai->Prop,Gj C call Y ops c.pr o K' S/\∀S',K' S'->K S'|_=>∃K':ai->Prop,Gi C call Y ops o K' S/\∀S',K' S'->K S'
def KS (C:Ctx)(call:iw)(Y:pE)(ops:Array Oper)(c:rX)(K:ai->Prop):Nat->Array Bool->ai->Prop|0,listed,S=>Region.ready .any ops listed=[]/\K S|fuel+1,listed,S=>(Region.ready .any ops listed=[]->K S)/\∀i∈Region.ready .any ops listed,sN C call Y ops c i (KS C call Y ops c K fuel (listed.setIfInBounds i true)) S
theorem ad8 {pr:List Nat}{K:ai->Prop}(h:Gj C call Y ops pr o K S):Gi C call Y ops o K S:=by
 unfold Gj at h;unfold Gi;split at h;rename_i hw;first|exact h.2|(rw[hw];exact h.2)
 rename_i hw;first|exact h|(rw[hw];exact h)
 exact h.elim
theorem ID (de:mc E.C call)(hY:eN E Y){c:rX}{K:ai->Prop}{Q:Exit->Act->World->Prop}(hQ:∀S a w,K S->pV E S a w->Q .normal a w):∀(fuel:Nat)(listed:Array Bool)(S:ai)(a:Act)(w:World),pV E S a w->KS E.C call Y ops c K fuel listed S->wpAnyIn E.kX 0 E.C.P .any ops Q fuel listed a w:=by
 intro fuel;induction fuel with
 |zero=>intro listed S a w hs h;exact⟨h.1,hQ _ _ _ h.2 hs⟩
 |succ fuel ih=>intro listed S a w hs h;refine⟨λh0=>hQ _ _ _ (h.1 h0) hs,λi hi=>?_⟩;have h2:=h.2 i hi;unfold sN at h2;unfold wpOpIn;split at h2;rename_i ho;simp only[ho];exact ih _ _ _ _ hs h2;rename_i o ho;simp only[ho];split at h2;exact zH hs h2 λS a w hk hs'=>ih _ _ _ _ hs' hk;obtain⟨x,hy,hK⟩:=h2;exact zH hs (hy.yA.nA hK) λS a w hk hs'=>ih _ _ _ _ hs' hk;obtain⟨K',h3,h4⟩:=h2;exact zI de hY hs (ad8 h3) λS a w hk hs'=>ih _ _ _ _ hs' (h4 _ hk);obtain⟨K',h3,h4⟩:=h2;exact zI de hY hs h3 λS a w hk hs'=>ih _ _ _ _ hs' (h4 _ hk)
def yF (C:Ctx)(ops:Array Oper)(c:rX)(i:Nat)(o:Oper)(x:FV)(S:ai):Prop:=match c.of i with|0=>kA C ops o x S|_=>gH C ops c.pr o x S
theorem XH {c:rX}{i j:Nat}{oi oj:Oper}{x:FV}(hj:ops[j]?=some oj)(hi1:c.of i<=1)(hjc:c.of j<=c.of i+1)(hap:oi.apart ops oj=true){K:ai->Prop}(hy:yF C ops c i oi x S)(h:sN C call Y ops c j K (S.put oi.dst x)):sN C call Y ops c j (λS'=>yF C ops c i oi x S'/\K (S'.put oi.dst x)) S:=by
 obtain⟨h1,h2,h3⟩:=Oper.apart_spec hap;have aiO:∀{S:ai}{v:FV},yF C ops c i oi x S->yF C ops c i oi x (S.put oj.dst v):=λ{S v} hk=>by
  unfold yF at*;split;rename_i he;simp only[he]at hk;exact hk.put h3;rename_i he;have :gH C ops c.pr oi x S:=by split at hk;rename_i he2;exact absurd he2 he;exact hk
  exact this.put h3
 unfold sN at*;simp only[hj]at h⊢;split at h;obtain⟨u,hu,hK⟩:=kB h;refine(hu.VT h1).nA ⟨aiO hy,?_⟩;rw[<-ai.put_comm h2];exact hK;obtain⟨u,hu,hK⟩:=h;refine⟨u,hu.VT h1,aiO hy,?_⟩;rw[<-ai.put_comm h2];exact hK;rename_i hc2;have hi:c.of i=1:=oO
 have hyc:gH C ops c.pr oi x S:=by unfold yF at hy;simp only[hi]at hy;exact hy
 obtain⟨K',h4,h5⟩:=h;refine⟨_,XG hap hyc h4,λS' h'=>⟨?_,h5 _ h'.2⟩⟩;unfold yF;simp only[hi];exact h'.1;rename_i n0 n1 n2;exfalso;have :c.of j<=2:=oO
 have :c.of j=0\/c.of j=1\/c.of j=2:=oO
 rcases this with e|e|e;exact n0 e;exact n1 e;exact n2 e
theorem TG {c:rX}{K:ai->Prop}{i:Nat}{oi:Oper}{x:FV}(hi:ops[i]?=some oi)(hi1:c.of i<=1):∀(fuel:Nat)(listed:Array Bool)(S:ai),uh ops listed->(∀j oj,ops[j]?=some oj->j≠i->listed.getD j true=false->wX ops ops.size j i=true\/(c.of j<=c.of i+1/\oi.apart ops oj=true))->i∈Region.ready .any ops listed->yF C ops c i oi x S->KS C call Y ops c K fuel (listed.setIfInBounds i true) (S.put oi.dst x)->KS C call Y ops c K (fuel+1) listed S:=by
 have self:∀{K':ai->Prop}{S:ai},yF C ops c i oi x S->K' (S.put oi.dst x)->sN C call Y ops c i K' S:=λ{K' S} hy h=>by
  unfold sN;simp only[hi];unfold yF at hy;have :c.of i=0\/c.of i=1:=oO
  rcases this with e|e;simp only[e]at hy⊢;exact hy.nA h;simp only[e]at hy⊢;exact⟨x,hy,h⟩
 intro fuel;induction fuel with
 |zero=>intro listed S _ _ hr hy H;refine⟨λh=>(by rw[h]at hr;cases hr),λj hj=>?_⟩;by_cases hji:j=i;subst hji;exact self hy H;have :=ready_mono hj hji;rw[H.1]at this;cases this
 |succ fuel ih=>
  intro listed S jH hfree hr hy H;refine⟨λh=>(by rw[h]at hr;cases hr),λj hj=>?_⟩;by_cases hji:j=i;subst hji;exact self hy H;have h1:=H.2 j (ready_mono hj hji);obtain⟨aav,oj,hoj,hall⟩:=mem_ready.1 hj;rcases hfree j oj hoj hji aav with hre|⟨hjm,hap⟩;have h2:=jH.reach _ _ _ hre λo ho=>by rw[hoj]at ho;obtain rfl:=au ho;exact hall
  rw[QI (mem_ready.1 hr).1]at h2;cases h2;have h2:=XH hoj hi1 hjm hap hy h1;have TF:∀k ok,ops[k]?=some ok->k≠i->(listed.setIfInBounds j true).getD k true=false->wX ops ops.size k i=true\/(c.of k<=c.of i+1/\oi.apart ops ok=true):=λk ok hk hki hun=>by refine hfree k ok hk hki ?_;by_cases hjk:j=k;subst hjk;exact aav;rw[getD_set_ne true hjk]at hun;exact hun
  have mono:∀{K1 K2:ai->Prop}{S:ai},(∀S',K1 S'->K2 S')->sN C call Y ops c j K1 S->sN C call Y ops c j K2 S:=λ{K1 K2 S} hm hq=>by unfold sN at*;simp only[hoj]at hq⊢;split at hq;obtain⟨y,q1,q2⟩:=kB hq;exact q1.nA (hm _ q2);obtain⟨y,q1,q2⟩:=hq;exact⟨y,q1,hm _ q2⟩;obtain⟨K',q1,q2⟩:=hq;exact⟨K',q1,λS' h=>hm _ (q2 S' h)⟩;obtain⟨K',q1,q2⟩:=hq;exact⟨K',q1,λS' h=>hm _ (q2 S' h)⟩
  refine mono (λS' h'=>?_) h2;refine ih (listed.setIfInBounds j true) _ (jH.set hj) TF (ready_mono hr (eO hji)) h'.1 ?_;rw[Array.setIfInBounds_comm _ _ hji];exact h'.2
theorem zK {c:rX}{k:Nat}{K:ai->Prop}(h:zf C call Y ops c k K S):sN C call Y ops c k K S/\(c.of k<=1->∃o x,ops[k]?=some o/\yF C ops c k o x S/\K (S.put o.dst x)):=by
 unfold zf at h;split at h;exact h.elim;rename_i o ho;have ho':ops[k]?=some o:=by simpa using ho
 unfold sN yF;simp only[ho'];split at h;rename_i e;have :=QH h;obtain⟨x,hy,hK⟩:=kB this;simp only[e];exact⟨hy.nA hK,λ_=>⟨o,x,rfl,hy,hK⟩⟩;rename_i e;obtain⟨x,hy,hK⟩:=XE h;simp only[e];exact⟨⟨x,hy,hK⟩,λ_=>⟨o,x,rfl,hy,hK⟩⟩;rename_i e;simp only[e];exact⟨⟨_,XF h,λ_ h=>h⟩,λhle=>absurd hle oO⟩;rename_i n0 n1 n2;have a0:c.of k≠0:=n0;have a1:c.of k≠1:=n1;have a2:c.of k≠2:=n2;obtain⟨n,hn⟩:∃n,c.of k=n+3:=⟨c.of k-3,oO⟩;simp only[hn];exact⟨⟨_,Iz h,λ_ h=>h⟩,λhle=>absurd hle oO⟩
theorem NP {c:rX}{K:ai->Prop}:∀(p:KI),(∀(fuel:Nat)(listed:Array Bool)(S:ai),uh ops listed->ow ops c p true fuel listed=true->ox C call Y ops c K p S->KS C call Y ops c K fuel listed S)/\(∀(fuel:Nat)(listed:Array Bool)(S:ai),uh ops listed->ow ops c p false fuel listed=true->ox C call Y ops c K p S->∀i,i∈p.VC->i∈Region.ready .any ops listed->∃f,fuel=f+1/\sN C call Y ops c i (KS C call Y ops c K f (listed.setIfInBounds i true)) S):=by
 intro p;induction p with
 |fin=>
  refine⟨λfuel listed S jH hB h=>?_,λfuel listed S jH hB h i hi=>by cases hi⟩;simp only[ow,gQ,List.isEmpty_iff]at hB;cases fuel with
  |zero=>exact⟨hB,h⟩
  |succ fuel=>exact⟨λ_=>h,λi hi=>by rw[hB]at hi;cases hi⟩
 |stop=>refine⟨λfuel listed S jH hB h=>?_,λfuel listed S jH hB h i hi=>by cases hi⟩;simp[ow]at hB
 |one k p ih=>
  refine⟨λfuel listed S jH hB h=>?_,λfuel listed S jH hB h i hi=>by cases hi⟩;cases fuel with
  |zero=>simp[ow]at hB
  |succ fuel=>
   simp only[ow,gQ,aW]at hB;obtain⟨⟨⟨hq,hr⟩,hf⟩,hB'⟩:=hB;have hr':k∈Region.ready .any ops listed:=by simpa using hr
   have NC:c.of k<=1:=gT hq;simp only[ox]at h;obtain⟨o,x,ho,hy,hK⟩:=(zK h).2 NC;refine TG ho NC fuel listed S jH (λj oj hj hne hun=>?_) hr' hy ?_;refine(IA ho hf j oj hj hne hun).imp id λh=>⟨gT h.1,h.2⟩;exact ih.1 fuel _ _ (jH.set hr') hB' hK
 |alt k p r ihp ihr=>
  have parts:∀{S:ai},ox C call Y ops c K (.alt k p r) S->zf C call Y ops c k (ox C call Y ops c K p) S/\ox C call Y ops c K r S:=λ{S} h=>by simp only[ox]at h;split at h;exact⟨h,trivial⟩;exact h
  have both:∀(top:Bool)(fuel:Nat)(listed:Array Bool)(S:ai),uh ops listed->ow ops c (.alt k p r) top fuel listed=true->ox C call Y ops c K (.alt k p r) S->∀i,i∈(KI.alt k p r).VC->i∈Region.ready .any ops listed->∃f,fuel=f+1/\sN C call Y ops c i (KS C call Y ops c K f (listed.setIfInBounds i true)) S:=λtop fuel listed S jH hB h i hi hr=>by
   obtain⟨hst,qI⟩:=parts h;cases fuel with
   |zero=>simp[ow]at hB
   |succ f=>simp only[ow,aW]at hB;rcases aQ.1 hi with rfl|hi;refine⟨f,rfl,?_⟩;have hs:=(zK hst).1;obtain⟨-,o,ho,-⟩:=mem_ready.1 hr;unfold sN at hs⊢;simp only[ho]at hs⊢;have BK:∀S',ox C call Y ops c K p S'->KS C call Y ops c K f (listed.setIfInBounds i true) S':=λS' h'=>ihp.1 f _ _ (jH.set hr) hB.2.1 h';split at hs;obtain⟨y,q1,q2⟩:=kB hs;exact q1.nA (BK _ q2);obtain⟨y,q1,q2⟩:=hs;exact⟨y,q1,BK _ q2⟩;obtain⟨K',q1,q2⟩:=hs;exact⟨K',q1,λS' h=>BK _ (q2 S' h)⟩;obtain⟨K',q1,q2⟩:=hs;exact⟨K',q1,λS' h=>BK _ (q2 S' h)⟩;exact ihr.2 (f+1) listed S jH hB.2.2 qI i hi hr
  refine⟨λfuel listed S jH hB h=>?_,λfuel listed S jH hB h i hi hr=>both false fuel listed S jH hB h i hi hr⟩;have hB0:=hB;cases fuel with
  |zero=>simp[ow]at hB
  |succ f=>
   simp only[ow,Bool.not_true,iW,aW,beq_iff_eq]at hB;refine⟨λe=>(by rw[hB.1]at e;cases e),λi hi=>?_⟩;obtain⟨f',hf,hst⟩:=both true (f+1) listed S jH hB0 h i (by rw[hB.1]at hi;exact hi) hi;obtain rfl:f=f':=oO
   exact hst
theorem IE (de:mc E.C call)(hY:eN E Y){id:Nat}{c:rX}{p:KI}{K:ai->Prop}{Q:Exit->Act->World->Prop}(hQ:∀S a w,K S->pV E S a w->Q .normal a w)(hB:ow ops c p true ops.size (Array.replicate ops.size false)=true)(hs:pV E S a w)(h:ox E.C call Y ops c K p S):(Code.region id ops true).wpIn E.kX 0 E.C.P Q a w:=by refine wpIn_region_any E.C.mixed (ID de hY (c:=c) hQ _ _ _ _ _ (let⟨G,hs⟩:=hs;⟨G,hs.drew⟩) ?_);exact(NP p).1 _ _ _ ⟨by simp,λp o hp hl=>by have :p<ops.size:=(bB.1 hp).1;simp[this]at hl⟩ hB h
def ad9 (n:Nat)(listed:Array Bool):Nat:=((List.range n).filter λi=>!listed.getD i true).length
theorem Gk {α:Type}{p q:α->Bool}{k:α}:∀{l:List α},(∀i,i∈l->q i=true->p i=true)->k∈l->p k=true->q k=false->(l.filter q).length<(l.filter p).length
 |[],_,hk,_,_=>by cases hk
 |x::l,h,hk,h1,h2=>by
  have hle:∀{l:List α},(∀i,i∈l->q i=true->p i=true)->(l.filter q).length<=(l.filter p).length:=by
   intro l;induction l with
   |nil=>intro _;exact ay _
   |cons y l ih=>
    intro h;have :=ih λi hi=>h i (bq _ hi);rw[xF,xF];cases hq:q y with
    |true=>rw[h y gq hq];simp;exact this
    |false=>cases p y<;>simp<;>omega
  have hl:=λi hi=>h i (bq _ hi);rw[xF,xF];rcases aQ.1 hk with rfl|hk;rw[h1,h2];have :=hle hl;simp;omega;have :=Gk hl hk h1 h2;cases hq:q x with
  |true=>rw[h x gq hq];simp;exact this
  |false=>cases p x<;>simp<;>omega
theorem aea {c:rX}{J:Array Bool->ai->Prop}{K:ai->Prop}(h1:∀(listed:Array Bool)(S':ai)(k:Nat),J listed S'->k∈Region.ready .any ops listed->zf C call Y ops c k (J (listed.setIfInBounds k true)) S')(h2:∀(listed:Array Bool)(S':ai),J listed S'->Region.ready .any ops listed=[]->K S'):∀(fuel:Nat)(listed:Array Bool)(S:ai),ad9 ops.size listed<=fuel->J listed S->KS C call Y ops c K fuel listed S:=by
 intro fuel;induction fuel with
 |zero=>
  intro listed S hn hJ;have hr:Region.ready .any ops listed=[]:=by
   cases hq:Region.ready .any ops listed with
   |nil=>rfl
   |cons k r=>
    exfalso;have hk:k∈Region.ready .any ops listed:=by rw[hq];exact gq
    obtain⟨h3,o,ho,-⟩:=mem_ready.1 hk;have hlt:=(bB.1 ho).1;have :k∈(List.range ops.size).filter λi=>!listed.getD i true:=hU.2 ⟨iR.2 hlt,by rw[h3];rfl⟩;have :=List.length_pos_of_mem this;unfold ad9 at hn;omega
  exact⟨hr,h2 _ _ hJ hr⟩
 |succ fuel ih=>
  intro listed S hn hJ;refine⟨h2 _ _ hJ,λk hk=>?_⟩;obtain⟨h3,o,ho,-⟩:=mem_ready.1 hk;have hlt:=(bB.1 ho).1;have hun:ad9 ops.size (listed.setIfInBounds k true)<ad9 ops.size listed:=by
   refine Gk (k:=k) (λi _ h=>?_) (iR.2 hlt) (by rw[h3];rfl) ?_;by_cases hik:k=i;subst hik;rw[h3];rfl;rw[getD_set_ne true hik]at h;exact h;have hsz:k<listed.size:=by rcases Nat.lt_or_ge k listed.size with h|h;exact h;rw[Dr,Dm h]at h3;cases h3
   simp[Dr,NL,hsz]
  have hs:=(zK (h1 listed S k hJ hk)).1;have BK:∀S',J (listed.setIfInBounds k true) S'->KS C call Y ops c K fuel (listed.setIfInBounds k true) S':=λS' h=>ih _ _ oO h;unfold sN at hs⊢;simp only[ho]at hs⊢;split at hs;obtain⟨y,q1,q2⟩:=kB hs;exact q1.nA (BK _ q2);obtain⟨y,q1,q2⟩:=hs;exact⟨y,q1,BK _ q2⟩;obtain⟨K',q1,q2⟩:=hs;exact⟨K',q1,λS' h=>BK _ (q2 S' h)⟩;obtain⟨K',q1,q2⟩:=hs;exact⟨K',q1,λS' h=>BK _ (q2 S' h)⟩
theorem Gl {o:Nat}{l:List (Nat×List FV)}{ys:List FV}(h:Qv.getObj l o=some ys):∃xs,Qv.getObj l o=some xs/\xs.length=ys.length/\∀(i:Nat)(x y:FV),xs[i]?=some x->ys[i]?=some y->aF x y:=⟨ys,h,rfl,λi x y hx hy=>by rw[hx]at hy;obtain rfl:=au hy;exact aF.refl _⟩
theorem bM.refl (S:ai):bM S S:=⟨rfl,rfl,rfl,λ_ _ q=>⟨q,id⟩,⟨rfl,λi f f' h1 h2=>by rw[h1]at h2;obtain rfl:=au h2;exact⟨rfl,rfl,λ_=>aF.refl _⟩⟩,λ_=>aF.refl _,λ_ _ h=>Gl h,λo l h=>⟨l,h,rfl,λi p p' h1 h2=>by rw[h1]at h2;obtain rfl:=au h2;exact⟨rfl,aF.refl _⟩⟩,λ_ _ h=>h⟩
theorem QO (S:ai)(ds:List Nat):Off ds S S:=⟨rfl,rfl,rfl,rfl,rfl,rfl,rfl,rfl,λ_ _=>rfl⟩
theorem jK (de:mc E.C call)(hY:eN E Y){id:Nat}{draw:Bool}{K:ai->Prop}{Q:Exit->Act->World->Prop}(hQ:∀S a w,K S->pV E S a w->Q .normal a w)(hs:pV E S a w)(h:lz E.C call Y ops draw K S):(Code.region id ops draw).wpIn E.kX 0 E.C.P Q a w:=by
 have keep:∀(φ:List FV->Prop),BD K (S.sG (dstsOf ops.toList)) (mT ops.toList) φ->∀S' a w,(φ (getAll S' (mT ops.toList))/\Off (dstsOf ops.toList) S S')->pV E S' a w->Q .normal a w:=λφ hk S' a w ⟨h1,h2⟩ hs'=>by obtain⟨T,h3,h4⟩:=QD _ _ _ hk h1 h2.weaken;exact hQ T a w h3 (hs'.weaken h4)
 have hd:∀o,o∈ops.toList->∀d,o.dst=some d->d∈dstsOf ops.toList:=λo ho d hd=>Tx ho hd;unfold lz at h;split at h;exact wpIn_region_list (Gf de hY hQ _ _ _ _ h hs);obtain⟨φ,h⟩:=h;cases φ with
 |none=>exact wpIn_region_list (Gf de hY hQ _ _ _ _ h hs)
 |some φ=>obtain⟨h1,h2⟩:=h;exact wpIn_region_list (Xw (keep φ h2) _ _ _ _ (VR _ _ _ hd (QO _ _) h1) hs)
 obtain⟨how,h⟩:=h;cases how with
 |lex m=>
  obtain⟨hB,h⟩:=h;have hm:m<=ops.size:=by simp only[BE,aW,decide_eq_true_eq]at hB;exact hB.1.1
  exact IB de hY hQ hB hs h hm
 |keep φ=>obtain⟨hB,h1,h2⟩:=h;refine IB de hY (m:=ops.size) (keep φ h2) hB hs ?_ (ay _);have h3:=VR (ds:=dstsOf ops.toList) _ _ _ hd (QO _ _) h1;have e1:ops.toList.take ops.size=ops.toList:=ck (by simp);have e2:ops.toList.drop ops.size=[]:=CQ (by simp);rw[e1,e2];exact h3
 |plan c p T=>
  obtain⟨hB,h⟩:=h;cases T with
  |none=>exact IE de hY hQ hB hs h
  |some T=>exact IE de hY (K:=λS'=>bM S' T) (λS a w hw hs=>hQ T a w h.2 (hs.weaken hw)) hB hs h.1
 |sea c J=>obtain⟨h0,h1,h2⟩:=h;exact wpIn_region_any E.C.mixed (ID de hY (c:=c) hQ _ _ _ _ _ (let⟨G,hs⟩:=hs;⟨G,hs.drew⟩) (aea h1 h2 ops.size _ _ (bH (di _ _) (by simp)) h0))
end
end Qv
