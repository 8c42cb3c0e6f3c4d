/- Part 5 of the proof: its lemmas. No condition. -/
import Derived.Test.YtlbofhenpfnenaaGreatDoorW4
import Derived.Deep.LoopGhost
import Derived.Sort.LoopGhostIn
set_option maxRecDepth 10000
set_option maxHeartbeats 80000000
set_option linter.all false
namespace Qv
open Go Go.RowKit
section
variable {E:Env}{G:aV}{S:ah}{a:Act}{w:World}{o:Oper}{ops:Array Oper}{C:Ctx}{call:ig}{Y:oN}
theorem Eo {fs:List (Nat×TypeId)}{js:List (TypeId×jL)}{S S':ah}:∀(parts:List (Nat×Operand))(cells:List FV),(∀p,p∈parts->S'.val p.2=S.val p.2)->nj fs js S' parts cells=nj fs js S parts cells:=by
 intro parts;induction parts with
 |nil=>intro cells _;rfl
 |cons p parts ih=>obtain⟨i,x⟩:=p;intro cells h;have hx:=h (i,x) gq;simp only at hx;simp only[nj,hx];split;rfl;split;rfl;split;split;rfl;exact ih _ λp hp=>h p (bh _ hp);rfl
theorem vr {size:Nat}{S S':ah}:∀(parts:List (Nat×Operand))(cells:List FV),(∀p,p∈parts->S'.val p.2=S.val p.2)->fM size S' parts cells=fM size S parts cells:=by
 intro parts;induction parts with
 |nil=>intro cells _;rfl
 |cons p parts ih=>obtain⟨i,x⟩:=p;intro cells h;have hx:=h (i,x) gq;simp only at hx;simp only[fM,hx];split;split;rfl;exact ih _ λp hp=>h p (bh _ hp);rfl
theorem Ft {S S':ah}{t:TypeId}{parts:Array (Nat×Operand)}{K:FV->Prop}(h:∀p,p∈parts.toList->S'.val p.2=S.val p.2):eB C S' (.build t parts) K=eB C S (.build t parts) K:=by simp only[eB,Gw];split;split;rfl;rw[Eo _ _ h];split;rfl;rw[vr _ _ h];rfl
theorem vu {S S':ah}{t:TypeId}{len:Nat}{parts:Array (Nat×Operand)}{K:FV->Prop}(h:∀p,p∈parts.toList->S'.val p.2=S.val p.2):eB C S' (.buildSlice t len parts) K=eB C S (.buildSlice t len parts) K:=by simp only[eB,lT];split;split;rfl;split;rfl;rw[vr _ _ h];rfl
theorem Fu {S S':ah}{op:Op}{K:FV->Prop}(hv:∀x,x∈op.operands->S'.val x=S.val x)(ho:S'.aJ=S.aJ)(hm:∀t x i ok,op=.lookup t x i ok->S'.maps=S.maps)(hit:∀it,op=.entry it->S'.iF=S.iF):eB C S' op K=eB C S op K:=by
 cases op<;>try rfl
 case lookup t x i ok=>simp only[eB];rw[hv x (by simp[Op.operands]),hv i (by simp[Op.operands]),hm _ _ _ _ rfl]
 case move x=>simp only[eB];rw[hv x (by simp[Op.operands])]
 case assign x=>simp only[eB];rw[hv x (by simp[Op.operands])]
 case pick c x y=>simp only[eB];rw[hv c (by simp[Op.operands]),hv x (by simp[Op.operands]),hv y (by simp[Op.operands])]
 case binOp op t x y yt=>simp only[eB];rw[hv x (by simp[Op.operands]),hv y (by simp[Op.operands])]
 case unOp op t x=>simp only[eB];rw[hv x (by simp[Op.operands])]
 case convert s d x=>simp only[eB];rw[hv x (by simp[Op.operands])]
 case makeInterface t x=>simp only[eB];rw[hv x (by simp[Op.operands])]
 case makeFunc fn first captured=>simp only[eB];have h1:first.toList.map S'.val=first.toList.map S.val:=fR λx hx=>hv x (by simp[Op.operands];exact .inl (by simpa using hx));have h2:captured.toList.map S'.val=captured.toList.map S.val:=fR λx hx=>hv x (by simp[Op.operands];exact .inr (by simpa using hx));rw[h1,h2]
 case build t parts=>exact Ft λp hp=>hv p.2 (by simp[Op.operands];exact⟨p.1,by simpa using hp⟩)
 case buildSlice t len parts=>exact vu λp hp=>hv p.2 (by simp[Op.operands];exact⟨p.1,by simpa using hp⟩)
 case load t x=>simp only[eB];rw[hv x (by simp[Op.operands]),ho]
 case nilCheck x=>simp only[eB];rw[hv x (by simp[Op.operands])]
 case fieldAddr s x f=>simp only[eB];rw[hv x (by simp[Op.operands])]
 case field s x f=>simp only[eB];rw[hv x (by simp[Op.operands])]
 case indexAddr t x i=>simp only[eB];rw[hv x (by simp[Op.operands]),hv i (by simp[Op.operands]),ho]
 case index t x i=>simp only[eB];rw[hv x (by simp[Op.operands]),hv i (by simp[Op.operands])]
 case slice t x lo hi mx=>
  cases mx with
  |some m=>rfl
  |none=>
   simp only[eB];have h1:lo.map S'.val=lo.map S.val:=by
    cases lo with
    |none=>rfl
    |some y=>simp only[eC];rw[hv y (by simp[Op.operands])]
   have h2:hi.map S'.val=hi.map S.val:=by
    cases hi with
    |none=>rfl
    |some y=>simp only[eC];rw[hv y (by simp[Op.operands])]
   rw[hv x (by simp[Op.operands]),h1,h2]
 case extract x i=>simp only[eB];rw[hv x (by simp[Op.operands])]
 case call c=>
  obtain⟨callee,args,types⟩:=c;have h1:args.toList.map S'.val=args.toList.map S.val:=fR λx hx=>hv x (by cases callee<;>simp[Op.operands,Call.operands]<;>first|exact .inr (by simpa using hx)|(simpa using hx));cases callee with
  |value f=>simp only[eB];rw[h1,hv f (by simp[Op.operands,Call.operands])]
  |builtin b=>simp only[eB];rw[h1,ho]
  |invoke r m=>rfl
theorem ah.HJ {S:ah}{dst:Option Nat}{v:FV}{t:Nat}(h:∀d,dst=some d->t≠d):(S.put dst v).get t=S.get t:=by
 cases dst with
 |none=>rfl
 |some d=>
  have hne:=h d rfl;have :Nat.beq t d=false:=by cases hb:Nat.beq t d;rfl;exact absurd (aK hb) hne
  simp only[ah.get,ah.put,this]
theorem ah.wO {S:ah}{dst:Option Nat}{v:FV}{x:Operand}(h:∀d,dst=some d->x≠.tmp d):(S.put dst v).val x=S.val x:=by
 cases x with
 |tmp t=>exact ah.HJ λd hd e=>h d hd (by rw[e])
 |_=>rfl
theorem ah.Qf {S:ah}{dst:Option Nat}{v:FV}:(S.put dst v).aJ=S.aJ:=by cases dst<;>rfl
theorem ah.put_comm {S:ah}{x y:Option Nat}{u v:FV}(h:∀d,x=some d->y≠some d):(S.put x u).put y v=(S.put y v).put x u:=by
 cases x with
 |none=>rfl
 |some d=>
  cases y with
  |none=>rfl
  |some e=>
   have hne:d≠e:=λhe=>h d rfl (he▸rfl);simp only[ah.put];congr 1;funext i;by_cases h1:i=d;have h2:Nat.beq i e=false:=by cases hb:Nat.beq i e;rfl;exact absurd ((aK hb).symm.trans h1).symm hne
   rw[h2];have h2:Nat.beq i d=false:=by cases hb:Nat.beq i d;rfl;exact absurd (aK hb) h1
   rw[h2]
theorem sI {S:ah}{dst:Option Nat}{v:FV}{o:Oper}{K:FV->Prop}(h:∀d,dst=some d->d∉o.looksAt ops):eB C (S.put dst v) o.op K=eB C S o.op K:=Fu (λx hx=>ah.wO λd hd hxd=>h d hd (by subst hxd;exact fG _ (wP.2 ⟨.tmp d,by simpa using hx,rfl⟩))) ah.Qf (λ_ _ _ _ _=>by cases dst<;>rfl) (λ_ _=>by cases dst<;>rfl)
def jg (ops:Array Oper)(S:ah)(o:Oper):Option Bool:=match o.guard with|none=>some true|some (j,want)=>match(ops[j]?).bind (·.dst)with|none=>none|some d=>match S.get d with|.p (.bool b)=>some (b==want)|.p (.eY [])=>some false|_=>none
theorem rM {dst:Option Nat}{v:FV}(h:∀d,dst=some d->d∉o.looksAt ops):jg ops (S.put dst v) o=jg ops S o:=by unfold jg;split;rfl;rename_i j want hg;split;rfl;rename_i d hd;have :(S.put dst v).get d=S.get d:=ah.HJ λe he hde=>h e he (by subst hde;simp[Oper.looksAt,hg,hd]);rw[this]
theorem sJ (hs:bp E G S a w){b:Bool}(h:jg ops S o=some b):Region.wanted o (yielded ops a.tmps)=b:=by unfold jg at h;unfold Region.wanted;split at h;rename_i hg;rw[hg];exact an h;rename_i j want hg;rw[hg];split at h;cases h;rename_i d hd;split at h;rename_i c hc;simp only[sH hs hd hc];have :=an h;rw[<-this];cases c<;>cases want<;>rfl;rename_i hc;simp only[rz hs hd hc];exact an h;cases h
def Ep:FV:=.p (.eY [])
def nu (C:Ctx)(ops:Array Oper)(o:Oper)(K:ah->Prop)(S:ah):Prop:=match jg ops S o with|some true=>∃v,eB C S o.op (λu=>u=v)/\K (S.put o.dst v)|some false=>K (S.put o.dst Ep)|none=>False
def Fv (C:Ctx)(call:ig)(Y:oN)(ops:Array Oper)(o:Oper)(K:ah->Prop)(S:ah):Prop:=match jg ops S o with|some true=>Hi C call Y o K S|some false=>K (S.put o.dst Ep)|none=>False
theorem Qg {rest:List Oper}{K:ah->Prop}(h:JX C ops (o::rest) K S):nu C ops o (JX C ops rest K) S:=by
 simp only[JX]at h;unfold nu jg;split at h;rename_i hg;rw[hg];exact h;rename_i j want hg;rw[hg];split at h;exact h.elim;rename_i d hd;simp only[hd];split at h;rename_i b hb;rw[ox]at h;simp only[hb];cases DV:(b==want)with
 |true=>rw[DV]at h;exact h
 |false=>rw[DV]at h;exact h
 rename_i hb;simp only[hb];exact h;exact h.elim
theorem HK {rest:List Oper}{K:ah->Prop}(h:oZ C call Y ops (o::rest) K S):Fv C call Y ops o (oZ C call Y ops rest K) S:=by
 simp only[oZ]at h;unfold Fv jg;split at h;rename_i hg;rw[hg];exact h;rename_i j want hg;rw[hg];split at h;exact h.elim;rename_i d hd;simp only[hd];split at h;rename_i b hb;rw[ox]at h;simp only[hb];cases DV:(b==want)with
 |true=>rw[DV]at h;exact h
 |false=>rw[DV]at h;exact h
 rename_i hb;simp only[hb];exact h;exact h.elim
def jY (C:Ctx)(ops:Array Oper)(o:Oper)(x:FV)(S:ah):Prop:=(jg ops S o=some true/\eB C S o.op λu=>u=x)\/(jg ops S o=some false/\x=Ep)
theorem jZ {K:ah->Prop}(h:nu C ops o K S):∃x,jY C ops o x S/\K (S.put o.dst x):=by unfold nu at h;split at h;rename_i hw;obtain⟨v,h1,h2⟩:=h;exact⟨v,.inl ⟨hw,h1⟩,h2⟩;rename_i hw;exact⟨Ep,.inr ⟨hw,rfl⟩,h⟩;exact h.elim
theorem jY.nu {x:FV}(hy:jY C ops o x S){K:ah->Prop}(h:K (S.put o.dst x)):nu C ops o K S:=by unfold Qv.nu;rcases hy with⟨hw,hv⟩|⟨hw,rfl⟩;rw[hw];exact⟨x,hv,h⟩;rw[hw];exact h
theorem jY.put {x:FV}(hy:jY C ops o x S){dst:Option Nat}{v:FV}(h:∀d,dst=some d->d∉o.looksAt ops):jY C ops o x (S.put dst v):=by unfold jY at*;rw[rM h,sI h];exact hy
theorem jY.Vp {x:FV}{dst:Option Nat}{v:FV}(hy:jY C ops o x (S.put dst v))(h:∀d,dst=some d->d∉o.looksAt ops):jY C ops o x S:=by unfold jY at*;rw[rM h,sI h]at hy;exact hy
theorem Xa {oi oj:Oper}{x:FV}(hap:oi.apart ops oj=true){K:ah->Prop}(hy:jY C ops oi x S)(h:nu C ops oj K (S.put oi.dst x)):nu C ops oj (λS'=>jY C ops oi x S'/\K (S'.put oi.dst x)) S:=by obtain⟨h1,h2,h3⟩:=Oper.apart_spec hap;obtain⟨u,hu,hK⟩:=jZ h;refine(hu.Vp h1).nu ⟨hy.put h3,?_⟩;rw[<-ah.put_comm h2];exact hK
def La (C:Ctx)(call:ig)(Y:oN)(ops:Array Oper)(q:Nat->Bool)(i:Nat)(K:ah->Prop)(S:ah):Prop:=match ops[i]?with|none=>K S|some o=>match q i with|true=>nu C ops o K S|false=>∃K':ah->Prop,Fv C call Y ops o K' S/\∀S',K' S'->K S'
def Xb (C:Ctx)(call:ig)(Y:oN)(ops:Array Oper)(q:Nat->Bool)(K:ah->Prop):Nat->Array Bool->ah->Prop|0,listed,S=>Region.ready .any ops listed=[]/\K S|fuel+1,listed,S=>(Region.ready .any ops listed=[]->K S)/\∀i∈Region.ready .any ops listed,La C call Y ops q i (Xb C call Y ops q K fuel (listed.setIfInBounds i true)) S
theorem yZ (hs:pJ E S a w){K:ah->Prop}{K':Act->World->Prop}{Q:Exit->Act->World->Prop}(h:nu E.C ops o K S)(hK:∀S a w,K S->pJ E S a w->K' a w):if Region.wanted o (yielded ops a.tmps)then CB E o a w K' Q else(∀f,o.about E.C.P w a.eval=some f->E.kG.fn f)/\K' (a.put o.dst undef) w:=by obtain⟨G,hs⟩:=hs;unfold nu at h;split at h;rename_i hw;rw[af (sJ hs hw)];obtain⟨v,h1,h2⟩:=h;exact En (K:=λ_=>True) hs h1 λa' w' hs'=>hK _ _ _ h2 hs';rename_i hw;rw[aa (by rw[sJ hs hw];simp)];exact⟨λf _=>Env.gd f,hK _ _ _ h ⟨G,hs.put o.dst (jt G w)⟩⟩;exact h.elim
theorem za (cV:lZ E.C call)(hY:eN E Y)(hs:pJ E S a w){K:ah->Prop}{K':Act->World->Prop}{Q:Exit->Act->World->Prop}(h:Fv E.C call Y ops o K S)(hK:∀S a w,K S->pJ E S a w->K' a w):if Region.wanted o (yielded ops a.tmps)then CB E o a w K' Q else(∀f,o.about E.C.P w a.eval=some f->E.kG.fn f)/\K' (a.put o.dst undef) w:=by obtain⟨G,hs⟩:=hs;unfold Fv at h;split at h;rename_i hw;rw[af (sJ hs hw)];exact tC cV hY hs h λS' a' w' hk hs'=>hK _ _ _ hk hs';rename_i hw;rw[aa (by rw[sJ hs hw];simp)];exact⟨λf _=>Env.gd f,hK _ _ _ h ⟨G,hs.put o.dst (jt G w)⟩⟩;exact h.elim
theorem Ti (cV:lZ E.C call)(hY:eN E Y){q:Nat->Bool}{K:ah->Prop}{Q:Exit->Act->World->Prop}(hQ:∀S a w,K S->pJ E S a w->Q .normal a w):∀(fuel:Nat)(listed:Array Bool)(S:ah)(a:Act)(w:World),pJ E S a w->Xb E.C call Y ops q K fuel listed S->wpAnyIn E.kG 0 E.C.P .any ops Q fuel listed a w:=by
 intro fuel;induction fuel with
 |zero=>intro listed S a w hs h;exact⟨h.1,hQ _ _ _ h.2 hs⟩
 |succ fuel ih=>intro listed S a w hs h;refine⟨λh0=>hQ _ _ _ (h.1 h0) hs,λi hi=>?_⟩;have h2:=h.2 i hi;unfold La at h2;unfold wpOpIn;split at h2;rename_i ho;simp only[ho];exact ih _ _ _ _ hs h2;rename_i o ho;simp only[ho];split at h2;exact yZ hs h2 λS a w hk hs'=>ih _ _ _ _ hs' hk;obtain⟨K',h3,h4⟩:=h2;exact za cV hY hs h3 λS a w hk hs'=>ih _ _ _ _ hs' (h4 _ hk)
def tD (ops:Array Oper)(listed:Array Bool):Prop:=listed.size=ops.size/\∀p o,ops[p]?=some o->listed.getD p false=true->∀e∈o.after,Region.binds .any e=true->listed.getD e.on false=true
theorem tD.set {listed:Array Bool}{i:Nat}(h:tD ops listed)(hi:i∈Region.ready .any ops listed):tD ops (listed.setIfInBounds i true):=by obtain⟨h1,h2⟩:=h;obtain⟨h0,o,ho,hall⟩:=mem_ready.1 hi;refine⟨by simpa using h1,λp op hp hl e he hb=>?_⟩;by_cases hpi:i=p;subst hpi;rw[ho]at hp;obtain rfl:=an hp;exact getD_set_true (hall e he hb);rw[getD_set_ne false hpi]at hl;exact getD_set_true (h2 p op hp hl e he hb)
theorem tD.reach {listed:Array Bool}(h:tD ops listed):∀(fuel j i:Nat),wq ops fuel j i=true->(∀o,ops[j]?=some o->∀e∈o.after,Region.binds .any e=true->listed.getD e.on false=true)->listed.getD i false=true:=by
 intro fuel;induction fuel with
 |zero=>intro j i hr;cases hr
 |succ fuel ih=>intro j i hr hall;simp only[wq]at hr;split at hr;cases hr;rename_i o ho;obtain⟨e,he,hb⟩:=fS.1 hr;simp only[aY,pV,beq_iff_eq]at hb;have hl:=hall o ho e (by simpa using he) hb.1;rcases hb.2 with hi|hr';exact hi▸hl;exact ih e.on i hr' λo' ho'=>h.2 e.on o' ho' hl
theorem Qh {listed:Array Bool}{i:Nat}(h:listed.getD i true=false):listed.getD i false=false:=by rcases Nat.lt_or_ge i listed.size with h'|h';simp[h']at h⊢;exact h;simp[CM h']at h
theorem Tj {q:Nat->Bool}{K:ah->Prop}{i:Nat}{oi:Oper}{x:FV}(hi:ops[i]?=some oi)(him:q i=true):∀(fuel:Nat)(listed:Array Bool)(S:ah),tD ops listed->(∀j oj,ops[j]?=some oj->j≠i->listed.getD j true=false->wq ops ops.size j i=true\/(q j=true/\oi.apart ops oj=true))->i∈Region.ready .any ops listed->jY C ops oi x S->Xb C call Y ops q K fuel (listed.setIfInBounds i true) (S.put oi.dst x)->Xb C call Y ops q K (fuel+1) listed S:=by
 have self:∀{K':ah->Prop}{S:ah},jY C ops oi x S->K' (S.put oi.dst x)->La C call Y ops q i K' S:=λhy h=>by unfold La;simp only[hi,him];exact hy.nu h
 intro fuel;induction fuel with
 |zero=>intro listed S _ _ hr hy H;refine⟨λh=>(by rw[h]at hr;cases hr),λj hj=>?_⟩;by_cases hji:j=i;subst hji;exact self hy H;have :=ready_mono hj hji;rw[H.1]at this;cases this
 |succ fuel ih=>
  intro listed S jE hfree hr hy H;refine⟨λh=>(by rw[h]at hr;cases hr),λj hj=>?_⟩;by_cases hji:j=i;subst hji;exact self hy H;have h1:=H.2 j (ready_mono hj hji);obtain⟨ZY,oj,hoj,hall⟩:=mem_ready.1 hj;rcases hfree j oj hoj hji ZY with hre|⟨hjm,hap⟩;have h2:=jE.reach _ _ _ hre λo ho=>by rw[hoj]at ho;obtain rfl:=an ho;exact hall
  rw[Qh (mem_ready.1 hr).1]at h2;cases h2;unfold La at h1⊢;simp only[hoj,hjm]at h1⊢;have h2:=Xa hap hy h1;have Tk:∀k ok,ops[k]?=some ok->k≠i->(listed.setIfInBounds j true).getD k true=false->wq ops ops.size k i=true\/(q k=true/\oi.apart ops ok=true):=λk ok hk hki hun=>by refine hfree k ok hk hki ?_;by_cases hjk:j=k;subst hjk;exact ZY;rw[getD_set_ne true hjk]at hun;exact hun
  obtain⟨y,hy2,h3⟩:=jZ h2;refine hy2.nu (ih (listed.setIfInBounds j true) _ (jE.set hj) Tk (ready_mono hr (dM hji)) h3.1 ?_);rw[Array.setIfInBounds_comm _ _ hji];exact h3.2
theorem HL {q:Nat->Bool}{listed:Array Bool}{i:Nat}{oi:Oper}(hi:ops[i]?=some oi)(h:UY ops q listed i=true)(j:Nat)(oj:Oper)(hj:ops[j]?=some oj)(hne:j≠i)(hun:listed.getD j true=false):wq ops ops.size j i=true\/(q j=true/\oi.apart ops oj=true):=by simp only[UY,hi,bU,iL]at h;have h1:=h j (bC.1 hj).1;simp only[hj,pV,beq_iff_eq,hne,false_or,hun,sw,aY]at h1;exact h1
theorem Xc {m:Nat}{K:ah->Prop}:∀(l:List Oper)(k:Nat)(listed:Array Bool)(S:ah),m<=k->(∀j,l[j]?=ops[k+j]?)->tn ops m l.length k listed=true->oZ C call Y ops l K S->Xb C call Y ops (λi=>decide (i<m)) K l.length listed S:=by
 intro l;induction l with
 |nil=>intro k listed S _ _ hB h;exact⟨by simpa[tn]using hB,h⟩
 |cons o l ih=>
  intro k listed S hk hl hB h;have h0:ops[k]?=some o:=by simpa using(hl 0).symm
  have hkm:decide (k<m)=false:=by simp;omega
  simp only[aI,tn,hkm,aY,beq_iff_eq]at hB;obtain⟨hr,hB'⟩:=hB;refine⟨λe=>(by rw[hr]at e;cases e),λi hi=>?_⟩;rw[hr]at hi;obtain rfl:i=k:=by simpa using hi
  unfold La;simp only[h0,hkm];exact⟨_,HK h,λS' h'=>ih (i+1) _ S' oO (λj=>by have :=hl (j+1);simpa[gj,pQ 1 j]using this) hB' h'⟩
theorem ZZ {m:Nat}{K:ah->Prop}:∀(l l':List Oper)(k:Nat)(listed:Array Bool)(S:ah),tD ops listed->k+l.length=m->(∀j,(l++l')[j]?=ops[k+j]?)->tn ops m (l++l').length k listed=true->JX C ops l (oZ C call Y ops l' K) S->Xb C call Y ops (λi=>decide (i<m)) K (l++l').length listed S:=by
 intro l;induction l with
 |nil=>intro l' k listed S _ hkm hl hB h;exact Xc l' k listed S (by simp at hkm;omega) (by simpa using hl) (by simpa using hB) h
 |cons o l ih=>
  intro l' k listed S jE hkm hl hB h;have h0:ops[k]?=some o:=by simpa using(hl 0).symm
  have hlt:k<m:=by simp at hkm;omega
  have hk':decide (k<m)=true:=by simp[hlt]
  simp only[dZ,aI,tn,hk',aY]at hB;obtain⟨⟨hr,hf⟩,hB'⟩:=hB;have hr':k∈Region.ready .any ops listed:=by simpa using hr
  obtain⟨x,hy,hK⟩:=jZ (Qg h);simp only[dZ,aI];refine Tj h0 hk' (l++l').length listed S jE (λj oj hj hne hun=>HL h0 hf j oj hj hne hun) hr' hy ?_;exact ih l' (k+1) _ _ (jE.set hr') (by simp at hkm;omega) (λj=>by have :=hl (j+1);simpa[gj,pQ 1 j]using this) hB' hK
theorem HM (cV:lZ E.C call)(hY:eN E Y){id m:Nat}{K:ah->Prop}{Q:Exit->Act->World->Prop}(hQ:∀S a w,K S->pJ E S a w->Q .normal a w)(hB:Bg ops m=true)(hs:pJ E S a w)(h:JX E.C ops (ops.toList.take m) (oZ E.C call Y ops (ops.toList.drop m) K) S)(hm:m<=ops.size):(Code.region id ops true).wpIn E.kG 0 E.C.P Q a w:=by
 simp only[Bg,aY]at hB;refine wpIn_region_any E.C.mixed (Ti cV hY (q:=λi=>decide (i<m)) hQ _ _ _ _ _ (let⟨G,hs⟩:=hs;⟨G,hs.drew⟩) ?_);have hlen:(ops.toList.take m++ops.toList.drop m).length=ops.size:=by simp
 have :=ZZ (C:=E.C) (call:=call) (Y:=Y) (ops:=ops) (m:=m) (K:=K) (ops.toList.take m) (ops.toList.drop m) 0 (Array.replicate ops.size false) S ⟨by simp,λp o hp hl=>by have :p<ops.size:=(bC.1 hp).1;simp[this]at hl⟩ (by simp;omega) (λj=>by simp) (by rw[hlen];exact hB.2) h;rw[hlen]at this;exact this
theorem kf {pr:List Nat}{o k:Nat}(h:iA o pr=true)(hk:iA k pr=false):Nat.beq o k=false:=by cases hb:Nat.beq o k;rfl;rw[aK hb]at h;rw[h]at hk;cases hk
mutual theorem FV.pq {pr:List Nat}{k:Nat}(hk:iA k pr=false):∀{x:FV},x.safe pr=true->x.kill k=x
 |.p _,_=>rfl
 |.agg xs,h=>by simp only[FV.safe]at h;simp only[FV.kill,FV.tE hk h]
 |.eY xs,h=>by simp only[FV.safe]at h;simp only[FV.kill,FV.tE hk h]
 |.ptr o off,h=>by simp only[FV.safe]at h;simp only[FV.kill,kf h hk]
 |.eU t T e xs,h=>by simp only[FV.safe]at h;simp only[FV.kill,kf h hk]
 |.full _,_=>rfl
 |.fn f a b,h=>by simp only[FV.safe]at h;split at h;rename_i h1;simp only[FV.kill,FV.tE hk h1,FV.tE hk h];cases h
 |.mZ l,h=>by simp only[FV.safe]at h;simp only[FV.kill,kf h hk]
 |.fc o T e,h=>by simp only[FV.safe]at h;simp only[FV.kill,kf h hk]
 |.tX o x T e,h=>by simp only[FV.safe]at h;simp only[FV.kill,kf h hk]
 |.ic o b off,h=>by simp only[FV.safe]at h;simp only[FV.kill,kf h hk]
 |.fK o,h=>by simp only[FV.safe]at h;simp only[FV.kill,kf h hk]
 |.AL o,h=>by simp only[FV.safe]at h;simp only[FV.kill,kf h hk]
 |.dr,_=>rfl theorem FV.tE {pr:List Nat}{k:Nat}(hk:iA k pr=false):∀{xs:List FV},FV.uc pr xs=true->FV.eL k xs=xs|[],_=>rfl|x::xs,h=>by simp only[FV.uc]at h;split at h;rename_i h1;simp only[FV.eL,FV.pq hk h1,FV.tE hk h];cases h end
structure Agree (pr:List Nat)(S S':ah):Prop where
 val:∀z:Operand,(S.val z).safe pr=true->S'.val z=S.val z
 aJ:∀o cells,iA o pr=true->Qv.getObj S.aJ o=some cells->∃cells',Qv.getObj S'.aJ o=some cells'/\cells'.length=cells.length/\∀(i:Nat)(y:FV),cells[i]?=some y->y.safe pr=true->cells'[i]?=some y
theorem Agree.trans {pr:List Nat}{S S' tU:ah}(h:Agree pr S S')(h':Agree pr S' tU):Agree pr S tU:=by refine⟨λz hz=>?_,λo cells ho hc=>?_⟩;have :=h.val z hz;rw[h'.val z (by rw[this];exact hz),this];obtain⟨c1,h1,l1,h2⟩:=h.aJ o cells ho hc;obtain⟨c2,h3,l2,h4⟩:=h'.aJ o c1 ho h1;exact⟨c2,h3,l2.trans l1,λi y hi hy=>h4 i y (h2 i y hi hy) hy⟩
theorem aaa (S:ah)(k:Nat)(z:Operand):(S.kill k).val z=(S.val z).kill k\/(S.val z).kill k=(S.kill k).val z:=by
 left;cases z with
 |tmp t=>simp only[ah.val,ah.get,ah.kill];split<;>rfl
 |const v=>
  simp only[ah.val];have h1:∀u:Value,(FV.gP u).kill k=FV.gP u:=λu=>by unfold FV.gP;split<;>rfl
  unfold FV.Pc;split;simp only[FV.kill,FV.fA,gY];congr 1;exact(fR λu _=>(h1 u)).symm;rfl;exact(h1 _).symm
 |func f=>rfl
 |global g=>simp only[ah.val];split<;>rfl
theorem Qi {d o:Nat}:∀{l:List (Nat×List FV)}{cs:List FV},o≠d->Qv.getObj l o=some cs->Qv.getObj (eo d l) o=some (FV.eL d cs):=by
 intro l;induction l with
 |nil=>intro cs _ h;cases h
 |cons p l ih=>
  obtain⟨u,i⟩:=p;intro cs hne h;simp only[Qv.getObj]at h;simp only[eo];split at h;rename_i hb;obtain rfl:=aK hb;obtain rfl:=an h;have :Nat.beq u d=false:=by cases hb:Nat.beq u d;rfl;exact absurd (aK hb) hne
  rw[this];simp[Qv.getObj];rename_i hb;split;exact ih hne h;simp only[Qv.getObj,hb];exact ih hne h
theorem Agree.kill {pr:List Nat}(S:ah){k:Nat}(hk:iA k pr=false):Agree pr S (S.kill k):=by refine⟨λz hz=>?_,λo cells ho hc=>?_⟩;rcases aaa S k z with h|h;rw[h,FV.pq hk hz];rw[<-h,FV.pq hk hz];refine⟨_,Qi (λe=>by rw[e,hk]at ho;cases ho) hc,by rw[FV.fA,ai],λi y hi hy=>?_⟩;rw[FV.fA,aM,hi];simp[FV.pq hk hy]
theorem Nn {ob o:Nat}{c:List FV}:∀{l:List (Nat×List FV)},o≠ob->Qv.getObj (setObj l ob c) o=Qv.getObj l o:=by
 intro l hne;induction l with
 |nil=>rfl
 |cons p l ih=>
  obtain⟨u,i⟩:=p;simp only[setObj];split;rename_i hb;obtain rfl:=aK hb;have :Nat.beq u o=false:=by cases hb:Nat.beq u o;rfl;exact absurd (aK hb).symm hne
  simp only[Qv.getObj,this];simp only[Qv.getObj,ih]
theorem Agree.BX {pr:List Nat}(S:ah){ob:Nat}(c:List FV)(hk:iA ob pr=false):Agree pr S (S.BX ob c):=⟨λz _=>by cases z<;>rfl,λo cells ho hc=>⟨cells,by show Qv.getObj (setObj S.aJ ob c) o=_;rw[Nn (λe=>by rw[e,hk]at ho;cases ho)];exact hc,rfl,λi y hi _=>hi⟩⟩
theorem Agree.afT {pr:List Nat}(S:ah){d:Nat}(c:List FV)(hk:iA d pr=false):Agree pr S {S with aJ:=(d,c)::S.aJ}:=⟨λz _=>by cases z<;>rfl,λo cells ho hc=>⟨cells,by
 have :Nat.beq d o=false:=by cases hb:Nat.beq d o;rfl;rw[aK hb,ho]at hk;cases hk
 simp only[Qv.getObj,this];exact hc,rfl,λi y hi _=>hi⟩⟩
theorem Agree.iZ {pr:List Nat}(S:ah)(b:List (Nat×List UInt8)):Agree pr S {S with cw:=b}:=⟨λz _=>by cases z<;>rfl,λo cells ho hc=>⟨cells,hc,rfl,λi y hi _=>hi⟩⟩
def gH (C:Ctx)(ops:Array Oper)(pr:List Nat)(o:Oper)(x:FV)(S:ah):Prop:=(jg ops S o=some true/\(eB C S o.op λu=>u=x)/\xS pr S o.op x=true)\/(jg ops S o=some false/\x=Ep)
theorem gH.yA {pr:List Nat}{x:FV}(h:gH C ops pr o x S):jY C ops o x S:=h.imp (λh=>⟨h.1,h.2.1⟩) id
theorem tF {pr:List Nat}{op:Op}{x:FV}(h:xS pr S op x=true):(∃zs,opsL op=some zs/\∀z,z∈zs->(S.val z).safe pr=true)/\x.safe pr=true:=by
 unfold xS at h;split at h;cases h;rename_i zs hz;split at h;rename_i hs;refine⟨⟨zs,hz,?_⟩,h⟩;clear hz;induction zs with
 |nil=>simp
 |cons y ys ih=>simp only[yD]at hs;split at hs;rename_i hy;intro z hz;rcases aG.1 hz with rfl|hz;exact hy;exact ih hs z hz;cases hs
 cases h
theorem HN {pr:List Nat}{op:Op}{x:FV}{zs:List Operand}(h:opsL op=some zs)(hz:∀z,z∈zs->(S.val z).safe pr=true)(hx:x.safe pr=true):xS pr S op x=true:=by
 unfold xS;rw[h];have :yD pr S zs=true:=by
  clear h;induction zs with
  |nil=>rfl
  |cons y ys ih=>simp only[yD,hz y gq];exact ih λz h=>hz z (bh _ h)
 simp only[this];exact hx
theorem gH.safe {pr:List Nat}{x:FV}(h:gH C ops pr o x S):x.safe pr=true:=by rcases h with h|⟨-,rfl⟩;exact(tF h.2.2).2;rfl
theorem Qj {op:Op}{zs:List Operand}(h:opsL op=some zs):∀z,z∈zs->z∈op.operands:=by
 intro z hz;unfold opsL at h;split at h;all_goals cases h
 all_goals simp[Op.operands,Call.operands]at hz⊢
 all_goals exact hz
theorem aab {op:Op}{zs:List Operand}(h:opsL op=some zs):∀z,z∈op.operands->z∈zs:=by
 intro z hz;unfold opsL at h;split at h;all_goals cases h
 all_goals simp[Op.operands,Call.operands]at hz⊢
 all_goals exact hz
theorem Xd {pr:List Nat}{x:FV}{dst:Option Nat}{v:FV}(h:∀d,dst=some d->d∉o.looksAt ops)(hs:xS pr S o.op x=true):xS pr (S.put dst v) o.op x=true:=by obtain⟨⟨zs,h1,h2⟩,h3⟩:=tF hs;refine HN h1 (λz hz=>?_) h3;rw[ah.wO λd hd hzd=>h d hd (by subst hzd;exact fG _ (wP.2 ⟨.tmp d,by simpa using Qj h1 _ hz,rfl⟩))];exact h2 z hz
theorem Qk {pr:List Nat}{x:FV}{dst:Option Nat}{v:FV}(h:∀d,dst=some d->d∉o.looksAt ops)(hs:xS pr (S.put dst v) o.op x=true):xS pr S o.op x=true:=by obtain⟨⟨zs,h1,h2⟩,h3⟩:=tF hs;refine HN h1 (λz hz=>?_) h3;have :=h2 z hz;rw[ah.wO λd hd hzd=>h d hd (by subst hzd;exact fG _ (wP.2 ⟨.tmp d,by simpa using Qj h1 _ hz,rfl⟩))]at this;exact this
theorem gH.put {pr:List Nat}{x:FV}(hy:gH C ops pr o x S){dst:Option Nat}{v:FV}(h:∀d,dst=some d->d∉o.looksAt ops):gH C ops pr o x (S.put dst v):=by unfold gH at*;rw[rM h,sI h];exact hy.imp (λq=>⟨q.1,q.2.1,Xd h q.2.2⟩) id
theorem gH.Vp {pr:List Nat}{x:FV}{dst:Option Nat}{v:FV}(hy:gH C ops pr o x (S.put dst v))(h:∀d,dst=some d->d∉o.looksAt ops):gH C ops pr o x S:=by unfold gH at*;rw[rM h,sI h]at hy;exact hy.imp (λq=>⟨q.1,q.2.1,Qk h q.2.2⟩) id
theorem zb {pr:List Nat}:∀(n:Nat){xs xs' cs:List FV},takeN n xs=some cs->FV.uc pr cs=true->(∀(i:Nat)(y:FV),xs[i]?=some y->y.safe pr=true->xs'[i]?=some y)->takeN n xs'=some cs
 |0,xs,xs',cs,h,_,_=>h
 |n+1,[],xs',cs,h,_,_=>by simp[takeN]at h
 |n+1,x::xs,xs',cs,h,hs,ha=>by
  simp only[takeN]at h;split at h;rename_i ys hys;obtain rfl:=an h;simp only[FV.uc]at hs;split at hs;rename_i hx;have h0:=ha 0 x rfl hx;cases xs' with
  |nil=>simp at h0
  |cons x' xs'=>
   simp at h0;subst h0;have :=zb n (xs:=xs) (xs':=xs') hys hs λi y hi hy=>by simpa using ha (i+1) y (by simpa using hi) hy
   simp only[takeN,this]
  cases hs;cases h
theorem Er {α:Type}:∀(n:Nat)(xs:List α)(i:Nat),(fT n xs)[i]?=xs[n+i]?
 |0,xs,i=>by simp[fT]
 |n+1,[],i=>by simp[fT]
 |n+1,x::xs,i=>by rw[fT,Er n xs i,show n+1+i=(n+i)+1 by omega];simp
theorem No {pr:List Nat}{S':ah}(h:Agree pr S S'){t:TypeId}{v x:FV}(hv:v.safe pr=true)(hx:x.safe pr=true)(he:nh C S.aJ t v λu=>u=x):nh C S'.aJ t v λu=>u=x:=by
 unfold nh at he⊢;cases hi:bP C.js t with
 |none=>rw[hi]at he;exact he.elim
 |some i=>
  rw[hi]at he;simp only at he⊢;cases v with
  |ptr o off=>
   simp only at he⊢;cases hc:Qv.getObj S.aJ o with
   |none=>rw[hc]at he;exact he.elim
   |some cells=>
    rw[hc]at he;obtain⟨cells',h1,hl,h2⟩:=h.aJ o cells hv hc;rw[h1];simp only at he⊢;have hd:∀(i:Nat)(y:FV),(fT off cells)[i]?=some y->y.safe pr=true->(fT off cells')[i]?=some y:=λi y hi hy=>by rw[Er]at hi⊢;exact h2 _ y hi hy
    cases hag:i.shape.isAgg with
    |true=>
     rw[hag]at he;simp only at he⊢;cases hcs:takeN i.size (fT off cells)with
     |none=>rw[hcs]at he;exact he.elim
     |some cs=>rw[hcs]at he;simp only at he;subst he;rw[zb _ hcs hx hd]
    |false=>
     rw[hag]at he;simp only at he⊢;cases hys:fT off cells with
     |nil=>rw[hys]at he;exact he.elim
     |cons y ys=>
      rw[hys]at he;simp only at he;subst he;have :=hd 0 y (by rw[hys];rfl) hx;cases hq:fT off cells' with
      |nil=>rw[hq]at this;simp at this
      |cons z zs=>rw[hq]at this;simpa using this
  |ic o base off=>
   simp only at he⊢;cases hc:Qv.getObj S.aJ o with
   |none=>rw[hc]at he;exact he.elim
   |some cells=>
    rw[hc]at he;obtain⟨cells',h1,hl,h2⟩:=h.aJ o cells hv hc;rw[h1];simp only at he⊢;obtain⟨A,ys,B,rfl,hA,he⟩:=he;have hlen:cells'.length=A.length+(ys.length+B.length):=by simpa using hl
    refine⟨cells'.take A.length,(cells'.drop A.length).take ys.length,(cells'.drop A.length).drop ys.length,by rw[dw,dw],by rw[aH,<-hA];omega,?_⟩;have hd:∀(i:Nat)(y:FV),(fT off ys)[i]?=some y->y.safe pr=true->(fT off ((cells'.drop A.length).take ys.length))[i]?=some y:=λi y hi hy=>by rw[Er]at hi⊢;have hlt:=(aC.1 hi).1;rw[Cy hlt,lS];refine h2 _ y ?_ hy;rw[dN oO,cm oO,<-hi];congr 1;omega
    cases hag:i.shape.isAgg with
    |true=>
     rw[hag]at he;simp only at he⊢;cases hcs:takeN i.size (fT off ys)with
     |none=>rw[hcs]at he;exact he.elim
     |some cs=>rw[hcs]at he;simp only at he;subst he;rw[zb _ hcs hx hd]
    |false=>
     rw[hag]at he;simp only at he⊢;cases hys:fT off ys with
     |nil=>rw[hys]at he;exact he.elim
     |cons y zs=>
      rw[hys]at he;simp only at he;subst he;have :=hd 0 y (by rw[hys];rfl) hx;cases hq:fT off ((cells'.drop A.length).take ys.length)with
      |nil=>rw[hq]at this;simp at this
      |cons z zs=>rw[hq]at this;simpa using this
  |p y=>cases y<;>first|exact he|exact he.elim
  |_=>exact he.elim
theorem CP {pr:List Nat}{S':ah}(h:Agree pr S S'){t:TypeId}{v i:FV}{K:FV->Prop}(hv:v.safe pr=true)(he:jk C S.aJ t v i K):jk C S'.aJ t v i K:=by
 unfold jk at he⊢;split at he;rename_i k n;split at he;split at he;exact he.elim;rename_i j hj;try simp only[hj]
 split at he;rename_i o T bN;split at he;rename_i cells hc hb;obtain⟨cells',h1,hl,-⟩:=h.aJ o cells hv hc;rw[h1];simp only[hb];obtain⟨m,base,e1,e2,e3,e4⟩:=he;exact⟨m,base,e1,e2,oO,e4⟩;exact he.elim;rename_i o bx T bN;split at he;rename_i cells hc hb;obtain⟨cells',h1,hl,-⟩:=h.aJ o cells hv hc;rw[h1];simp only[hb];obtain⟨m,base,e1,e2,e3,e4⟩:=he;exact⟨m,base,e1,e2,oO,e4⟩;exact he.elim;exact he;exact he;exact he;exact he
theorem Es {pr:List Nat}{S':ah}(h:Agree pr S S'){b:Builtin}{args:List FV}{types:List TypeId}{K:FV->Prop}(hv:∀v,v∈args->v.safe pr=true)(he:jv C S.aJ b args types K):jv C S'.aJ b args types K:=by unfold jv at he⊢;split at he;split at he;split at he;exact he;exact he;split at he;rename_i o T bN;split at he;rename_i cells hc;obtain⟨cells',h1,hl,-⟩:=h.aJ o cells (hv (.fc o T bN) (by simp)) hc;rw[h1];obtain⟨n,e1,e2⟩:=he;exact⟨n,oO,e2⟩;exact he.elim;rename_i o bx T bN;split at he;rename_i cells hc;obtain⟨cells',h1,hl,-⟩:=h.aJ o cells (hv (.tX o bx T bN) (by simp)) hc;rw[h1];obtain⟨n,e1,e2⟩:=he;exact⟨n,oO,e2⟩;exact he.elim;exact he;exact he;exact he;exact he;exact he;exact he
theorem Ql {pr:List Nat}{S':ah}(h:Agree pr S S'){op:Op}{x:FV}(hs:xS pr S op x=true)(he:eB C S op λu=>u=x):eB C S' op λu=>u=x:=by
 obtain⟨⟨zs,h1,h2⟩,h3⟩:=tF hs;have hv:∀z,z∈zs->S'.val z=S.val z:=λz hz=>h.val z (h2 z hz);have gen:∀S2:ah,(∀z,z∈op.operands->S2.val z=S.val z)->S2.aJ=S.aJ->eB C S2 op (λu=>u=x):=λS2 a b=>by rw[Fu a b (λ_ _ _ _ e=>by subst e;cases h1) (λ_ e=>by subst e;cases h1)];exact he
 by_cases hl:∃t a,op=.load t a;obtain⟨t,a,rfl⟩:=hl;simp only[opsL,bM]at h1;subst h1;have ha:=h2 a (by simp);simp only[eB]at he⊢;rw[hv a (by simp)];exact No h ha h3 he;by_cases Fq:∃t a i,op=.indexAddr t a i;obtain⟨t,a,i,rfl⟩:=Fq;simp only[opsL,bM]at h1;subst h1;have ha:=h2 a (by simp);simp only[eB]at he⊢;rw[hv a (by simp),hv i (by simp)];exact CP h ha he;by_cases hl3:∃b args types,op=.call ⟨.builtin b,args,types⟩;obtain⟨b,args,types,rfl⟩:=hl3;simp only[opsL,bM]at h1;subst h1;simp only[eB]at he⊢;have ha:args.toList.map S'.val=args.toList.map S.val:=fR λz hz=>hv z hz;rw[ha];exact Es h (λv WU=>by obtain⟨z,hz,rfl⟩:=aA.1 WU;exact h2 z hz) he;have hall:=aab h1;have :=gen {S' with aJ:=S.aJ} (λz hz=>by have :=hv z (hall z hz);cases z<;>exact this) rfl;cases op;case slice t x lo hi mx=>
  cases mx with
  |none=>exact this
  |some m=>cases h1
 case load t a=>exact absurd ⟨t,a,rfl⟩ hl
 case indexAddr t a i=>exact absurd ⟨t,a,i,rfl⟩ Fq
 case call c=>
  obtain⟨callee,args,types⟩:=c;cases callee with
  |builtin b=>exact absurd ⟨b,args,types,rfl⟩ hl3
  |_=>exact this
 case build t parts=>simp only[opsL,bM]at h1;subst h1;exact(Ft (λp hp=>hv p.2 (sK hp))).mpr he
 case buildSlice t len parts=>simp only[opsL,bM]at h1;subst h1;exact(vu (λp hp=>hv p.2 (sK hp))).mpr he
 all_goals exact this
theorem AU {pr:List Nat}{S':ah}(h:Agree pr S S'){b:Bool}(hw:jg ops S o=some b):jg ops S' o=some b:=by
 unfold jg at*;split at hw;exact hw;rename_i j want hg;split at hw;cases hw;rename_i d hd;have key:∀y:AV,S.get d=.p y->S'.get d=.p y:=λy hy=>by have :=h.val (.tmp d) (by show(S.get d).safe pr=true;rw[hy];rfl);exact this.trans hy
 split at hw;rename_i c hc;rw[key _ hc];exact hw;rename_i hc;rw[key _ hc];exact hw;cases hw
theorem gH.agree {pr:List Nat}{S':ah}(h:Agree pr S S'){x:FV}(hy:gH C ops pr o x S):gH C ops pr o x S':=by rcases hy with⟨h1,h2,h3⟩|⟨h1,h2⟩;refine .inl ⟨AU h h1,Ql h h3 h2,?_⟩;obtain⟨⟨zs,q1,q2⟩,q3⟩:=tF h3;exact HN q1 (λz hz=>by rw[h.val z (q2 z hz)];exact q2 z hz) q3;exact .inr ⟨AU h h1,h2⟩
def aac (C:Ctx)(ops:Array Oper)(pr:List Nat)(o:Oper)(K:ah->Prop)(S:ah):Prop:=∃x,gH C ops pr o x S/\K (S.put o.dst x)
def Fw (C:Ctx)(call:ig)(Y:oN)(ops:Array Oper)(pr:List Nat)(o:Oper)(K:ah->Prop)(S:ah):Prop:=match jg ops S o with|some true=>oy pr S o.dst o.op=true/\Hi C call Y o K S|some false=>K (S.put o.dst Ep)|none=>False
theorem Xe {pr:List Nat}{K:ah->Prop}(h:agw C ops pr o K S):aac C ops pr o K S:=by
 unfold agw at h;unfold aac gH jg;split at h;rename_i hg;rw[hg];obtain⟨v,h1,h2,h3⟩:=h;exact⟨v,.inl ⟨by first|rfl|trivial,h1,h2⟩,h3⟩;rename_i j want hg;rw[hg];split at h;exact h.elim;rename_i d hd;simp only[hd];split at h;rename_i b hb;rw[ox]at h;simp only[hb];cases DV:(b==want)with
 |true=>rw[DV]at h;obtain⟨v,h1,h2,h3⟩:=h;exact⟨v,.inl ⟨by first|rfl|trivial,h1,h2⟩,h3⟩
 |false=>rw[DV]at h;exact⟨_,.inr ⟨by first|rfl|trivial,rfl⟩,h⟩
 rename_i hb;simp only[hb];exact⟨_,.inr ⟨by first|rfl|trivial,rfl⟩,h⟩;exact h.elim
theorem Xf {pr:List Nat}{K:ah->Prop}(h:agx C call Y ops pr o K S):Fw C call Y ops pr o K S:=by
 unfold agx at h;unfold Fw jg;split at h;rename_i hg;rw[hg];exact h;rename_i j want hg;rw[hg];split at h;exact h.elim;rename_i d hd;simp only[hd];split at h;rename_i b hb;rw[ox]at h;simp only[hb];cases DV:(b==want)with
 |true=>rw[DV]at h;exact h
 |false=>rw[DV]at h;exact h
 rename_i hb;simp only[hb];exact h;exact h.elim
theorem vw {dst:Option Nat}{x:FV}{k:Nat}(hx:x.kill k=x):(S.put dst x).kill k=(S.kill k).put dst x:=by
 cases dst with
 |none=>rfl
 |some d=>simp only[ah.put,ah.kill];congr 1;funext i;split;exact hx;rfl
theorem Xg {pr:List Nat}{oi oj:Oper}{x:FV}(hap:oi.apart ops oj=true){K:ah->Prop}(hy:gH C ops pr oi x S)(h:Fw C call Y ops pr oj K (S.put oi.dst x)):Fw C call Y ops pr oj (λS1=>gH C ops pr oi x S1/\K (S1.put oi.dst x)) S:=by
 obtain⟨h1,h2,h3⟩:=Oper.apart_spec hap;have hxs:=hy.safe;unfold Fw at*;rw[rM h1]at h;split at h;obtain⟨hh,he⟩:=h;have hval:∀z,z∈oj.op.operands->(S.put oi.dst x).val z=S.val z:=λz hz=>ah.wO λd hd hzd=>h1 d hd (by subst hzd;exact fG _ (wP.2 ⟨.tmp d,by simpa using hz,rfl⟩));have hoff:(S.put oi.dst x).off=S.off:=by cases oi.dst<;>rfl
 have adD:(S.put oi.dst x).aJ=S.aJ:=ah.Qf;have YW:(S.put oi.dst x).cw=S.cw:=by cases oi.dst<;>rfl
 have fin:∀(S1 S2:ah)(v:FV),Agree pr S S1->S2=S1.put oi.dst x->K (S2.put oj.dst v)->gH C ops pr oi x (S1.put oj.dst v)/\K ((S1.put oj.dst v).put oi.dst x):=λS1 S2 v ha e hk=>by refine⟨(hy.agree ha).put h3,?_⟩;rw[<-ah.put_comm h2,<-e];exact hk
 cases hop:oj.op with
 |alloc t=>
  rw[hop]at hh;simp only[Hi,hop]at he⊢;simp only[oy]at hh⊢;split at he;rename_i d inf hd Cw;rw[hd]at hh;rw[hoff]at hh;simp only[eP]at hh;simp only[hd,Cw];refine⟨by simpa using hh,?_⟩;have hk:=FV.pq hh hxs;split at he;rename_i hb hz;try simp only[hb,hz]
  have :=fin {S.kill (S.off+d)with cw:=(S.off+d,[])::BU (S.off+d) S.cw} {(S.put oi.dst x).kill (S.off+d)with cw:=(S.off+d,[])::BU (S.off+d) S.cw} (.ptr (S.off+d) 0) ((Agree.kill S hh).trans (Agree.iZ _ _)) (by rw[vw hk];cases oi.dst<;>rfl);rw[hd]at this;rw[Hg]at he⊢;unfold SA at*;rw[hoff,YW]at he;exact⟨he.1,this he.2⟩;rename_i hno;rw[jN,wm]at he;rw[jN,wm];unfold newObj at*;rw[hoff,adD]at he;have :=fin {S.kill (S.off+d)with aJ:=(S.off+d,FV.eL (S.off+d) (inf.zero.map FV.gP))::eo (S.off+d) S.aJ} {(S.put oi.dst x).kill (S.off+d)with aJ:=(S.off+d,FV.eL (S.off+d) (inf.zero.map FV.gP))::eo (S.off+d) S.aJ} (.ptr (S.off+d) 0) ((Agree.kill S hh).trans (Agree.afT (S.kill (S.off+d)) _ hh)) (by rw[vw hk];cases oi.dst<;>rfl);rw[hd]at this;exact⟨he.1,this he.2⟩;exact he.elim
 |store t p z=>
  rw[hop]at hh hval;have hp:=hval p (by simp[Op.operands]);have hz:=hval z (by simp[Op.operands]);simp only[Hi,hop,hz,hp,adD]at he⊢;simp only[oy,hp]at hh⊢;split at he;rename_i inf ob off Cw xX;rw[xX]at hh;simp only[eP]at hh;simp only[Cw,xX];refine⟨by simpa using hh,?_⟩;split at he;exact he.elim;rename_i cells hc;try simp only[hc]
  split at he;rename_i hb;try simp only[hb]
  split at he;rename_i vk;try simp only[vk]
  split at he;rename_i cs hcs;try simp only[hcs]
  rw[jN]at he⊢;have :=fin (S.BX ob cs) ((S.put oi.dst x).BX ob cs) (.p (.eY [])) (Agree.BX S cs hh) (by unfold ah.BX;cases oi.dst<;>rfl);exact this he;exact he.elim;exact he.elim;exact he.elim;rename_i xX;rw[xX]at hh;simp at hh;exact he.elim
 |call c=>
  obtain⟨callee,args,types⟩:=c;cases callee with
  |value f=>rw[hop]at hh;simp[oy]at hh
  |invoke r m=>rw[hop]at hh;simp[oy]at hh
  |builtin b=>
   cases b<;>try (rw[hop]at hh;simp[oy]at hh;done)
   rw[hop]at hh hval;have hargs:args.toList.map (S.put oi.dst x).val=args.toList.map S.val:=fR λz hz=>hval z (by simp[Op.operands,Call.operands];simpa using hz);simp only[Hi,hop,hargs]at he⊢;simp only[oy,hargs]at hh⊢;split at he;rename_i a b t u d ha ht hd;rw[ha,hd]at hh;simp only at hh;rw[hoff]at hh;simp only[ha,ht,hd];refine⟨by simpa using hh,?_⟩;split at he;cases hh;replace hh:KO pr (S.off+d) a=true:=by split at hh;cases hh;exact hh
   have app:th C t u d (S.put oi.dst x) a b K->th C t u d S a b (λS'=>gH C ops pr oi x S'/\K (S'.put oi.dst x)):=λhe=>by
    unfold th at he⊢;split at he;rename_i b1 b2 e b3 b4 hti hui;simp only[hti,hui];split at he;exact he.elim;rename_i Tl;try simp only[Tl]
    split at he;exact he.elim;rename_i j hj;try simp only[hj]
    split at he;exact he.elim;rename_i ys hys;try simp only[hys]
    cases a with
    |eU k T bN xs=>
     simp only[KO]at hh he⊢;simp only[eP]at hh;have hk:=FV.pq hh hxs;split at he;rename_i e1 e2 e3;try simp only[e1,e2,e3]
     obtain⟨q1,q2,q3,zs,q4,q5⟩:=he;have :=fin (S.kill k) ((S.put oi.dst x).kill k) (.eU k T bN zs) (Agree.kill S hh) (vw hk);rw[hd]at this;exact⟨q1,q2,q3,zs,q4,this q5⟩;exact he.elim
    |full xs=>
     simp only[KO]at hh;simp only[eP]at hh;have hk:=FV.pq hh hxs;cases xs with
     |nil=>
      simp only at he⊢;split at he;rename_i e1;try simp only[e1]
      obtain⟨q1,q2,q3⟩:=he;rw[mF,hoff]at q3;rw[mF];have :=fin (S.kill (S.off+d)) ((S.put oi.dst x).kill (S.off+d)) (.eU (S.off+d) e j.size ys) (Agree.kill S hh) (vw hk);rw[hd]at this;exact⟨q1,q2,this q3⟩;exact he.elim
     |cons z zs=>
      simp only at he⊢;split at he;rename_i e1;try simp only[e1]
      obtain⟨q1,q2,q3,q4,q5⟩:=he;rw[mF,hoff]at q5;rw[mF];obtain⟨zs',q6,q7⟩:=q5;have :=fin (S.kill (S.off+d)) ((S.put oi.dst x).kill (S.off+d)) (.eU (S.off+d) e j.size zs') (Agree.kill S hh) (vw hk);rw[hd]at this;exact⟨q1,q2,q3,q4,zs',q6,this q7⟩;exact he.elim
    |_=>first|(simp[KO]at hh;done)|exact he.elim
    exact he.elim
   unfold SF at he⊢;split at he;rename_i KW;try simp only[KW]
   cases a with
   |full xs=>
    cases xs with
    |cons z zs=>exact app he
    |nil=>
     simp only[KO]at hh he⊢;simp only[eP]at hh;have hk:=FV.pq hh hxs;unfold MO at he⊢;split at he;rename_i b1 b2 e b3 b4 hti hui;simp only[hti,hui];split at he;exact he.elim;rename_i Tl;try simp only[Tl]
     split at he;exact he.elim;rename_i j hj;try simp only[hj]
     split at he;rename_i ys v1 v2 v3;try simp only[v1,v2,v3]
     obtain⟨q1,q2,q3,q5⟩:=he;rw[lU,hoff]at q5;rw[lU];obtain⟨q8,zs,q6,q7⟩:=q5;have :=fin {S.kill (S.off+d)with aJ:=(S.off+d,zs)::eo (S.off+d) S.aJ} {(S.put oi.dst x).kill (S.off+d)with aJ:=(S.off+d,zs)::eo (S.off+d) S.aJ} (.fc (S.off+d) e j.size) ((Agree.kill S hh).trans (Agree.afT (S.kill (S.off+d)) _ hh)) (by rw[vw hk];cases oi.dst<;>rfl);rw[hd]at this;rw[adD]at q7;exact⟨q1,q2,q3,q8,zs,q6,this q7⟩;exact he.elim;exact he.elim
   |_=>exact app he
   rename_i KW;try simp only[KW]
   exact app he;exact he.elim
 |_=>rw[hop]at hh;simp[oy]at hh
 rename_i hw;refine⟨hy.put h3,?_⟩;rw[<-ah.put_comm h2];exact h;exact h.elim
def sn (C:Ctx)(call:ig)(Y:oN)(ops:Array Oper)(c:rK)(i:Nat)(K:ah->Prop)(S:ah):Prop:=match ops[i]?with|none=>K S|some o=>match c.of i with|0=>nu C ops o K S|1=>aac C ops c.pr o K S|2=>∃K':ah->Prop,Fw C call Y ops c.pr o K' S/\∀S',K' S'->K S'|_=>∃K':ah->Prop,Fv C call Y ops o K' S/\∀S',K' S'->K S'
def Ki (C:Ctx)(call:ig)(Y:oN)(ops:Array Oper)(c:rK)(K:ah->Prop):Nat->Array Bool->ah->Prop|0,listed,S=>Region.ready .any ops listed=[]/\K S|fuel+1,listed,S=>(Region.ready .any ops listed=[]->K S)/\∀i∈Region.ready .any ops listed,sn C call Y ops c i (Ki C call Y ops c K fuel (listed.setIfInBounds i true)) S
theorem adP {pr:List Nat}{K:ah->Prop}(h:Fw C call Y ops pr o K S):Fv C call Y ops o K S:=by
 unfold Fw at h;unfold Fv;split at h;rename_i hw;first|exact h.2|(rw[hw];exact h.2)
 rename_i hw;first|exact h|(rw[hw];exact h)
 exact h.elim
theorem HO (cV:lZ E.C call)(hY:eN E Y){c:rK}{K:ah->Prop}{Q:Exit->Act->World->Prop}(hQ:∀S a w,K S->pJ E S a w->Q .normal a w):∀(fuel:Nat)(listed:Array Bool)(S:ah)(a:Act)(w:World),pJ E S a w->Ki E.C call Y ops c K fuel listed S->wpAnyIn E.kG 0 E.C.P .any ops Q fuel listed a w:=by
 intro fuel;induction fuel with
 |zero=>intro listed S a w hs h;exact⟨h.1,hQ _ _ _ h.2 hs⟩
 |succ fuel ih=>intro listed S a w hs h;refine⟨λh0=>hQ _ _ _ (h.1 h0) hs,λi hi=>?_⟩;have h2:=h.2 i hi;unfold sn at h2;unfold wpOpIn;split at h2;rename_i ho;simp only[ho];exact ih _ _ _ _ hs h2;rename_i o ho;simp only[ho];split at h2;exact yZ hs h2 λS a w hk hs'=>ih _ _ _ _ hs' hk;obtain⟨x,hy,hK⟩:=h2;exact yZ hs (hy.yA.nu hK) λS a w hk hs'=>ih _ _ _ _ hs' hk;obtain⟨K',h3,h4⟩:=h2;exact za cV hY hs (adP h3) λS a w hk hs'=>ih _ _ _ _ hs' (h4 _ hk);obtain⟨K',h3,h4⟩:=h2;exact za cV hY hs h3 λS a w hk hs'=>ih _ _ _ _ hs' (h4 _ hk)
def xY (C:Ctx)(ops:Array Oper)(c:rK)(i:Nat)(o:Oper)(x:FV)(S:ah):Prop:=match c.of i with|0=>jY C ops o x S|_=>gH C ops c.pr o x S
theorem Xh {c:rK}{i j:Nat}{oi oj:Oper}{x:FV}(hj:ops[j]?=some oj)(hi1:c.of i<=1)(hjc:c.of j<=c.of i+1)(hap:oi.apart ops oj=true){K:ah->Prop}(hy:xY C ops c i oi x S)(h:sn C call Y ops c j K (S.put oi.dst x)):sn C call Y ops c j (λS'=>xY C ops c i oi x S'/\K (S'.put oi.dst x)) S:=by
 obtain⟨h1,h2,h3⟩:=Oper.apart_spec hap;have aiz:∀{S:ah}{v:FV},xY C ops c i oi x S->xY C ops c i oi x (S.put oj.dst v):=λ{S v} hk=>by
  unfold xY at*;split;rename_i he;simp only[he]at hk;exact hk.put h3;rename_i he;have :gH C ops c.pr oi x S:=by split at hk;rename_i he2;exact absurd he2 he;exact hk
  exact this.put h3
 unfold sn at*;simp only[hj]at h⊢;split at h;obtain⟨u,hu,hK⟩:=jZ h;refine(hu.Vp h1).nu ⟨aiz hy,?_⟩;rw[<-ah.put_comm h2];exact hK;obtain⟨u,hu,hK⟩:=h;refine⟨u,hu.Vp h1,aiz hy,?_⟩;rw[<-ah.put_comm h2];exact hK;rename_i hc2;have hi:c.of i=1:=oO
 have hyc:gH C ops c.pr oi x S:=by unfold xY at hy;simp only[hi]at hy;exact hy
 obtain⟨K',h4,h5⟩:=h;refine⟨_,Xg hap hyc h4,λS' h'=>⟨?_,h5 _ h'.2⟩⟩;unfold xY;simp only[hi];exact h'.1;rename_i n0 n1 n2;exfalso;have :c.of j<=2:=oO
 have :c.of j=0\/c.of j=1\/c.of j=2:=oO
 rcases this with e|e|e;exact n0 e;exact n1 e;exact n2 e
theorem Tm {c:rK}{K:ah->Prop}{i:Nat}{oi:Oper}{x:FV}(hi:ops[i]?=some oi)(hi1:c.of i<=1):∀(fuel:Nat)(listed:Array Bool)(S:ah),tD ops listed->(∀j oj,ops[j]?=some oj->j≠i->listed.getD j true=false->wq ops ops.size j i=true\/(c.of j<=c.of i+1/\oi.apart ops oj=true))->i∈Region.ready .any ops listed->xY C ops c i oi x S->Ki C call Y ops c K fuel (listed.setIfInBounds i true) (S.put oi.dst x)->Ki C call Y ops c K (fuel+1) listed S:=by
 have self:∀{K':ah->Prop}{S:ah},xY C ops c i oi x S->K' (S.put oi.dst x)->sn C call Y ops c i K' S:=λ{K' S} hy h=>by
  unfold sn;simp only[hi];unfold xY at hy;have :c.of i=0\/c.of i=1:=oO
  rcases this with e|e;simp only[e]at hy⊢;exact hy.nu h;simp only[e]at hy⊢;exact⟨x,hy,h⟩
 intro fuel;induction fuel with
 |zero=>intro listed S _ _ hr hy H;refine⟨λh=>(by rw[h]at hr;cases hr),λj hj=>?_⟩;by_cases hji:j=i;subst hji;exact self hy H;have :=ready_mono hj hji;rw[H.1]at this;cases this
 |succ fuel ih=>
  intro listed S jE hfree hr hy H;refine⟨λh=>(by rw[h]at hr;cases hr),λj hj=>?_⟩;by_cases hji:j=i;subst hji;exact self hy H;have h1:=H.2 j (ready_mono hj hji);obtain⟨ZY,oj,hoj,hall⟩:=mem_ready.1 hj;rcases hfree j oj hoj hji ZY with hre|⟨hjm,hap⟩;have h2:=jE.reach _ _ _ hre λo ho=>by rw[hoj]at ho;obtain rfl:=an ho;exact hall
  rw[Qh (mem_ready.1 hr).1]at h2;cases h2;have h2:=Xh hoj hi1 hjm hap hy h1;have Tk:∀k ok,ops[k]?=some ok->k≠i->(listed.setIfInBounds j true).getD k true=false->wq ops ops.size k i=true\/(c.of k<=c.of i+1/\oi.apart ops ok=true):=λk ok hk hki hun=>by refine hfree k ok hk hki ?_;by_cases hjk:j=k;subst hjk;exact ZY;rw[getD_set_ne true hjk]at hun;exact hun
  have mono:∀{K1 K2:ah->Prop}{S:ah},(∀S',K1 S'->K2 S')->sn C call Y ops c j K1 S->sn C call Y ops c j K2 S:=λ{K1 K2 S} hm hq=>by unfold sn at*;simp only[hoj]at hq⊢;split at hq;obtain⟨y,q1,q2⟩:=jZ hq;exact q1.nu (hm _ q2);obtain⟨y,q1,q2⟩:=hq;exact⟨y,q1,hm _ q2⟩;obtain⟨K',q1,q2⟩:=hq;exact⟨K',q1,λS' h=>hm _ (q2 S' h)⟩;obtain⟨K',q1,q2⟩:=hq;exact⟨K',q1,λS' h=>hm _ (q2 S' h)⟩
  refine mono (λS' h'=>?_) h2;refine ih (listed.setIfInBounds j true) _ (jE.set hj) Tk (ready_mono hr (dM hji)) h'.1 ?_;rw[Array.setIfInBounds_comm _ _ hji];exact h'.2
theorem zc {c:rK}{k:Nat}{K:ah->Prop}(h:yE C call Y ops c k K S):sn C call Y ops c k K S/\(c.of k<=1->∃o x,ops[k]?=some o/\xY C ops c k o x S/\K (S.put o.dst x)):=by
 unfold yE at h;split at h;exact h.elim;rename_i o ho;have ho':ops[k]?=some o:=by simpa using ho
 unfold sn xY;simp only[ho'];split at h;rename_i e;have :=Qg h;obtain⟨x,hy,hK⟩:=jZ this;simp only[e];exact⟨hy.nu hK,λ_=>⟨o,x,rfl,hy,hK⟩⟩;rename_i e;obtain⟨x,hy,hK⟩:=Xe h;simp only[e];exact⟨⟨x,hy,hK⟩,λ_=>⟨o,x,rfl,hy,hK⟩⟩;rename_i e;simp only[e];exact⟨⟨_,Xf h,λ_ h=>h⟩,λhle=>absurd hle oO⟩;rename_i n0 n1 n2;have a0:c.of k≠0:=n0;have a1:c.of k≠1:=n1;have a2:c.of k≠2:=n2;obtain⟨n,hn⟩:∃n,c.of k=n+3:=⟨c.of k-3,oO⟩;simp only[hn];exact⟨⟨_,HK h,λ_ h=>h⟩,λhle=>absurd hle oO⟩
theorem Np {c:rK}{K:ah->Prop}:∀(p:JY),(∀(fuel:Nat)(listed:Array Bool)(S:ah),tD ops listed->oe ops c p true fuel listed=true->og C call Y ops c K p S->Ki C call Y ops c K fuel listed S)/\(∀(fuel:Nat)(listed:Array Bool)(S:ah),tD ops listed->oe ops c p false fuel listed=true->og C call Y ops c K p S->∀i,i∈p.UZ->i∈Region.ready .any ops listed->∃f,fuel=f+1/\sn C call Y ops c i (Ki C call Y ops c K f (listed.setIfInBounds i true)) S):=by
 intro p;induction p with
 |fin=>
  refine⟨λfuel listed S jE hB h=>?_,λfuel listed S jE hB h i hi=>by cases hi⟩;simp only[oe,jd,List.isEmpty_iff]at hB;cases fuel with
  |zero=>exact⟨hB,h⟩
  |succ fuel=>exact⟨λ_=>h,λi hi=>by rw[hB]at hi;cases hi⟩
 |stop=>refine⟨λfuel listed S jE hB h=>?_,λfuel listed S jE hB h i hi=>by cases hi⟩;simp[oe]at hB
 |one k p ih=>
  refine⟨λfuel listed S jE hB h=>?_,λfuel listed S jE hB h i hi=>by cases hi⟩;cases fuel with
  |zero=>simp[oe]at hB
  |succ fuel=>
   simp only[oe,jd,aY]at hB;obtain⟨⟨⟨hq,hr⟩,hf⟩,hB'⟩:=hB;have hr':k∈Region.ready .any ops listed:=by simpa using hr
   have Nc:c.of k<=1:=gQ hq;simp only[og]at h;obtain⟨o,x,ho,hy,hK⟩:=(zc h).2 Nc;refine Tm ho Nc fuel listed S jE (λj oj hj hne hun=>?_) hr' hy ?_;refine(HL ho hf j oj hj hne hun).imp id λh=>⟨gQ h.1,h.2⟩;exact ih.1 fuel _ _ (jE.set hr') hB' hK
 |alt k p r ihp ihr=>
  have parts:∀{S:ah},og C call Y ops c K (.alt k p r) S->yE C call Y ops c k (og C call Y ops c K p) S/\og C call Y ops c K r S:=λ{S} h=>by simp only[og]at h;split at h;exact⟨h,trivial⟩;exact h
  have both:∀(top:Bool)(fuel:Nat)(listed:Array Bool)(S:ah),tD ops listed->oe ops c (.alt k p r) top fuel listed=true->og C call Y ops c K (.alt k p r) S->∀i,i∈(JY.alt k p r).UZ->i∈Region.ready .any ops listed->∃f,fuel=f+1/\sn C call Y ops c i (Ki C call Y ops c K f (listed.setIfInBounds i true)) S:=λtop fuel listed S jE hB h i hi hr=>by
   obtain⟨hst,qB⟩:=parts h;cases fuel with
   |zero=>simp[oe]at hB
   |succ f=>simp only[oe,aY]at hB;rcases aG.1 hi with rfl|hi;refine⟨f,rfl,?_⟩;have hs:=(zc hst).1;obtain⟨-,o,ho,-⟩:=mem_ready.1 hr;unfold sn at hs⊢;simp only[ho]at hs⊢;have Bm:∀S',og C call Y ops c K p S'->Ki C call Y ops c K f (listed.setIfInBounds i true) S':=λS' h'=>ihp.1 f _ _ (jE.set hr) hB.2.1 h';split at hs;obtain⟨y,q1,q2⟩:=jZ hs;exact q1.nu (Bm _ q2);obtain⟨y,q1,q2⟩:=hs;exact⟨y,q1,Bm _ q2⟩;obtain⟨K',q1,q2⟩:=hs;exact⟨K',q1,λS' h=>Bm _ (q2 S' h)⟩;obtain⟨K',q1,q2⟩:=hs;exact⟨K',q1,λS' h=>Bm _ (q2 S' h)⟩;exact ihr.2 (f+1) listed S jE hB.2.2 qB i hi hr
  refine⟨λfuel listed S jE hB h=>?_,λfuel listed S jE hB h i hi hr=>both false fuel listed S jE hB h i hi hr⟩;have hB0:=hB;cases fuel with
  |zero=>simp[oe]at hB
  |succ f=>
   simp only[oe,Bool.not_true,pW,aY,beq_iff_eq]at hB;refine⟨λe=>(by rw[hB.1]at e;cases e),λi hi=>?_⟩;obtain⟨f',hf,hst⟩:=both true (f+1) listed S jE hB0 h i (by rw[hB.1]at hi;exact hi) hi;obtain rfl:f=f':=oO
   exact hst
theorem HP (cV:lZ E.C call)(hY:eN E Y){id:Nat}{c:rK}{p:JY}{K:ah->Prop}{Q:Exit->Act->World->Prop}(hQ:∀S a w,K S->pJ E S a w->Q .normal a w)(hB:oe ops c p true ops.size (Array.replicate ops.size false)=true)(hs:pJ E S a w)(h:og E.C call Y ops c K p S):(Code.region id ops true).wpIn E.kG 0 E.C.P Q a w:=by refine wpIn_region_any E.C.mixed (HO cV hY (c:=c) hQ _ _ _ _ _ (let⟨G,hs⟩:=hs;⟨G,hs.drew⟩) ?_);exact(Np p).1 _ _ _ ⟨by simp,λp o hp hl=>by have :p<ops.size:=(bC.1 hp).1;simp[this]at hl⟩ hB h
def adQ (n:Nat)(listed:Array Bool):Nat:=((List.range n).filter λi=>!listed.getD i true).length
theorem Fx {α:Type}{p q:α->Bool}{k:α}:∀{l:List α},(∀i,i∈l->q i=true->p i=true)->k∈l->p k=true->q k=false->(l.filter q).length<(l.filter p).length
 |[],_,hk,_,_=>by cases hk
 |x::l,h,hk,h1,h2=>by
  have hle:∀{l:List α},(∀i,i∈l->q i=true->p i=true)->(l.filter q).length<=(l.filter p).length:=by
   intro l;induction l with
   |nil=>intro _;exact ay _
   |cons y l ih=>
    intro h;have :=ih λi hi=>h i (bh _ hi);rw[wQ,wQ];cases hq:q y with
    |true=>rw[h y gq hq];simp;exact this
    |false=>cases p y<;>simp<;>omega
  have hl:=λi hi=>h i (bh _ hi);rw[wQ,wQ];rcases aG.1 hk with rfl|hk;rw[h1,h2];have :=hle hl;simp;omega;have :=Fx hl hk h1 h2;cases hq:q x with
  |true=>rw[h x gq hq];simp;exact this
  |false=>cases p x<;>simp<;>omega
theorem adS {c:rK}{J:Array Bool->ah->Prop}{K:ah->Prop}(h1:∀(listed:Array Bool)(S':ah)(k:Nat),J listed S'->k∈Region.ready .any ops listed->yE C call Y ops c k (J (listed.setIfInBounds k true)) S')(h2:∀(listed:Array Bool)(S':ah),J listed S'->Region.ready .any ops listed=[]->K S'):∀(fuel:Nat)(listed:Array Bool)(S:ah),adQ ops.size listed<=fuel->J listed S->Ki C call Y ops c K fuel listed S:=by
 intro fuel;induction fuel with
 |zero=>
  intro listed S hn hJ;have hr:Region.ready .any ops listed=[]:=by
   cases hq:Region.ready .any ops listed with
   |nil=>rfl
   |cons k r=>
    exfalso;have hk:k∈Region.ready .any ops listed:=by rw[hq];exact gq
    obtain⟨h3,o,ho,-⟩:=mem_ready.1 hk;have hlt:=(bC.1 ho).1;have :k∈(List.range ops.size).filter λi=>!listed.getD i true:=gr.2 ⟨iL.2 hlt,by rw[h3];rfl⟩;have :=List.length_pos_of_mem this;unfold adQ at hn;omega
  exact⟨hr,h2 _ _ hJ hr⟩
 |succ fuel ih=>
  intro listed S hn hJ;refine⟨h2 _ _ hJ,λk hk=>?_⟩;obtain⟨h3,o,ho,-⟩:=mem_ready.1 hk;have hlt:=(bC.1 ho).1;have hun:adQ ops.size (listed.setIfInBounds k true)<adQ ops.size listed:=by
   refine Fx (k:=k) (λi _ h=>?_) (iL.2 hlt) (by rw[h3];rfl) ?_;by_cases hik:k=i;subst hik;rw[h3];rfl;rw[getD_set_ne true hik]at h;exact h;have hsz:k<listed.size:=by rcases Nat.lt_or_ge k listed.size with h|h;exact h;rw[CQ,CM h]at h3;cases h3
   simp[CQ,Nk,hsz]
  have hs:=(zc (h1 listed S k hJ hk)).1;have Bm:∀S',J (listed.setIfInBounds k true) S'->Ki C call Y ops c K fuel (listed.setIfInBounds k true) S':=λS' h=>ih _ _ oO h;unfold sn at hs⊢;simp only[ho]at hs⊢;split at hs;obtain⟨y,q1,q2⟩:=jZ hs;exact q1.nu (Bm _ q2);obtain⟨y,q1,q2⟩:=hs;exact⟨y,q1,Bm _ q2⟩;obtain⟨K',q1,q2⟩:=hs;exact⟨K',q1,λS' h=>Bm _ (q2 S' h)⟩;obtain⟨K',q1,q2⟩:=hs;exact⟨K',q1,λS' h=>Bm _ (q2 S' h)⟩
theorem Fy {o:Nat}{l:List (Nat×List FV)}{ys:List FV}(h:Qv.getObj l o=some ys):∃xs,Qv.getObj l o=some xs/\xs.length=ys.length/\∀(i:Nat)(x y:FV),xs[i]?=some x->ys[i]?=some y->aR x y:=⟨ys,h,rfl,λi x y hx hy=>by rw[hx]at hy;obtain rfl:=an hy;exact aR.refl _⟩
theorem bL.refl (S:ah):bL S S:=⟨rfl,rfl,rfl,λ_ _ q=>⟨q,id⟩,⟨rfl,λi f f' h1 h2=>by rw[h1]at h2;obtain rfl:=an h2;exact⟨rfl,rfl,λ_=>aR.refl _⟩⟩,λ_=>aR.refl _,λ_ _ h=>Fy h,λo l h=>⟨l,h,rfl,λi p p' h1 h2=>by rw[h1]at h2;obtain rfl:=an h2;exact⟨rfl,aR.refl _⟩⟩,λ_ _ h=>h⟩
theorem Qm (S:ah)(ds:List Nat):Off ds S S:=⟨rfl,rfl,rfl,rfl,rfl,rfl,rfl,rfl,λ_ _=>rfl⟩
theorem jw (cV:lZ E.C call)(hY:eN E Y){id:Nat}{draw:Bool}{K:ah->Prop}{Q:Exit->Act->World->Prop}(hQ:∀S a w,K S->pJ E S a w->Q .normal a w)(hs:pJ E S a w)(h:kR E.C call Y ops draw K S):(Code.region id ops draw).wpIn E.kG 0 E.C.P Q a w:=by
 have keep:∀(φ:List FV->Prop),Ec K (S.uI (dstsOf ops.toList)) (pO ops.toList) φ->∀S' a w,(φ (getAll S' (pO ops.toList))/\Off (dstsOf ops.toList) S S')->pJ E S' a w->Q .normal a w:=λφ hk S' a w ⟨h1,h2⟩ hs'=>by obtain⟨T,h3,h4⟩:=Qc _ _ _ hk h1 h2.weaken;exact hQ T a w h3 (hs'.weaken h4)
 have hd:∀o,o∈ops.toList->∀d,o.dst=some d->d∈dstsOf ops.toList:=λo ho d hd=>Tc ho hd;unfold kR at h;split at h;exact wpIn_region_list (Fs cV hY hQ _ _ _ _ h hs);obtain⟨φ,h⟩:=h;cases φ with
 |none=>exact wpIn_region_list (Fs cV hY hQ _ _ _ _ h hs)
 |some φ=>obtain⟨h1,h2⟩:=h;exact wpIn_region_list (WW (keep φ h2) _ _ _ _ (Vn _ _ _ hd (Qm _ _) h1) hs)
 obtain⟨how,h⟩:=h;cases how with
 |lex m=>
  obtain⟨hB,h⟩:=h;have hm:m<=ops.size:=by simp only[Bg,aY,decide_eq_true_eq]at hB;exact hB.1.1
  exact HM cV hY hQ hB hs h hm
 |keep φ=>obtain⟨hB,h1,h2⟩:=h;refine HM cV hY (m:=ops.size) (keep φ h2) hB hs ?_ (ay _);have h3:=Vn (ds:=dstsOf ops.toList) _ _ _ hd (Qm _ _) h1;have e1:ops.toList.take ops.size=ops.toList:=cF (by simp);have e2:ops.toList.drop ops.size=[]:=Cn (by simp);rw[e1,e2];exact h3
 |plan c p T=>
  obtain⟨hB,h⟩:=h;cases T with
  |none=>exact HP cV hY hQ hB hs h
  |some T=>exact HP cV hY (K:=λS'=>bL S' T) (λS a w hw hs=>hQ T a w h.2 (hs.weaken hw)) hB hs h.1
 |sea c J=>obtain⟨h0,h1,h2⟩:=h;exact wpIn_region_any E.C.mixed (HO cV hY (c:=c) hQ _ _ _ _ _ (let⟨G,hs⟩:=hs;⟨G,hs.drew⟩) (adS h1 h2 ops.size _ _ (bH (dO _ _) (by simp)) h0))
end
section
variable {E:Env}{G:aV}{S:ah}{a:Act}{w:World}
def pX (tmps:Array Value):ResultVar->Sem Value|.tmp t=>pure (tmps.getD t undef)|.cell a t=>do loadVar t (<-asAddr (tmps.getD a undef))
def Vq:List Value->Value|[v]=>v|vs=>.tuple vs.toArray
theorem kC (fn:Func)(tmps:Array Value)(P:Program)(w:World){vs:List Value}(h:(fn.results.toList.mapM (pX tmps)).run P w=.ok vs w):(results fn tmps).run P w=.ok (Vq vs) w:=by
 have h2:(fn.results.mapM (pX tmps)).run P w=.ok vs.toArray w:=by rw[Array.mapM_eq_mapM_toList];simp only[Sem.run_map,h,Result.andThen_ok]
 have h3:results fn tmps=(do let vs<-fn.results.mapM (pX tmps);pure (if h:vs.size=1 then vs[0]else .tuple vs)):=by unfold results;congr 1
 rw[h3];simp only[Sem.run_bind,h2,Result.andThen_ok,Sem.run_pure];congr 1;match vs with
  |[]=>rfl
  |[v]=>rfl
  |v::u::r=>rfl
theorem ze (hs:bp E G S a w){ad:Nat}{t:TypeId}{K:FV->Prop}(h:nh E.C S.aJ t (S.get ad) K):∃v x,(pX a.tmps (.cell ad t)).run E.C.P w=.ok v w/\K x/\aQ G w v x:=by obtain⟨p,v,x,h1,h2,h3,h4⟩:=KS hs (aQ.get hs ad) h;exact⟨v,x,by simp only[pX,Sem.run_bind,h1,asAddr,Sem.run_pure,Result.andThen_ok,h2],h3,h4⟩
theorem xZ (hs:bp E G S a w):∀(rs:List ResultVar)(K:List AV->Prop),mG E.C S rs K->∃vs xs,(rs.mapM (pX a.tmps)).run E.C.P w=.ok vs w/\K xs/\vs.length=rs.length/\vs.length=xs.length/\∀(i:Nat)(c:Value)(x:AV),vs[i]?=some c->xs[i]?=some x->cZ G.aZ w c x:=by
 intro rs;induction rs with
 |nil=>intro K h;exact⟨[],[],by simp,h,rfl,rfl,by simp⟩
 |cons r rs ih=>
  have fin:∀(K:List AV->Prop){v:Value}{y:AV},(pX a.tmps r).run E.C.P w=.ok v w->cZ G.aZ w v y->mG E.C S rs (λxs=>K (y::xs))->∃vs xs,((r::rs).mapM (pX a.tmps)).run E.C.P w=.ok vs w/\K xs/\vs.length=(r::rs).length/\vs.length=xs.length/\∀(i:Nat)(c:Value)(x:AV),vs[i]?=some c->xs[i]?=some x->cZ G.aZ w c x:=λK {v y} h1 h2 h3=>by obtain⟨vs,xs,g1,g2,g3,g4,g5⟩:=ih _ h3;refine⟨v::vs,y::xs,by simp_all,g2,by grind,by grind,λi c x hc hx=>?_⟩;grind
  intro K h;cases r with
  |tmp t=>simp only[mG]at h;split at h;rename_i y hy;exact fin K (v:=a.tmps.getD t undef) rfl ((aQ.get hs t).fe hy) h;simp_all
  |cell ad t=>simp only[mG]at h;obtain⟨v,x,h1,h2,h3⟩:=ze hs h;split at h2;rename_i y hy;exact fin K h1 (h3.fe hy) h2;simp_all
theorem sL (hs:bp E G S a w){v:Value}{x:AV}(h:cZ G.aZ w v x):cZ (mz E.Bh E.w0.heap.size) w v x:=h.keep (λb o hi=>hs.oh b o hi) (λ_ _ _ _ h=>h) (.refl _ _)
theorem pY (hs:bp E G S a w):∀(rs:List ResultVar)(K:List FV->Prop),rY E.C S rs K->∃vs xs,(rs.mapM (pX a.tmps)).run E.C.P w=.ok vs w/\K xs/\vs.length=rs.length/\vs.length=xs.length/\∀(i:Nat)(c:Value)(x:FV),vs[i]?=some c->xs[i]?=some x->aQ G w c x:=by
 intro rs;induction rs with
 |nil=>intro K h;exact⟨[],[],by simp,h,rfl,rfl,by simp⟩
 |cons r rs ih=>
  have fin:∀(K:List FV->Prop){v:Value}{y:FV},(pX a.tmps r).run E.C.P w=.ok v w->aQ G w v y->rY E.C S rs (λxs=>K (y::xs))->∃vs xs,((r::rs).mapM (pX a.tmps)).run E.C.P w=.ok vs w/\K xs/\vs.length=(r::rs).length/\vs.length=xs.length/\∀(i:Nat)(c:Value)(x:FV),vs[i]?=some c->xs[i]?=some x->aQ G w c x:=λK {v y} h1 h2 h3=>by obtain⟨vs,xs,g1,g2,g3,g4,g5⟩:=ih _ h3;refine⟨v::vs,y::xs,by simp_all,g2,by grind,by grind,λi c x hc hx=>?_⟩;grind
  intro K h;cases r with
  |tmp t=>exact fin K (v:=a.tmps.getD t undef) rfl (aQ.get hs t) h
  |cell ad t=>simp only[rY]at h;obtain⟨v,x,h1,h2,h3⟩:=ze hs h;exact fin K h1 h3 h2
theorem CR {vs:List Value}{xs:List FV}(hl:vs.length=xs.length)(h:∀(i:Nat)(c:Value)(x:FV),vs[i]?=some c->xs[i]?=some x->aQ G w c x):aQ G w (Vq vs) (MS xs):=by
 match vs,xs,hl with
  |[v],[x],_=>exact h 0 v x rfl rfl
  |[],[],_=>exact .eY [] [] rfl (by simp)
  |v::u::vs,x::y::xs,hl=>exact .eY (v::u::vs) (x::y::xs) hl h
  |[],_::_,hl=>simp_all
  |[_],[],hl=>simp_all
  |[_],_::_::_,hl=>simp_all
  |_::_::_,[],hl=>simp_all
  |_::_::_,[_],hl=>simp_all
theorem aQ.bare {G:aV}{w:World}{v:Value}{x:FV}(h:aQ G w v x){aZ:Nat->Nat->Prop}(hi:∀b o,G.aZ b o->aZ b o):x.safe []=true->aQ (bare aZ) w v x:=by
 have key:∀{xs:List FV},FV.uc [] xs=true->∀x,x∈xs->x.safe []=true:=by
  intro xs;induction xs with
  |nil=>simp_all
  |cons y ys ih=>intro h x hx;simp only[FV.uc]at h;grind
 induction h with
 |p v x h=>intro _;exact .p v x (h.keep hi (λ_ _ _ _ h=>h) (.refl _ _))
 |agg cs xs hn _ ih=>intro hs;simp only[FV.safe]at hs;exact .agg cs xs hn λi c x h1 h2=>ih i c x h1 h2 (key hs x (bA h2))
 |eY cs xs hn _ ih=>intro hs;simp only[FV.safe]at hs;exact .eY cs xs hn λi c x h1 h2=>ih i c x h1 h2 (key hs x (bA h2))
 |ptr o off b h=>intro hs;simp[FV.safe,iA]at hs
 |eU t T bN xs a c h1 h2=>intro hs;simp[FV.safe,iA]at hs
 |full xs a h=>intro _;exact .full xs a (h.keep hi (λ_ _ _ _ h=>h) (.refl _ _))
 |fn f fs cs first captured hn hn' _ _ ih GU=>intro hs;simp only[FV.safe]at hs;split at hs;rename_i h1;exact .fn f fs cs first captured hn hn' (λi c x h2 h3=>ih i c x h2 h3 (key h1 x (bA h3))) (λi c x h2 h3=>GU i c x h2 h3 (key hs x (bA h3)));simp_all
 |mZ l k h=>intro hs;simp[FV.safe,iA]at hs
 |fc o T bN n c b h1 h2 h3 h4=>intro hs;simp[FV.safe,iA]at hs
 |tX o x T bN n c b off h1 h2 h0 h3 h4=>intro hs;simp[FV.safe,iA]at hs
 |ic o base off b h=>intro hs;simp[FV.safe,iA]at hs
 |fK o b h=>intro hs;simp[FV.safe,iA]at hs
 |AL o b h=>intro hs;simp[FV.safe,iA]at hs
 |dr v=>intro _;exact .dr v
theorem Xi {xs:List FV}(h:FV.uc [] xs=true):(MS xs).safe []=true:=by
 match xs,h with
  |[],_=>rfl
  |[x],h=>simp only[FV.uc]at h;split at h;assumption;simp_all
  |_::_::_,h=>exact h
theorem Vr (hs:bp E G S a w){v:Value}{o bN:Nat}{T:TypeId}(hr:aQ G w v (.fc o T bN)){R:dh->Prop}{rest:Option (List AV)}{us:List Value}(h:Zt S o bN λxss=>R (.own rest T bN xss))(hu:∀r,rest=some r->us.length=r.length/\∀(i:Nat)(u:Value)(x:AV),us[i]?=some u->r[i]?=some x->cZ G.aZ w u x):∃xss,R (.own rest T bN xss)/\ng E.Bh E.w0.heap.size w (agt rest v us) (.own rest T bN xss):=by obtain⟨n,c,b,rfl,h1,h2,h3,h4⟩:=hr.Gz;obtain⟨xss,g1,g2,g3⟩:=h;split at g2;rename_i cells hc;obtain⟨hon,hc⟩:=iU hc;obtain⟨t1,t2,⟨cs,fr,tt,-⟩,t3⟩:=hs.fI _ _ _ _ _ h2;obtain⟨-,-,l3⟩:=hs.iu o b h1;have hlen:=(hs.ck o o b _ h1 h2).2.2 cells hc;obtain⟨b',k1,k2⟩:=hs.aJ o cells hc;rw[h1]at k1;obtain rfl:=an k1;obtain⟨k3,k4⟩:=FV.iT g2;have hfl:xss.flatten.length=xss.length*bN:=gF λzs hz=>(g1 zs hz).1;obtain rfl:n=xss.length:=gm h4 oO;have hI:∀{u:Value}{x:AV},cZ G.aZ w u x->cZ (Ze E.Bh E.w0.heap.size b) w u x:=λh=>h.keep (λb' o' hi=>(hs.oh b' o' hi).imp id λh=>⟨h,λe=>(l3 o').1 (e▸hi)⟩) (λ_ _ _ _ h=>h) (.refl _ _);refine⟨xss,g3,b,c,cs,fr,us,rfl,t2,t1,h4,h3,g1,tt,λi=>(l3 i).2,λi hi=>?_,λi x hx=>?_,λr hr=>⟨(hu r hr).1,λi u x q1 q2=>hI ((hu r hr).2 i u x q1 q2)⟩⟩;by_cases hin:i<cells.length;obtain⟨u,q1,-⟩:=k2 i _ (aq hin);simp_all;simp_all;obtain⟨y,q1,q2⟩:=k4 i x hx;obtain⟨u,q3,q4⟩:=k2 i y q1;exact⟨u,q3,hI (q4.fe q2)⟩;simp_all
theorem eY (hs:bp E G S a w){fn:Func}{R:dh->Prop}{rs:List ResultVar}(hrs:fn.results.toList=rs)(hn:rs.length≠1)(h:mG E.C S rs λxs=>R (.val (.eY xs))):∃v r,(results fn a.tmps).run E.C.P w=.ok v w/\R r/\ng E.Bh E.w0.heap.size w v r:=by
 obtain⟨vs,xs,g1,g2,g3,g4,g5⟩:=xZ hs _ _ h;refine⟨_,_,kC fn a.tmps E.C.P w (hrs▸g1),g2,?_⟩;have :Vq vs=Value.tuple vs.toArray:=by
  match vs,g3 with
   |[],_=>rfl
   |[v],g3=>simp_all
   |v::u::r,_=>rfl
 rw[this];exact sL hs (.eY vs xs g4 g5)
theorem HQ (hs:bp E G S a w){fn:Func}{R:dh->Prop}(h:yG E.C fn.results.toList R S):∃v r,(results fn a.tmps).run E.C.P w=.ok v w/\R r/\ng E.Bh E.w0.heap.size w v r:=by
 unfold yG at h;split at h;obtain⟨vs,xs,g1,g2,g3,g4,g5⟩:=pY hs _ _ h;split at g2;rename_i aiA;exact⟨_,_,kC fn a.tmps E.C.P w g1,g2,(CR g4 g5).bare (λb o hi=>hs.oh b o hi) (Xi aiA)⟩;simp_all;split at h;rename_i t hrs;have hrun:(results fn a.tmps).run E.C.P w=.ok (a.tmps.getD t undef) w:=by have :=kC fn a.tmps E.C.P w (vs:=[a.tmps.getD t undef]) (by rw[hrs];rfl);exact this
 have hr:=aQ.get hs t;generalize a.tmps.getD t undef=v at hrun hr;split at h;rename_i k T bN xs hg;rw[hg]at hr;rcases h with h|h;refine⟨v,_,hrun,h,?_⟩;cases hr with
 |eU _ _ _ _ ad c h1 h2=>refine⟨ad,c,rfl,?_⟩;rcases h2 with⟨rfl,rfl⟩|⟨b,off,rfl,h3,h4⟩;exact .inl ⟨rfl,rfl,sL hs h1⟩;obtain⟨t1,t2,⟨cs,fr,tt,-⟩,t3⟩:=hs.fI _ _ _ _ _ h4;refine .inr ⟨b,off,cs,fr,rfl,t2,t1,h3,tt,λi hi hi'=>⟨(t3 i hi hi').1,(t3 i hi hi').2.1⟩,?_⟩;refine h1.keep (λb' o hi=>?_) (λ_ _ _ _ h=>h) (.refl _ _);rcases hs.oh b' o hi with h5|h5;simp_all;grind
 exact⟨v,_,hrun,h,sL hs (hr.fe rfl)⟩;rename_i hg;rw[hg]at hr;rcases h with⟨T,bN,h⟩|h;refine⟨v,_,hrun,h,?_⟩;cases hr with
 |full _ ad h1=>exact⟨ad,0,rfl,.inl ⟨rfl,rfl,sL hs h1⟩⟩
 exact⟨v,_,hrun,h,sL hs (hr.fe rfl)⟩;rename_i o hg;rw[hg]at hr;obtain⟨ks,vs,hf,h⟩:=h;obtain⟨G',hs',up⟩:=hs.SZ hf;have hu:=up v _ hr;rw[show(FV.fK o).fm o (.mp ks vs)=.p (.mp ks vs)from by simp[FV.fm]]at hu;exact⟨v,_,hrun,h,sL hs' (hu.fe rfl)⟩;rename_i o T bN hg;rw[hg]at hr;obtain⟨xss,g1,g2⟩:=Vr hs hr h (rest:=none) (us:=[]) (λr h=>by grind);exact⟨v,_,hrun,g1,g2⟩;split at h;rename_i y hy;exact⟨v,_,hrun,h,sL hs (hr.fe hy)⟩;simp_all;rename_i ad t hrs;obtain⟨v,x,h1,h2,h3⟩:=ze hs h;split at h2;rename_i y hy;exact⟨v,_,kC fn a.tmps E.C.P w (vs:=[v]) (by simp_all),h2,sL hs (h3.fe hy)⟩;simp_all;rename_i t r1 rest hrs;split at h;rename_i o T bN hg;have hr:=aQ.get hs t;rw[hg]at hr;obtain⟨vs,xs,g1,g2,g3,g4,g5⟩:=xZ hs _ _ h;have h0:(pX a.tmps (.tmp t)).run E.C.P w=.ok (a.tmps.getD t undef) w:=rfl;have key:∀rr:List ResultVar,(rr.mapM (pX a.tmps)).run E.C.P w=.ok vs w->((ResultVar.tmp t::rr).mapM (pX a.tmps)).run E.C.P w=.ok (a.tmps.getD t undef::vs) w:=λrr g=>by simp_all
 have hrun:=kC fn a.tmps E.C.P w (vs:=a.tmps.getD t undef::vs) (by grind);have ht:Vq (a.tmps.getD t undef::vs)=agt (some xs) (a.tmps.getD t undef) vs:=by match vs,g3 with|u::r,_=>rfl
 rw[ht]at hrun;obtain⟨xss,k1,k2⟩:=Vr hs hr g2 (rest:=some xs) (us:=vs) λr h=>by grind
 grind;exact eY hs (rs:=.tmp t::r1::rest) hrs (by simp) h;rename_i WR hn2 OV;refine eY hs rfl ?_ h;generalize hrr:fn.results.toList=rr at WR hn2 OV;match rr with
  |[]=>simp
  |[.tmp t]=>simp_all
  |[.cell ad t]=>simp_all
  |_::_::_=>simp
end
section
variable {E:Env}{G:aV}{S:ah}{a:Act}{w:World}
theorem bp.enter (hs:bp E G S a w){n:Nat}{tmps:Nat->FV}{vals:Array Value}(hn:vals.size=n)(ht:∀i,i<n->aQ G w (vals.getD i undef) (tmps i)){mu:Option Nat}(hr:∀l,mu=some l->∃(i:Nat) (r:Loop),E.loops[i]?=some (l,r)):bp {E with mu:=mu,bF:=a.tmps::E.bF,fixed:=marksOf a.defers++E.fixed} G (S.enter n tmps) {tmps:=vals,defers:=[]} w:=by
 refine⟨hs.kept,hn,⟨hs.ext'.mps.env rfl rfl rfl,by simp[ah.enter,hs.ext'.kM],λi vs fr h1 h2=>?_,hs.ext'.jS,hs.ext'.loops,hs.ext'.kO,hs.ext'.yl,hr,?_,hs.ext'.AE⟩,⟨hs.iZ.at_,hs.iZ.row,hs.iZ.cM⟩,hs.oh,hs.fq,ht,hs.aJ,hs.iu,hs.fk,hs.ck,hs.fI,hs.en⟩;cases i with
 |zero=>simp[ah.enter]at h1 h2;subst h1;subst h2;exact⟨hs.size,hs.tmps⟩
 |succ i=>simp[ah.enter]at h1 h2;exact hs.ext'.bF i vs fr h1 h2
 obtain⟨ms,h1,h2,h3⟩:=hs.ext'.marks;refine⟨[],rfl,?_,?_⟩;simpa[h1,lQ]using h2;simpa[h1,lQ]using h3
theorem bp.leave {E:Env}{mu:Option Nat}{a':Act}{w':World}{f:Fr}{r:List Fr}{ms:List Nat}(hs:bp {E with mu:=mu,bF:=a.tmps::E.bF,fixed:=marksOf a.defers++E.fixed} G S a' w')(hf:S.bF=f::r)(hd:a.defers=ms.map mark)(hr:∀l,E.mu=some l->∃(i:Nat) (r:Loop),E.loops[i]?=some (l,r)):bp E G {n:=f.n,off:=f.off,tmps:=f.tmps,aJ:=S.aJ,bF:=r,bV:=S.bV,cw:=S.cw,maps:=S.maps,iF:=S.iF} a w':=by obtain⟨h1,h2⟩:=hs.ext'.bF 0 a.tmps f rfl (by simp_all);refine⟨hs.kept,h1,⟨hs.ext'.mps.env rfl rfl rfl,?_,λi vs fr h3 h4=>?_,hs.ext'.jS,hs.ext'.loops,hs.ext'.kO,hs.ext'.yl,hr,⟨ms,hd,?_,?_⟩,hs.ext'.AE⟩,⟨hs.iZ.at_,hs.iZ.row,hs.iZ.cM⟩,hs.oh,hs.fq,h2,hs.aJ,hs.iu,hs.fk,hs.ck,hs.fI,hs.en⟩;have :=hs.ext'.kM;simp_all;exact hs.ext'.bF (i+1) vs fr (by simp_all) (by simp_all);obtain⟨ms',-,h4,-⟩:=hs.ext'.marks;have h5:(marksOf a.defers++E.fixed).Nodup:=(gW.1 h4).2.1;rwa[hd,lQ]at h5;obtain⟨ms',-,-,h4⟩:=hs.ext'.marks;intro q hq;refine h4 q (pZ _ ?_);show q∈marksOf a.defers++E.fixed;rw[hd,lQ];omega
theorem Et {K:ah->Prop}(h:S.leave K):∃f r,S.bF=f::r/\K {n:=f.n,off:=f.off,tmps:=f.tmps,aJ:=S.aJ,bF:=r,bV:=S.bV,cw:=S.cw,maps:=S.maps,iF:=S.iF}:=by unfold ah.leave at h;grind
theorem Ae {P:Program}{fn:Func}{tmps:Array Value}{R:Ending->World->Prop}:∀(ms:List Nat){E:Env}{G:aV}{S:ah}{a:Act}{w:World},E.C.P=P->bp E G S a w->a.tmps=tmps->a.defers=ms.map mark->(∀G a' w',bp E G S a' w'->a'.tmps=tmps->a'.defers=[]->∃v,(results fn tmps).run P w'=.ok v w'/\R (.returned v) w')->LeavesInM Fence.wide 0 P fn tmps R (ms.map mark) .returning w:=by
 intro ms;induction ms with
 |nil=>intro E G S a w hP hs ht hd h;exact h G a w hs ht hd
 |cons m ms ih=>
  intro E G S a w hP hs ht hd h;obtain⟨ms',h1,h2,h3⟩:=hs.ext'.marks;have AF:ms'=m::ms:=by have e1:=aS marksOf h1;rw[hd,lQ,lQ]at e1;exact e1.symm
  subst AF;obtain⟨h4,h5⟩:=h3 m (by simp);refine⟨by simp,.inl ⟨m,w.putObj m (.deferred none),rfl,run_takeDeferred h5,?_⟩⟩;have El:=h2;rw[dZ,jh]at El;have hs':bp {E with mu:=E.mu,bF:=E.bF,loops:=E.loops,fixed:=E.fixed} G {S with bV:=S.bV} {a with defers:=ms.map mark} (w.putObj m (.deferred none)):=hs.putObj (o':=.deferred none) (maps:=S.maps) (iF:=S.iF) h5 rfl rfl h4 (λ⟨es,k,h⟩=>by grind) (λkeep tB hsame=>by refine⟨hs.ext'.mps.yV h5 ⟨λ_ _ h=>(by grind),λ_ _ _ _ h=>(by grind)⟩ keep tB rfl rfl rfl,hs.ext'.kM,λi vs fr q1 q2=>?_,hs.ext'.jS,λi k r st q1 q2=>?_,hs.ext'.kO,hs.ext'.yl,hs.ext'.mu,⟨ms,rfl,El.2,λr hr=>?_⟩,hs.ext'.AE.of keep⟩;obtain⟨q3,q4⟩:=hs.ext'.bF i vs fr q1 q2;simp_all;obtain⟨q3,q4⟩:=hs.ext'.loops i k r st q1 q2;grind;grind);grind
end
section
variable {E:Env}{G:aV}{S:ah}{a:Act}{w:World}
theorem Vs:∀(l:List yg)(n:Nat),Ho l n=l[n]?
 |[],n=>by rfl
 |p::l,0=>rfl
 |p::l,n+1=>by simp[Ho,Vs l n]
theorem Vt:∀(l:List Fr)(n:Nat),adx l n=l[n]?
 |[],n=>by rfl
 |p::l,0=>rfl
 |p::l,n+1=>by simp[adx,Vt l n]
theorem Nq:∀(l:List yg)(n:Nat)(q:yg),WG l n q=l.set n q
 |[],n,q=>by rfl
 |p::l,0,q=>rfl
 |p::l,n+1,q=>by simp[WG,Nq l n q]
theorem Qn (r:Loop)(h1:r.state=.ready)(h2:r.pending=none):yg.ready.of r=r:=by cases r;simp only at h1 h2;subst h1;subst h2;rfl
theorem Lb:∀(ps:List Nat)(vals:List Value)(args:List FV)(t:Array Value)(f:Nat->FV)(n:Nat),vals.length=args.length->vals.length=ps.length->t.size=n->(∀i,i<n->aQ G w (t.getD i undef) (f i))->(∀(i:Nat)(v:Value)(x:FV),vals[i]?=some v->args[i]?=some x->aQ G w v x)->((ps.zip vals).foldl (λt (p,v)=>t.setIfInBounds p v) t).size=n/\∀i,i<n->aQ G w (((ps.zip vals).foldl (λt (p,v)=>t.setIfInBounds p v) t).getD i undef) (Po f ps args i)
 |[],vals,args,t,f,n,h1,h2,h3,h4,h5=>by
  cases args with
  |nil=>exact⟨by simp_all,by simpa[Po]using h4⟩
  |cons x args=>simp_all
 |p::ps,[],args,t,f,n,h1,h2,h3,h4,h5=>by grind
 |p::ps,v::vals,[],t,f,n,h1,h2,h3,h4,h5=>by simp_all
 |p::ps,v::vals,x::args,t,f,n,h1,h2,h3,h4,h5=>by
  simp only[List.zip_cons_cons,eD,Po];refine Lb ps vals args (t.setIfInBounds p v) _ n (by simp_all) (by simp_all) (by simp_all) (λi hi=>?_) (λi u y hu hy=>h5 (i+1) u y (by simp_all) (by simp_all));have hi':i<t.size:=oO
  by_cases hd:i=p;subst hd;have :Nat.beq i i=true:=by simp
  rw[this];have hv:=h5 0 v x rfl rfl;simp_all;have :Nat.beq i p=false:=by cases hb:Nat.beq i p;rfl;simp_all
  rw[this];have :=h4 i hi;simpa[Array.getD,hi',Cg,dM hd]using this
theorem bp.Eu (hs:bp E G S a w){i k:Nat}{r:Loop}{st:yg}(h1:E.loops[i]?=some (k,r))(h2:Ho S.bV i=some st):E.w0.heap.size<=k/\w.heap[k]?=some (.loop (st.of r)):=hs.ext'.loops i k r st h1 (by rw[<-Vs];omega)
theorem bp.aiB (hs:bp E G S a w){i k:Nat}{r:Loop}{st st':yg}(h1:E.loops[i]?=some (k,r))(h2:Ho S.bV i=some st):bp E G {S with bV:=WG S.bV i st'} a (w.putObj k (.loop (st'.of r))):=by obtain⟨h3,h4⟩:=hs.Eu h1 h2;refine hs.putObj (o:=.loop (st.of r)) (o':=.loop (st'.of r)) h4 rfl rfl h3 (λ⟨es,k,h⟩=>by grind) (maps:=S.maps) (iF:=S.iF) (mu:=E.mu) (bF:=E.bF) (loops:=E.loops) (fixed:=E.fixed) (defers:=a.defers) (λkeep tB hsame=>?_);refine⟨hs.ext'.mps.yV h4 ⟨λ_ _ h=>(by grind),λ_ _ _ _ h=>(by grind)⟩ keep tB rfl rfl rfl,hs.ext'.kM,λj vs fr q1 q2=>?_,by simp only[Nq,List.length_set];exact hs.ext'.jS,λj k' r' st2 q1 q2=>?_,hs.ext'.kO,hs.ext'.yl,hs.ext'.mu,?_,hs.ext'.AE.of keep⟩;obtain⟨q3,q4⟩:=hs.ext'.bF j vs fr q1 q2;simp_all;simp only[Nq]at q2;by_cases hj:j=i;grind;rw[Cv (dM hj)]at q2;obtain⟨q3,q4⟩:=hs.ext'.loops j k' r' st2 q1 q2;refine⟨q3,tB _ _ (λe=>?_) q4⟩;subst e;exact hj (hs.ext'.kO j i k' r' r q1 h1);obtain⟨ms,q1,q2,q3⟩:=hs.ext'.marks;grind
theorem bp.aad (hs:bp E G S a w){l:Nat}{rec:Loop}{ms:List Nat}(hl:w.heap[l]?=some (.loop (yg.ready.of rec)))(hw0:E.w0.heap.size<=l)(hnew:∀(i k:Nat)(r:Loop),E.loops[i]?=some (k,r)->k≠l)(AF:∀m,m∈ms->E.w0.heap.size<=m/\w.heap[m]?=some (.deferred (some [])))(El:(ms++(marksOf a.defers++E.fixed)).Nodup):∃G',bp {E with loops:=E.loops++[(l,rec)]} G' {S.kill (1000000+S.bV.length)with bV:=S.bV++[.ready]} {a with defers:=ms.map mark++a.defers} w/\G'.yl (1000000+S.bV.length)=some l/\∀v x,aQ G w v x->aQ G' w v (x.kill (1000000+S.bV.length)):=by
 generalize hlv:S.bV.length=lvl;have anQ:lvl=E.loops.length:=hlv▸hs.ext'.jS;let G':aV:={G.free (1000000+lvl)with yl:=λn=>if n=1000000+lvl then some l else G.yl n};have up:∀v x,aQ G w v x->aQ G' w v (x.kill (1000000+lvl)):=λv x h=>h.kill _ rfl (λo b h h'=>by simp only[G',aV.free];simp_all) (λt r h h'=>by simp only[G',aV.free];simp_all) (λn k h h'=>by grind) (hmp:=aV.oI.1) (hit:=aV.oI.2.2.1);have JK:lJ (FV.kill (1000000+lvl)) G G' S (S.kill (1000000+lvl)) w:=.kill _ rfl aV.oI.1 aV.oI.2.1 aV.oI.2.2.1 aV.oI.2.2.2 (λo b h=>by simp only[G',aV.free]at h;simp_all);have h1:=hs.kill (1000000+lvl);have up2:∀v x,aQ (G.free (1000000+lvl)) w v x->(∀k,x≠.mZ k)->True:=λ_ _ _ _=>trivial;refine⟨G',⟨h1.kept,h1.size,⟨(hs.ext'.mps.move _ up (.refl _) JK).env rfl rfl rfl,?_,λi vs fr q1 q2=>?_,?_,λi k r st q1 q2=>?_,λi j k r r' q1 q2=>?_,λi k r q1 k' q2=>?_,λq hq=>?_,?_,hs.ext'.AE⟩,⟨h1.iZ.at_,h1.iZ.row,h1.iZ.cM⟩,h1.oh,h1.fq,λi hi=>up _ _ (hs.tmps i hi),λo cells ho=>?_,h1.iu,h1.fk,h1.ck,h1.fI,h1.en⟩,by grind,up⟩;exact h1.ext'.kM;have q2':(yB (FV.kill (1000000+lvl)) S.bF)[i]?=some fr:=q2;rw[GX,aM]at q2';cases hx:S.bF[i]?with
 |none=>simp_all
 |some fr0=>simp[hx]at q2';subst q2';obtain⟨q3,q4⟩:=hs.ext'.bF i vs fr0 q1 hx;exact⟨q3,λj hj=>up _ _ (q4 j hj)⟩
 simp_all;by_cases hi:i<E.loops.length;rw[cm hi]at q1;rw[cm oO]at q2;exact hs.ext'.loops i k r st q1 q2;grind;have CT:∀(i k:Nat)(r:Loop),(E.loops++[(l,rec)])[i]?=some (k,r)->(i<E.loops.length/\E.loops[i]?=some (k,r))\/(i=E.loops.length/\k=l):=λi k r q=>by grind
 rcases CT i k r q1 with⟨-,e1⟩|⟨e1,e2⟩<;>rcases CT j k r' q2 with⟨-,e3⟩|⟨e3,e4⟩;exact hs.ext'.kO i j k r r' e1 e3;grind;grind;omega;simp only[G']at q2;by_cases hi:i<E.loops.length;rw[cm hi]at q1;rw[aa oO]at q2;exact hs.ext'.yl i k r q1 k' q2;grind;obtain⟨i,r,q1⟩:=hs.ext'.mu q hq;exact⟨i,r,by grind⟩;obtain⟨ms',q1,q2,q3⟩:=hs.ext'.marks;rw[q1,lQ]at El;grind;obtain⟨hne,cs,q2,rfl⟩:=kB ho;obtain⟨b,q3,q4⟩:=hs.aJ o cs q2;refine⟨b,by simp only[G',aV.free];simp_all,λi x hx=>?_⟩;rw[FV.fA,aM]at hx;grind
theorem bp.adT {l:Nat}{rec:Loop}{st:yg}(hs:bp {E with loops:=E.loops++[(l,rec)]} G S a w)(hst:Ho S.bV E.loops.length=some st)(hr:∀q,E.mu=some q->∃(i:Nat) (r:Loop),E.loops[i]?=some (q,r)){o':Loop}:bp E G {S with bV:=S.bV.take E.loops.length} a (w.putObj l (.loop o')):=by
 have h0:(E.loops++[(l,rec)])[E.loops.length]?=some (l,rec):=by rw[dN (ay _)];simp
 obtain⟨h3,h4⟩:=hs.Eu h0 hst;refine hs.putObj (o:=.loop (st.of rec)) (o':=.loop o') h4 rfl rfl h3 (λ⟨es,k,h⟩=>by grind) (maps:=S.maps) (iF:=S.iF) (mu:=E.mu) (bF:=E.bF) (loops:=E.loops) (fixed:=E.fixed) (defers:=a.defers) (λkeep tB hsame=>?_);have hlen:S.bV.length=E.loops.length+1:=by have :=hs.ext'.jS;simpa using this
 have hin:∀(i k:Nat)(r:Loop),E.loops[i]?=some (k,r)->(E.loops++[(l,rec)])[i]?=some (k,r):=λi k r q=>by grind
 refine⟨hs.ext'.mps.yV h4 ⟨λ_ _ h=>(by grind),λ_ _ _ _ h=>(by grind)⟩ keep tB rfl rfl rfl,hs.ext'.kM,λj vs fr q1 q2=>?_,by simp_all,λj k' r' st2 q1 q2=>?_,λi j k r r' q1 q2=>hs.ext'.kO i j k r r' (hin _ _ _ q1) (hin _ _ _ q2),λi k r q1=>hs.ext'.yl i k r (hin _ _ _ q1),hr,?_,hs.ext'.AE.of keep⟩;obtain⟨q3,q4⟩:=hs.ext'.bF j vs fr q1 q2;simp_all;have hj:=(aC.1 q1).1;rw[Cy hj]at q2;obtain⟨q3,q4⟩:=hs.ext'.loops j k' r' st2 (hin _ _ _ q1) q2;refine⟨q3,tB _ _ (λe=>?_) q4⟩;subst e;exact absurd (hs.ext'.kO j E.loops.length k' r' rec (hin _ _ _ q1) h0) (Nat.ne_of_lt hj);obtain⟨ms,q1,q2,q3⟩:=hs.ext'.marks;grind
def HR (c:Code):Prop:=∀{E:Env}{call:ig}{Y:oN},lZ E.C call->eN E Y->∀{Q:Exit->ah->Prop}{S:ah}{a:Act}{w:World},ud E.C call Y c Q S->pJ E S a w->c.wpIn E.kG 0 E.C.P (λe a' w'=>∃S',Q e S'/\pJ E S' a' w') a w
theorem Qo {E:Env}{call:ig}{Y:oN}(cV:lZ E.C call)(hY:eN E Y){assign body:Code}(ha:HR assign)(hb:HR body){a1:Act}{l:Nat}{rec:Loop}{aae:List Nat}(hrt:rec.tmps=a1.tmps)(hra:rec.assign=assign)(hrb:rec.body=body)(hr1:rec.state=.ready)(hr2:rec.pending=none):eN {E with mu:=none,bF:=a1.tmps::E.bF,loops:=E.loops++[(l,rec)],fixed:=aae} (sv Y (ud E.C call Y assign) (ud E.C call Y body) rec.params.toList E.loops.length E.bF.length):=by
 intro mu xs ls fixed G S a w ln k args K vals hs hk h hlen om;have e1:xs++a1.tmps::E.bF=(xs++[a1.tmps])++E.bF:=by simp
 have e2:(E.loops++[(l,rec)])++ls=E.loops++([(l,rec)]++ls):=by simp
 unfold sv at h;split at h;have hY':=hY mu (xs++[a1.tmps]) ([(l,rec)]++ls) fixed G S a w ln k args K vals;grind;rename_i hln;obtain rfl:=aK hln;split at h;rename_i fr hp hfr;obtain⟨hargs,h⟩:=h;have hargs:=aK hargs;have hidx:((E.loops++[(l,rec)])++ls)[E.loops.length]?=some (l,rec):=by rw[cm (by simp),dN (ay _)];simp
 obtain rfl:=hs.ext'.yl E.loops.length l rec hidx k hk;obtain⟨tW,hk2⟩:=hs.Eu hidx hp;rw[Qn rec hr1 hr2]at hk2;have akX:S.bF[xs.length]?=some fr:=by
  unfold Zr at hfr;rw[Vt,hs.ext'.kM]at hfr;have :(xs++a1.tmps::E.bF).length-E.bF.length-1=xs.length:=by simp;omega
  rw[this]at hfr;exact hfr
 obtain⟨hsz,htm⟩:=hs.ext'.bF xs.length a1.tmps fr (by simp) akX;have hy:=run_yield (P:=E.C.P) (args:=vals.toArray) hk2 (by simp_all);refine⟨_,_,_,_,hy,?_⟩;have YX:vals.length=rec.params.toList.length:=by rw[hlen,hargs]
 have hts:=Lb (G:=G) (w:=w) rec.params.toList vals args a1.tmps fr.tmps fr.n hlen YX hsz htm om;have aiC:(rec.params.zip vals.toArray).foldl (λtmps x=>match x with|(t,a)=>tmps.setIfInBounds t a) rec.tmps=(rec.params.toList.zip vals).foldl (λt (p,v)=>t.setIfInBounds p v) a1.tmps:=by rw[<-Array.foldl_toList,hrt];simp
 rw[aiC,hra,hrb];have hrnd:∀q,(some k:Option Nat)=some q->∃(i:Nat) (r:Loop),((E.loops++[(k,rec)])++ls)[i]?=some (q,r):=λq hq=>by grind
 have hs1:=hs.enter (n:=fr.n) (vals:=(rec.params.toList.zip vals).foldl (λt (p,v)=>t.setIfInBounds p v) a1.tmps) hts.1 hts.2 (mu:=some k) hrnd;have hYr:eN {E with mu:=some k,bF:=a.tmps::(xs++a1.tmps::E.bF),loops:=(E.loops++[(k,rec)])++ls,fixed:=marksOf a.defers++fixed} Y:=by
  have :=hY.later (some k) (a.tmps::(xs++[a1.tmps])) ([(k,rec)]++ls) (marksOf a.defers++fixed);rw[<-e2]at this;have e3:(a.tmps::(xs++[a1.tmps]))++E.bF=a.tmps::(xs++a1.tmps::E.bF):=by simp
  rw[e3]at this;exact this
 have hA:=ha (E:={E with mu:=some k,bF:=a.tmps::(xs++a1.tmps::E.bF),loops:=(E.loops++[(k,rec)])++ls,fixed:=marksOf a.defers++fixed}) cV hYr h ⟨_,hs1⟩;refine roundIn_of_wpIn (F:=Fence.wide) trivial (wpIn_mono hA ?_);rintro e a2 w2 ⟨S2,hq,G2,hs2⟩;cases e with
 |normal=>
  simp only[ua,Va]at hq;split at hq;rename_i hp2;obtain⟨-,hk3⟩:=hs2.Eu hidx hp2;refine⟨_,run_beginRound hk3 rfl,?_⟩;have hs3:=hs2.aiB (st':=.busy) hidx hp2;have hB:=hb (E:={E with mu:=some k,bF:=a.tmps::(xs++a1.tmps::E.bF),loops:=(E.loops++[(k,rec)])++ls,fixed:=marksOf a.defers++fixed}) cV hYr hq ⟨_,hs3⟩;refine wpIn_mono hB ?_;obtain⟨ms,AF,-,-⟩:=hs.ext'.marks;have fin:∀{st:yg}{b:Bool}{jump:Option Code}{S4:ah}{a4:Act}{w4:World},yF E.loops.length st (K (.p (.bool b))) S4->pJ {E with mu:=some k,bF:=a.tmps::(xs++a1.tmps::E.bF),loops:=(E.loops++[(k,rec)])++ls,fixed:=marksOf a.defers++fixed} S4 a4 w4->jump.isNone=b->(Loop.mk (if jump.isNone then LoopState.ready else .done) jump rec.fn rec.tmps rec.params rec.assign rec.body rec.defers)=st.of rec->∃v w',(Instr.endRound k jump).run E.C.P w4=.ok v w'/\∃v_1 x G' S',Ending.returned v=.returned v_1/\K x S'/\bp {E with mu:=mu,bF:=xs++a1.tmps::E.bF,loops:=(E.loops++[(k,rec)])++ls,fixed:=fixed} G' S' a w'/\aQ G' w' v_1 x:=λ{st b jump S4 a4 w4} hq4 ⟨G4,hs4⟩ hj akY=>by unfold yF at hq4;split at hq4;rename_i hp4;obtain⟨-,hk4⟩:=hs4.Eu hidx hp4;obtain⟨f,r,hf,hK⟩:=Et hq4;have hs5:=hs4.aiB (st':=st) hidx hp4;have hs6:=bp.leave (E:={E with mu:=mu,bF:=xs++a1.tmps::E.bF,loops:=(E.loops++[(k,rec)])++ls,fixed:=fixed}) (a:=a) (mu:=some k) (ms:=ms) hs5 hf AF hs.ext'.mu;have hend:=run_endRound (P:=E.C.P) jump hk4;refine⟨_,_,hend,.bool jump.isNone,_,G4,_,rfl,hK,?_,.p _ _ (hj▸.bool _)⟩;have :({yg.of rec .busy with state:=if jump.isNone then LoopState.ready else .done,pending:=jump}:Loop)=st.of rec:=akY;simp_all;simp_all
  rintro e a4 w4 ⟨S4,hq4,hs4⟩;cases e with
  |normal=>exact fin (jump:=none) hq4 hs4 rfl rfl
  |ret=>exact fin (jump:=some .ret) hq4 hs4 rfl rfl
  |exit id=>exact fin (jump:=some (.exit id)) hq4 hs4 rfl rfl
  |_=>exact hq4.elim
  simp_all
 |_=>exact hq.elim
 grind
end
section
variable {E:Env}{G:aV}{S:ah}{a:Act}{w:World}
theorem Kj (hs:bp E G S a w)(fn:FuncId)(ps:Array Tmp)(assign body:Code):∃(l:Nat) (ms:List Nat) (w1:World) (rec:Loop),(Instr.enterLoop fn a.tmps ps assign body E.mu).run E.C.P w=.ok (l,ms.map mark) w1/\Below w.heap.size w w1/\rec.tmps=a.tmps/\rec.params=ps/\rec.assign=assign/\rec.body=body/\rec.state=.ready/\rec.pending=none/\w1.heap[l]?=some (.loop rec)/\w.heap.size<=l/\(∀m,m∈ms->w.heap.size<=m/\w1.heap[m]?=some (.deferred (some [])))/\ms.Nodup:=by
 cases hr:E.mu with
 |none=>refine⟨_,[w.heap.size],_,{state:=.ready,pending:=none,fn,tmps:=a.tmps,params:=ps,assign,body,defers:=w.heap.size},run_enterLoop_outer fn a.tmps ps assign body,?_,rfl,rfl,rfl,rfl,rfl,rfl,?_,oO,λm hm=>?_,by simp⟩;exact((Below.refl _ w).alloc (ay _) _).alloc (by simp) _;have :=World.alloc_heap_new (w.alloc (.deferred (some []))) (.loop {state:=.ready,pending:=none,fn,tmps:=a.tmps,params:=ps,assign,body,defers:=w.heap.size});simp_all;obtain rfl:=aO.1 hm;exact⟨ay _,(Below.heap_alloc _ _ _ (by simp)).trans (World.alloc_heap_new w _)⟩
 |some l0=>
  obtain⟨i,r,h1⟩:=hs.ext'.mu l0 hr;have hlt:i<S.bV.length:=by rw[hs.ext'.jS];exact(aC.1 h1).1
  obtain⟨h2,h3⟩:=hs.ext'.loops i l0 r _ h1 (aq hlt);refine⟨_,[],_,{state:=.ready,pending:=none,fn,tmps:=a.tmps,params:=ps,assign,body,defers:=((S.bV[i]).of r).defers},run_enterLoop_inner h3 fn a.tmps ps assign body,?_,rfl,rfl,rfl,rfl,rfl,rfl,World.alloc_heap_new w _,ay _,by simp,by simp⟩;exact(Below.refl _ w).alloc (ay _) _
theorem Fz {call:ig}{Y:oN}(cV:lZ E.C call)(hY:eN E Y){assign body:Code}(ha:HR assign)(hb:HR body){g:Operand}{ps:Array Tmp}{Q:Exit->ah->Prop}(hs:bp E G S a w){f:FuncId}{cs:List Value}{captured:List FV}(hg:a.eval g=.func (.func f) #[] cs.toArray)(hcs:cs.length=captured.length)(om:∀(i:Nat)(c:Value)(x:FV),cs[i]?=some c->captured[i]?=some x->aQ G w c x)(h:call (sv Y (ud E.C call Y assign) (ud E.C call Y body) ps.toList S.bV.length S.bF.length) f (.mZ (1000000+S.bV.length)::FV.eL (1000000+S.bV.length) captured) (λ_ S'=>Cb S.bV.length Q S') {S.kill (1000000+S.bV.length)with bV:=S.bV++[.ready]}):(Code.rangeFunc g ps assign body).wpIn E.kG 0 E.C.P (λe a' w'=>∃S',Q e S'/\pJ E S' a' w') a w:=by
 refine wpIn_rangeFunc λfn hfn=>?_;obtain⟨l,ms,w1,rec,hrun,Gk,hr1,hr2,hr3,hr4,hr5,hr6,hl,akZ,AF,El⟩:=Kj hs fn ps assign body;have hs1:=hs.ext Gk;have ak0:∀v x,aQ G w v x->aQ {G with aZ:=λb o=>G.aZ b o\/(w.heap.size<=b/\b<w1.heap.size)} w1 v x:=λv x hv=>hv.keep (λb o hi=>.inl hi) (λb o c hi hc=>by rw[Gk.cell (p:=⟨b,o,none⟩) (hs.fq b o hi)];omega) ((ga.Cd Gk).qG _) (λ_ _ e=>e) (λ_ _ e=>e);obtain⟨ms0,hm1,hm2,hm3⟩:=hs.ext'.marks;have hold:∀r,r∈ms0++E.fixed->r<w.heap.size:=λr hr=>(bC.1 (hm3 r hr).2).1;obtain⟨G1,hs2,ZO,hup⟩:=hs1.aad (l:=l) (rec:=rec) (ms:=ms) (by rw[Qn rec hr5 hr6];omega) (bH hs.kept.size akZ) (λi k r q=>by
  have hlt:i<S.bV.length:=by rw[hs.ext'.jS];exact(aC.1 q).1
  obtain⟨-,q2⟩:=hs.ext'.loops i k r _ q (aq hlt);grind) (λm hm=>⟨bH hs.kept.size (AF m hm).1,(AF m hm).2⟩) (by rw[hm1,lQ];grind);have hlv:S.bV.length=E.loops.length:=hs.ext'.jS;have Sv:S.bF.length=E.bF.length:=hs.ext'.kM;have hYr:=Qo (E:=E) cV hY ha hb (a1:={a with defers:=ms.map mark++a.defers}) (l:=l) (rec:=rec) (aae:=marksOf (ms.map mark++a.defers)++E.fixed) hr1 hr3 hr4 hr5 hr6;rw[hr2,<-hlv,<-Sv]at hYr;obtain⟨⟨func,hf1,OW,hf3⟩,agN⟩:=cV {E with loops:=E.loops++[(l,rec)]} rfl _ f _ _ G1 _ _ w1 (.func (.yield l) #[] #[]::cs) hs2 hYr h (by simp[FV.fA,hcs]) (λi c x hc hx=>by
  cases i with
  |zero=>simp at hc hx;subst hc;subst hx;exact .mZ _ l ZO
  |succ i=>simp only[lY]at hc hx;rw[FV.fA,aM]at hx;grind)
 refine⟨l,ms.map mark,w1,{target:=.fn (.func f) cs.toArray,args:=#[.func (.yield l) #[] #[]]},w1,f,(.func (.yield l) #[] #[]::cs).toArray,w1,?_,?_,λf' _=>Env.gd f',?_,λh=>(by rw[Env.lM]at h;grind),PZ (CallsIn.mono agN ?_)⟩;rw[Env.yQ];omega;simp only[resolve,hg];simp[go_sem];have h3':¬func.name= "runtime.NumGoroutine" :=by simpa using hf3
 have h2':¬func.body=none:=λe=>by simp_all
 simp[invoke,callFunc,hf1,h2',h3'];rintro e w' ⟨v,x,G',S',rfl,hq,hs',-⟩;unfold Cb at hq;have hrn:∀q,E.mu=some q->∃(i:Nat) (r:Loop),E.loops[i]?=some (q,r):=hs.ext'.mu;have fin:∀{st:yg},Ho S'.bV S.bV.length=some st->(st.of rec).state≠.busy->∃w4,(Instr.endLoop l).run E.C.P w'=.ok (st.of rec).pending w4/\bp E G' {S' with bV:=S'.bV.take S.bV.length} {a with defers:=ms.map mark++a.defers} w4:=λ{st} hst hnb=>by rw[hlv]at hst;obtain⟨-,hl4⟩:=hs'.Eu (i:=E.loops.length) (k:=l) (r:=rec) (by simp_all) hst;refine⟨_,run_endLoop hl4 hnb,?_⟩;have :=bp.adT (E:=E) hs' hst hrn (o':={st.of rec with state:=.exhausted});simp_all
 split at hq;rename_i hst;obtain⟨w4,he,hs4⟩:=fin hst (by simp[yg.of]);exact⟨_,w4,he,_,hq,G',hs4⟩;rename_i hst;obtain⟨w4,he,hs4⟩:=fin hst (by simp[yg.of]);exact⟨_,w4,he,wpIn_ret ⟨_,hq,G',hs4⟩⟩;rename_i id hst;obtain⟨w4,he,hs4⟩:=fin hst (by simp[yg.of]);exact⟨_,w4,he,wpIn_exit ⟨_,hq,G',hs4⟩⟩;simp_all
theorem tc (c:Code):HR c:=by
 induction c with
 |skip=>intro E call Y cV hY Q S a w h hs;exact wpIn_skip ⟨S,h,hs⟩
 |region id ops draw=>intro E call Y cV hY Q S a w h hs;unfold ud at h;split at h;obtain⟨T,hw,h⟩:=h;exact jw cV hY (λS a w hk hs'=>⟨S,hk,hs'⟩) (hs.weaken hw) h;split at h;rcases h with⟨d,Z,ru,hf,h⟩|h;obtain⟨G,hs⟩:=hs;exact jw cV hY (λS a w hk hs'=>⟨S,hk,hs'⟩) (hs.Pn hf) h;exact jw cV hY (λS a w hk hs'=>⟨S,hk,hs'⟩) hs h;split at h;rcases h with⟨d,ks,vs,hf,h⟩|h;obtain⟨G,hs⟩:=hs;exact jw cV hY (λS a w hk hs'=>⟨S,hk,hs'⟩) (hs.Ph hf) h;exact jw cV hY (λS a w hk hs'=>⟨S,hk,hs'⟩) hs h;split at h;obtain⟨fr,h⟩:=h;obtain⟨S',h,hs'⟩:=yW fr h hs;exact jw cV hY (λS a w hk hs'=>⟨S,hk,hs'⟩) hs' h;split at h;exact Kh cV hY (λS a w hk hs'=>⟨S,hk,hs'⟩) hs h;exact jw cV hY (λS a w hk hs'=>⟨S,hk,hs'⟩) hs h
 |seq x y ihx ihy=>
  intro E call Y cV hY Q S a w h hs;refine wpIn_seq (wpIn_mono (ihx cV hY (Q:=ua (ud E.C call Y y Q) Q) h hs) ?_);rintro e a' w' ⟨S',hq,hs'⟩;cases e with
  |normal=>exact ihy cV hY hq hs'
  |_=>exact⟨S',hq,hs'⟩
 |cond c x y ihx ihy=>intro E call Y cV hY Q S a w h hs;have hs':=hs;obtain⟨G,hs'⟩:=hs';simp only[ud]at h;have hv:=aQ.val hs' c;split at h;rename_i ht;rw[ht]at hv;exact wpIn_cond_true hv.nt (ihx cV hY h hs);rename_i ht;rw[ht]at hv;exact wpIn_cond_false hv.nt (ihy cV hY h hs);simp_all
 |block id c ih=>
  intro E call Y cV hY Q S a w h hs;refine wpIn_block (wpIn_mono (ih cV hY (Q:=Hl id Q) h hs) ?_);rintro e a' w' ⟨S',hq,hs'⟩;cases e with
  |exit n=>simp only[Hl]at hq;simp only[Exit.inBlock];split at hq;rename_i hb;rw[af (aK hb)];grind;rename_i hb;rw[aa (bt hb)];grind
  |_=>exact⟨S',hq,hs'⟩
 |loop c ih=>
  intro E call Y cV hY Q S a w h hs;obtain⟨α,I,μ,⟨a0,S0,hw0,hI0⟩,round⟩:=h;refine wpIn_loop_ghost (λn a w=>∃x S,I x S/\μ x=n/\pJ E S a w) (μ a0) ⟨a0,S0,hI0,rfl,hs.weaken hw0⟩ ?_;rintro n a w ⟨x,S,hI,rfl,hs⟩;refine wpIn_mono (ih cV hY (Q:=ua (λS'=>∃a' tU,bL S' tU/\I a' tU/\μ a'<μ x) Q) (round x S hI) hs) ?_;rintro e a' w' ⟨S',hq,hs'⟩;cases e with
  |normal=>obtain⟨x',tU,hw,hI',hlt⟩:=hq;exact⟨μ x',hlt,x',tU,hI',rfl,hs'.weaken hw⟩
  |_=>exact⟨S',hq,hs'⟩
 |exit id=>intro E call Y cV hY Q S a w h hs;exact wpIn_exit ⟨S,h,hs⟩
 |ret=>intro E call Y cV hY Q S a w h hs;exact wpIn_ret ⟨S,h,hs⟩
 |rangeFunc g ps assign body iha ihb=>
  intro E call Y cV hY Q S a w h hs;obtain⟨G,hs⟩:=hs;simp only[ud,Pf]at h;have hv:=aQ.val hs g;generalize KX:a.eval g=v at hv;split at h;rename_i f captured hf;rw[hf]at hv;obtain⟨fs,cs,rfl,h1,h2⟩:=SS hv;have :fs=[]:=bJ.1 h1.1;subst this;have h3:=yX (G:=G) h2 rfl;have hk:FV.eL (1000000+S.bV.length) (aF captured)=aF captured:=by rw[FV.fA,eO];simp[FV.kill]
  exact Fz cV hY iha ihb hs KX h3.1 h3.2 (by simp_all);rename_i f captured hf;rw[hf]at hv;obtain⟨fs,cs,rfl,h1,h2⟩:=Nb hv;have :fs=[]:=bJ.1 h1.1;subst this;exact Fz cV hY iha ihb hs KX h2.1 h2.2 h;simp_all
 |_=>intro E call Y cV hY Q S a w h hs;exact h.elim
theorem zf {n:Nat}{vals:List Value}{args:List FV}(hlen:vals.length=args.length)(hn:args.length<=n)(hr:∀(i:Nat)(v:Value)(x:FV),vals[i]?=some v->args[i]?=some x->aQ G w v x):(vals.toArray++Array.replicate (n-vals.toArray.size) undef).size=n/\∀i,i<n->aQ G w ((vals.toArray++Array.replicate (n-vals.toArray.size) undef).getD i undef) (wu args i):=by
 refine⟨by simp_all,λi hi=>?_⟩;have vg:(vals.toArray++Array.replicate (n-vals.toArray.size) undef).getD i undef=(vals[i]?).getD undef:=by rw[CQ];by_cases hlt:i<vals.length;simp_all;simp_all
 rw[vg];unfold wu;by_cases hlt:i<args.length;grind;rw[nN oO,nN oO];exact jt _ _
theorem CV (C:Ctx):∀k,lZ C (Zs C k)
 |0=>λE hC Y g args K G S a w vals hs hY h=>h.elim
 |k+1=>by
  intro E hC Y g args K G S a w vals hs hY h hlen hr;subst hC;obtain⟨fn,hf,hb,hname,hn,h⟩:=h;obtain⟨c,hc⟩:=me.1 hb;rw[hc]at h;refine⟨⟨fn,hf,by simp_all,hname⟩,?_⟩;obtain⟨hsz,ht⟩:=zf (n:=fn.ntmps) hlen (gQ hn) hr;have hs1:=hs.enter (mu:=none) hsz ht (λl h=>by grind);obtain⟨ms,AF,-,-⟩:=hs.ext'.marks;refine callsIn_of_wp_marks hf hc trivial ?_ rfl;have :=tc c (E:=E.push a) (CV E.C k) hY h ⟨_,hs1⟩;refine wpIn_mono this ?_;have fin:∀{S':ah}{a':Act}{w':World},rY E.C S' fn.results.toList (λvs=>S'.leave (K (MS vs)))->pJ (E.push a) S' a' w'->LeavesInM Fence.wide 0 E.C.P fn a'.tmps (λe w'=>∃v x G' S',e=.returned v/\K x S'/\bp E G' S' a w'/\aQ G' w' v x) a'.defers .returning w':=λ{S' a' w'} hq ⟨G',hs'⟩=>by obtain⟨ms',hm',-,-⟩:=hs'.ext'.marks;rw[hm'];refine Ae (E:=E.push a) ms' rfl hs' rfl hm' λG2 a2 w2 hs2 ht2 hd2=>?_;obtain⟨vs,xs,r1,r2,r3,r4,r5⟩:=pY hs2 _ _ hq;obtain⟨f,r,hf',hK⟩:=Et r2;have hlv:=bp.leave (E:=E) (a:=a) (mu:=none) (ms:=ms) hs2 hf' AF hs.ext'.mu;rw[<-ht2];exact⟨_,kC fn a2.tmps E.C.P w2 r1,_,_,G2,_,rfl,hK,hlv,CR r4 r5⟩
  rintro e a' w' ⟨S',hq,hs'⟩;cases e with
  |normal=>exact fin hq hs'
  |ret=>exact fin hq hs'
  |_=>exact hq.elim
theorem uk (E:Env):eN E jl:=λ_ _ _ _ _ _ _ _ _ _ _ _ _ _ _ h=>h.elim
theorem Qp {G:aV}{w:World}(hs:bp E G S a w){v:Value}{x:AV}(h:cZ G.aZ w v x):cZ (mz E.Bh E.w0.heap.size) w v x:=sL hs h
abbrev Tn {C:Ctx}{aZ:Nat->Nat->Prop}{w:World}(hJ:C.J w/\oM aZ w)(hn:C.ov<=w.heap.size):Env:={C:=C,w0:=w,Bh:=aZ,hJ:=hJ.1,hn:=hn,mu:=none,bF:=[],loops:=[],fixed:=[]}
theorem aiF {C:Ctx}{aZ:Nat->Nat->Prop}{w:World}{n:Nat}{args:List AV}{vs:List Value}(hJ:C.J w/\oM aZ w)(hn:C.ov<=w.heap.size)(hi:∀b o,aZ b o->b<w.heap.size)(hlen:args.length<=n)(hl:vs.length=args.length)(hr:∀(i:Nat)(v:Value)(x:AV),vs[i]?=some v->args[i]?=some x->cZ aZ w v x):bp (Tn hJ hn) (bare aZ) (xT n args) {tmps:=vs.toArray++Array.replicate (n-vs.toArray.size) undef,defers:=[]} w:=by
 have hg:∀i:Nat,(aF args)[i]?=args[i]?.map .p:=λi=>by rw[eO,aM]
 obtain⟨hsz,ht⟩:=zf (G:=bare aZ) (w:=w) (n:=n) (vals:=vs) (args:=aF args) (by rw[iP,hl]) (by rw[iP];omega) λi v x h1 h2=>by rw[hg]at h2;obtain⟨y,h3,rfl⟩:=pU.1 h2;exact .p _ _ (hr i v y h1 h3)
 refine⟨⟨rfl,rfl,rfl,ay _,λ_ _ _=>rfl,λk _ _ _ hk=>by simp_all⟩,hsz,⟨⟨(λo l h=>by cases h),(λo b h=>by cases h),(λo o' b h=>by cases h),(λq x h=>by cases h),(λq r h=>by cases h),(λq q' r h=>by cases h),(λo o' b h=>by cases h),(λo T z k l b fZ es h=>by cases h)⟩,rfl,λi vs fr h=>by grind,rfl,λi k r st h=>by grind,λi j k r r' h=>by grind,λi k r h=>by grind,λl h=>by grind,⟨[],rfl,by simp,by simp⟩,hJ.2⟩,⟨(λo bs h=>by cases h),(λo r h=>by cases h),(λo r h=>by cases h)⟩,λb o h=>.inl h,hi,λi hi'=>?_,(λo cells ho=>by cases ho),(λo b h=>by cases h),(λo o' b h=>by cases h),(λo t b r h=>by cases h),(λt b s e T h=>by cases h),(λt t' b r r' h=>by cases h)⟩;have :=ht i hi';simp only[wu,hg]at this;simp only[xT];grind
theorem sg {C:Ctx}{call:ig}(hco:lZ C call){f:FuncId}{fn:Func}{c:Code}{args:List AV}{R:dh->Prop}(hf:C.P.funcs[f]?=some fn)(hb:fn.body=some c)(hname:(fn.name== "runtime.NumGoroutine")=false)(hlen:args.length<=fn.ntmps)(h:ud C call jl c (ue C fn.results.toList R) (xT fn.ntmps args)):aj C f args R:=by
 refine⟨⟨fn,hf,by simp_all,hname⟩,λaZ w vs hJ hn hi hl hr=>?_⟩;have hs:=aiF (n:=fn.ntmps) hJ hn hi hlen hl hr;refine(callsIn_wide (n:=0)).1 (callsIn_of_wp_marks hf hb trivial ?_ rfl);refine wpIn_mono (tc c (E:=Tn hJ hn) hco (uk _) h ⟨_,hs⟩) ?_;have fin:∀{S':ah}{a':Act}{w':World},yG C fn.results.toList R S'->pJ (Tn hJ hn) S' a' w'->LeavesInM Fence.wide 0 C.P fn a'.tmps (λe w'=>∃v r,e=.returned v/\R r/\ng aZ w.heap.size w' v r/\Below w.heap.size w w') a'.defers .returning w':=λ{S' a' w'} hq ⟨G',hs'⟩=>by obtain⟨ms',hm',-,-⟩:=hs'.ext'.marks;rw[hm'];refine Ae (E:=Tn hJ hn) ms' rfl hs' rfl hm' λG2 a2 w2 hs2 ht2 hd2=>?_;obtain⟨v,r,h1,h2,h3⟩:=HQ hs2 hq;rw[<-ht2];exact⟨v,h1,v,r,rfl,h2,h3,hs2.kept.os,hs2.kept.tape,hs2.kept.output,hs2.kept.size,λk hk=>hs2.kept.block k hk (by simp)⟩
 rintro e a' w' ⟨S',hq,hs'⟩;cases e with
 |normal=>exact fin hq hs'
 |ret=>exact fin hq hs'
 |_=>exact hq.elim
theorem Kk {C:Ctx}{f:FuncId}{fn:Func}{c:Code}{args:List AV}{R:dh->Prop}(hf:C.P.funcs[f]?=some fn)(hb:fn.body=some c)(hname:(fn.name== "runtime.NumGoroutine")=false)(hlen:args.length<=fn.ntmps)(h:ev C c (ue C fn.results.toList R) (xT fn.ntmps args)):aj C f args R:=sg (CV C 6) hf hb hname hlen h
theorem Qq {C:Ctx}{f:FuncId}{fn:Func}{c:Code}{cells args:List AV}{R:AV->List AV->Prop}(hf:C.P.funcs[f]?=some fn)(hb:fn.body=some c)(hname:(fn.name== "runtime.NumGoroutine")=false)(hlen:args.length+1<=fn.ntmps)(h:ev C c (Pq C fn.results.toList cells.length R) (Vb fn.ntmps cells args)):GV C f cells args R:=by
 refine⟨⟨fn,hf,by simp_all,hname⟩,λaZ w b vs hJ hn hi hbn adV hbi hbc hl hr=>?_⟩;let E:Env:={C:=C,w0:=w,Bh:=aZ,hJ:=hJ.1,hn:=hn,mu:=none,bF:=[],loops:=[],fixed:=[],own:=[b],hown:=λk hk=>by simp_all};let G0:aV:=⟨aZ,λo=>if o=999999 then some b else none,λ_=>none,λ_=>none,λ_=>none,λ_=>none,λ_=>none⟩;have om:∀(i:Nat)(v:Value)(x:FV),(Value.pointer (some ⟨b,0,none⟩)::vs)[i]?=some v->(FV.ptr 999999 0::aF args)[i]?=some x->aQ G0 w v x:=λi v x h1 h2=>by
  cases i with
  |zero=>simp at h1 h2;subst h1;subst h2;exact .ptr _ _ _ rfl
  |succ i=>
   simp only[lY,eO,aM]at h1 h2;cases hq:args[i]?with
   |none=>simp_all
   |some y=>simp[hq]at h2;subst h2;exact .p _ _ (hr i v y h1 hq)
 obtain⟨hsz,ht⟩:=zf (n:=fn.ntmps) (vals:=Value.pointer (some ⟨b,0,none⟩)::vs) (args:=FV.ptr 999999 0::aF args) (by simp[eO,hl]) (by simp[eO];omega) om;have hs:bp E G0 (Vb fn.ntmps cells args) {tmps:=(Value.pointer (some ⟨b,0,none⟩)::vs).toArray++Array.replicate (fn.ntmps-(Value.pointer (some ⟨b,0,none⟩)::vs).toArray.size) undef,defers:=[]} w:=by
  refine⟨⟨rfl,rfl,rfl,ay _,λ_ _ _=>rfl,λk cs T fr _ q=>⟨cs,q,rfl⟩⟩,hsz,⟨⟨(λo l h=>by cases h),(λo b h=>by grind),(λo o' b h=>by grind),(λq x h=>by cases h),(λq r h=>by grind),(λq q' r h=>by grind),(λo o' b h=>by grind),(λo T z k l b fZ es h=>by grind)⟩,rfl,λi vs fr h=>by grind,rfl,λi k r st h=>by grind,λi j k r r' h=>by grind,λi k r h=>by simp_all,λl h=>by simp_all,⟨[],rfl,by grind,by grind⟩,hJ.2⟩,⟨(λo bs h=>by cases h),(λo r h=>by grind),(λo r h=>by grind)⟩,λb o h=>.inl h,hi,λi hi'=>ht i hi',(λo cs ho=>?_),(λo b2 h=>?_),(λo o' b2 h h'=>?_),(λo t b r _ h=>by grind),(λt b s e T h=>by grind),(λt t' b r r' h=>by grind)⟩;simp only[Vb,getObj]at ho;split at ho;rename_i hq;obtain rfl:=aK hq;obtain rfl:=an ho;refine⟨b,rfl,λi x hx=>?_⟩;rw[eO,aM]at hx;cases hq:cells[i]?with
  |none=>simp_all
  |some y=>simp[hq]at hx;subst hx;obtain⟨c,h1,h2⟩:=hbc i y hq;exact⟨c,h1,.p _ _ h2⟩
  simp_all;simp only[G0]at h;split at h;rename_i e;obtain rfl:=an h;exact⟨adV,.inr ⟨e,[],rfl⟩,hbi⟩;simp_all;grind
 refine(callsIn_wide (n:=0)).1 (callsIn_of_wp_marks hf hb trivial ?_ rfl);refine wpIn_mono (tc c (E:=E) (CV C 6) (uk E) h ⟨_,hs⟩) ?_;have fin:∀{S':ah}{a':Act}{w':World},zY C fn.results.toList cells.length R S'->pJ E S' a' w'->LeavesInM Fence.wide 0 C.P fn a'.tmps (λe w'=>∃v r cells',e=.returned v/\R r cells'/\cells'.length=cells.length/\cZ (mz aZ w.heap.size) w' v r/\(∀(i:Nat)(x:AV),cells'[i]?=some x->∃c,w'.cell? ⟨b,i,none⟩=some c/\cZ (mz aZ w.heap.size) w' c x)/\w'.os=w.os/\w'.tape=w.tape/\w'.output=w.output/\w.heap.size<=w'.heap.size/\(∀k,k<w.heap.size->k≠b->w'.heap[k]?=w.heap[k]?)/\(∀cs T fr,w.heap[b]?=some (.cells cs T fr)->∃cs',w'.heap[b]?=some (.cells cs' T fr)/\cs'.size=cs.size)) a'.defers .returning w':=λ{S' a' w'} hq ⟨G',hs'⟩=>by obtain⟨ms',hm',-,-⟩:=hs'.ext'.marks;rw[hm'];refine Ae (E:=E) ms' rfl hs' rfl hm' λG2 a2 w2 hs2 ht2 hd2=>?_;unfold zY at hq;obtain⟨vs,xs,r1,r2,r3,r4,r5⟩:=pY hs2 _ _ hq;split at r2;rename_i r cs hr2 ho;split at r2;rename_i ys hys;obtain⟨hn,r2⟩:=r2;rw[<-ht2];obtain⟨b2,g1,g2⟩:=hs2.aJ 999999 cs ho;obtain⟨g3,g4⟩:=FV.iT hys;obtain rfl:b2=b:=Env.Zu (E:=E) (hs2.iu _ _ g1).2.1 rfl;refine⟨_,kC fn a2.tmps E.C.P w2 r1,_,r,ys,rfl,r2,aK hn,Qp hs2 ((CR r4 r5).fe hr2),λi x hx=>?_,hs2.kept.os,hs2.kept.tape,hs2.kept.output,hs2.kept.size,λk hk hkb=>hs2.kept.block k hk (by grind),λc1 T fr h=>hs2.kept.shape _ c1 T fr (by rfl) h⟩;obtain⟨y,hy,hxy⟩:=g4 i x hx;obtain⟨c,q1,q2⟩:=g2 i y hy;exact⟨c,q1,Qp hs2 (q2.fe hxy)⟩;simp_all;simp_all
 rintro e a' w' ⟨S',hq,hs'⟩;cases e with
 |normal=>exact fin hq hs'
 |ret=>exact fin hq hs'
 |_=>exact hq.elim
end
section
variable {E:Env}{G:aV}{S:ah}{a:Act}{w:World}
theorem aj.mono {C:Ctx}{f:FuncId}{args:List AV}{R R':dh->Prop}(h:aj C f args R)(hr:∀r,R r->R' r):aj C f args R':=⟨h.1,λaZ w vs a b c d e=>(h.2 aZ w vs a b c d e).mono λ_ _ ⟨v,r,h1,h2,h3⟩=>⟨v,r,h1,hr _ h2,h3⟩⟩
def FA:List (Nat×FV)->Nat->FV|[],_=>.dr|(j,v)::r,i=>match Nat.beq i j with|true=>v|false=>FA r i
def Qr:List (Nat×Nat×List (Nat×FV))->List Fr|[]=>[]|(n,off,rel)::r=>⟨n,off,FA rel⟩::Qr r
def rA (n off:Nat)(rel:List (Nat×FV))(aJ:List (Nat×List FV))(bF:List (Nat×Nat×List (Nat×FV)))(bV:List yg)(cw:List (Nat×List UInt8):=[]):ah:={n:=n,off:=off,tmps:=FA rel,aJ:=aJ,bF:=Qr bF,bV:=bV,cw:=cw}
def yj (f:Nat->FV):List (Nat×FV)->Prop|[]=>True|(j,v)::r=>aR (f j) v/\yj f r
def Kl:List Fr->List (Nat×Nat×List (Nat×FV))->Prop|[],[]=>True|f::fs,(n,off,rel)::r=>(n,off)=(f.n,f.off)/\yj f.tmps rel/\Kl fs r|_,_=>False
def AG (aJ:List (Nat×List FV)):List (Nat×List FV)->Prop|[]=>True|(o,ys)::r=>(∃xs,Qv.getObj aJ o=some xs/\xs.length=ys.length/\∀(i:Nat)(x y:FV),xs[i]?=some x->ys[i]?=some y->aR x y)/\AG aJ r
theorem Af {f:Nat->FV}:∀{rel:List (Nat×FV)},yj f rel->∀i,aR (f i) (FA rel i)|[],_,_=>aR.dr _|(j,v)::rel,h,i=>by simp only[FA];split;rename_i hb;obtain rfl:=aK hb;exact h.1;exact Af h.2 i
theorem Vu:∀{fs:List Fr}{l:List (Nat×Nat×List (Nat×FV))},Kl fs l->(Qr l).length=fs.length/\∀(i:Nat)(f f':Fr),fs[i]?=some f->(Qr l)[i]?=some f'->f'.n=f.n/\f'.off=f.off/\∀j,aR (f.tmps j) (f'.tmps j)
 |[],[],_=>⟨rfl,by simp⟩
 |f::fs,(n,off,rel)::r,h=>by
  obtain⟨h1,h2,h3⟩:=h;obtain⟨h4,h5⟩:=Vu h3;injection h1 with e1 e2;refine⟨by simp[Qr,h4],λi g g' hg hg'=>?_⟩;cases i with
  |zero=>simp[Qr]at hg hg';subst hg;subst hg';exact⟨e1,e2,Af h2⟩
  |succ i=>simp[Qr]at hg hg';grind
 |[],_::_,h=>h.elim
 |_::_,[],h=>h.elim
def HS (l:List (Nat×List UInt8)):List (Nat×List UInt8)->Prop|[]=>True|(o,bs)::r=>lH l o=some bs/\HS l r
theorem Qs {l:List (Nat×List UInt8)}{o:Nat}{bs:List UInt8}:∀{r:List (Nat×List UInt8)},HS l r->lH r o=some bs->lH l o=some bs
 |[],_,h=>by cases h
 |(u,c)::r,hb,h=>by simp only[lH]at h;split at h;rename_i hu;obtain rfl:=aK hu;obtain rfl:=an h;exact hb.1;exact Qs hb.2 h
theorem Bn {l:List (Nat×List FV)}{o:Nat}{ys:List FV}:∀{r:List (Nat×List FV)},AG l r->Qv.getObj r o=some ys->∃xs,Qv.getObj l o=some xs/\xs.length=ys.length/\∀(i:Nat)(x y:FV),xs[i]?=some x->ys[i]?=some y->aR x y
 |[],_,h=>by cases h
 |(u,c)::r,hb,h=>by simp only[Qv.getObj]at h;split at h;rename_i hu;obtain rfl:=aK hu;obtain rfl:=an h;exact hb.1;exact Bn hb.2 h
def JM (n off:Nat)(rel:List (Nat×FV))(aJ:List (Nat×List FV))(bF:List (Nat×Nat×List (Nat×FV)))(bV:List yg)(cw:List (Nat×List UInt8))(maps:List (Nat×List (AV×FV)))(iF:List (Nat×(Option (AV×AV)×List (AV×AV)))):ah:={n:=n,off:=off,tmps:=FA rel,aJ:=aJ,bF:=Qr bF,bV:=bV,cw:=cw,maps:=maps,iF:=iF}
def Xj (maps:List (Nat×List (AV×FV))):List (Nat×List (AV×FV))->Prop|[]=>True|(o,l')::r=>(∃l,getM maps o=some l/\l.length=l'.length/\∀(i:Nat)(p p':AV×FV),l[i]?=some p->l'[i]?=some p'->p'.1=p.1/\aR p.2 p'.2)/\Xj maps r
def Xk (iF:List (Nat×(Option (AV×AV)×List (AV×AV)))):List (Nat×(Option (AV×AV)×List (AV×AV)))->Prop|[]=>True|(q,x)::r=>getM iF q=some x/\Xk iF r
theorem Qt {l:List (Nat×List (AV×FV))}{o:Nat}{ys:List (AV×FV)}:∀{r:List (Nat×List (AV×FV))},Xj l r->getM r o=some ys->∃xs,getM l o=some xs/\xs.length=ys.length/\∀(i:Nat)(p p':AV×FV),xs[i]?=some p->ys[i]?=some p'->p'.1=p.1/\aR p.2 p'.2
 |[],_,h=>by cases h
 |(u,c)::r,hb,h=>by simp only[getM]at h;split at h;rename_i hu;obtain rfl:=aK hu;obtain rfl:=an h;exact hb.1;exact Qt hb.2 h
theorem Qu {l:List (Nat×(Option (AV×AV)×List (AV×AV)))}{q:Nat}{x:Option (AV×AV)×List (AV×AV)}:∀{r:List (Nat×(Option (AV×AV)×List (AV×AV)))},Xk l r->getM r q=some x->getM l q=some x
 |[],_,h=>by cases h
 |(u,c)::r,hb,h=>by simp only[getM]at h;split at h;rename_i hu;obtain rfl:=aK hu;obtain rfl:=an h;exact hb.1;exact Qu hb.2 h
theorem nv {maps:List (Nat×List (AV×FV))}{o:Nat}{l:List (AV×FV)}(h:getM maps o=some l):∃l0,getM maps o=some l0/\l0.length=l.length/\∀(i:Nat)(p p':AV×FV),l0[i]?=some p->l[i]?=some p'->p'.1=p.1/\aR p.2 p'.2:=⟨l,h,rfl,λi p p' h1 h2=>by rw[h1]at h2;obtain rfl:=an h2;exact⟨rfl,aR.refl _⟩⟩
theorem iB {n off:Nat}{rel:List (Nat×FV)}{aJ:List (Nat×List FV)}{bF:List (Nat×Nat×List (Nat×FV))}{bV:List yg}{cw:List (Nat×List UInt8)}{maps:List (Nat×List (AV×FV))}{iF:List (Nat×(Option (AV×AV)×List (AV×AV)))}(hn:(n,off,bV)=(S.n,S.off,S.bV))(h1:yj S.tmps rel)(h2:AG S.aJ aJ)(h3:Kl S.bF bF)(h4:HS S.cw cw)(h5:Xj S.maps maps)(h6:Xk S.iF iF):bL S (JM n off rel aJ bF bV cw maps iF):=by
 injection hn with e1 e2;injection e2 with e2 e3;refine⟨e1,e2,e3,λo bs q=>⟨Qs h4 q,λq2=>?_⟩,Vu h3,λi=>Af h1 i,λo ys ho=>Bn h2 ho,λo l hl=>Qt h5 hl,λq x hx=>Qu h6 hx⟩;cases hq:Qv.getObj aJ o with
 |none=>exact hq
 |some ys=>obtain⟨xs,h5,-⟩:=Bn h2 hq;simp_all
theorem bu {n off:Nat}{rel:List (Nat×FV)}{aJ:List (Nat×List FV)}{bF:List (Nat×Nat×List (Nat×FV))}{bV:List yg}{cw:List (Nat×List UInt8)}(hn:(n,off,bV)=(S.n,S.off,S.bV))(h1:yj S.tmps rel)(h2:AG S.aJ aJ)(h3:Kl S.bF bF)(h4:HS S.cw cw):bL S (rA n off rel aJ bF bV cw):=iB (maps:=[]) (iF:=[]) hn h1 h2 h3 h4 trivial trivial
theorem vz {C:Ctx}{call:ig}{Y:oN}{c:Code}{Q:Exit->ah->Prop}{α:Type}(n off:Nat)(rel:α->List (Nat×FV))(aJ:α->List (Nat×List FV))(bF:α->List (Nat×Nat×List (Nat×FV)))(bV:List yg)(cw:α->List (Nat×List UInt8))(maps:α->List (Nat×List (AV×FV)))(iF:α->List (Nat×(Option (AV×AV)×List (AV×AV))))(Inv:α->Prop)(μ:α->Nat)(x0:α)(h0:Inv x0)(hn:(n,off,bV)=(S.n,S.off,S.bV))(h1:yj S.tmps (rel x0))(h2:AG S.aJ (aJ x0))(h3:Kl S.bF (bF x0))(h4:HS S.cw (cw x0))(h5:Xj S.maps (maps x0))(h6:Xk S.iF (iF x0))(round:∀x,Inv x->ud C call Y c (ua (λS'=>∃x' tU,bL S' tU/\(Inv x'/\tU=JM n off (rel x') (aJ x') (bF x') bV (cw x') (maps x') (iF x'))/\μ x'<μ x) Q) (JM n off (rel x) (aJ x) (bF x) bV (cw x) (maps x) (iF x))):∃(α:Type) (I:α->ah->Prop) (μ:α->Nat),(∃a S',bL S S'/\I a S')/\∀a S,I a S->ud C call Y c (ua (λS'=>∃a' tU,bL S' tU/\I a' tU/\μ a'<μ a) Q) S:=⟨α,λx S=>Inv x/\S=JM n off (rel x) (aJ x) (bF x) bV (cw x) (maps x) (iF x),μ,⟨x0,_,iB hn h1 h2 h3 h4 h5 h6,h0,rfl⟩,λx S ⟨hI,hS⟩=>hS▸round x hI⟩
theorem mN {S':ah}{α:Type}{n off:Nat}{rel:α->List (Nat×FV)}{aJ:α->List (Nat×List FV)}{bF:α->List (Nat×Nat×List (Nat×FV))}{bV:List yg}{cw:α->List (Nat×List UInt8)}{maps:α->List (Nat×List (AV×FV))}{iF:α->List (Nat×(Option (AV×AV)×List (AV×AV)))}{Inv:α->Prop}{μ:α->Nat}{x:α}(x':α)(h0:Inv x')(hμ:μ x'<μ x)(hn:(n,off,bV)=(S'.n,S'.off,S'.bV))(h1:yj S'.tmps (rel x'))(h2:AG S'.aJ (aJ x'))(h3:Kl S'.bF (bF x'))(h4:HS S'.cw (cw x'))(h5:Xj S'.maps (maps x'))(h6:Xk S'.iF (iF x')):∃x' tU,bL S' tU/\(Inv x'/\tU=JM n off (rel x') (aJ x') (bF x') bV (cw x') (maps x') (iF x'))/\μ x'<μ x:=⟨x',_,iB hn h1 h2 h3 h4 h5 h6,⟨h0,rfl⟩,hμ⟩
theorem aiG {S:ah}(n off:Nat)(rel:List (Nat×FV))(aJ:List (Nat×List FV))(bF:List (Nat×Nat×List (Nat×FV)))(bV:List yg)(cw:List (Nat×List UInt8))(maps:List (Nat×List (AV×FV)))(iF:List (Nat×(Option (AV×AV)×List (AV×AV)))){K:ah->Prop}(hn:(n,off,bV)=(S.n,S.off,S.bV))(h1:yj S.tmps rel)(h2:AG S.aJ aJ)(h3:Kl S.bF bF)(h4:HS S.cw cw)(h5:Xj S.maps maps)(h6:Xk S.iF iF)(h:K (JM n off rel aJ bF bV cw maps iF)):∃T,bL S T/\K T:=⟨_,iB hn h1 h2 h3 h4 h5 h6,h⟩
theorem Xl (aJ:List (Nat×List FV))(xs:List FV)(o:Nat)(h:Qv.getObj aJ o=some xs):∃ys,Qv.getObj aJ o=some ys/\ys.length=xs.length/\∀(i:Nat)(x y:FV),ys[i]?=some x->xs[i]?=some y->aR x y:=Fy h
theorem aB {aJ:List (Nat×List FV)}{o:Nat}{xs:List FV}(h:Qv.getObj aJ o=some xs):∃ys,Qv.getObj aJ o=some ys/\ys.length=xs.length/\∀(i:Nat)(x y:FV),ys[i]?=some x->xs[i]?=some y->aR x y:=Xl aJ xs o h
theorem tG {C:Ctx}{call:ig}{Y:oN}{c:Code}{Q:Exit->ah->Prop}{α:Type}(n off:Nat)(rel:α->List (Nat×FV))(aJ:α->List (Nat×List FV))(bF:α->List (Nat×Nat×List (Nat×FV)))(bV:List yg)(cw:α->List (Nat×List UInt8))(Inv:α->Prop)(μ:α->Nat)(x0:α)(h0:Inv x0)(hn:(n,off,bV)=(S.n,S.off,S.bV))(h1:yj S.tmps (rel x0))(h2:AG S.aJ (aJ x0))(h3:Kl S.bF (bF x0))(h4:HS S.cw (cw x0))(round:∀x,Inv x->ud C call Y c (ua (λS'=>∃x' tU,bL S' tU/\(Inv x'/\tU=rA n off (rel x') (aJ x') (bF x') bV (cw x'))/\μ x'<μ x) Q) (rA n off (rel x) (aJ x) (bF x) bV (cw x))):∃(α:Type) (I:α->ah->Prop) (μ:α->Nat),(∃a S',bL S S'/\I a S')/\∀a S,I a S->ud C call Y c (ua (λS'=>∃a' tU,bL S' tU/\I a' tU/\μ a'<μ a) Q) S:=⟨α,λx S=>Inv x/\S=rA n off (rel x) (aJ x) (bF x) bV (cw x),μ,⟨x0,_,bu hn h1 h2 h3 h4,h0,rfl⟩,λx S ⟨hI,hS⟩=>hS▸round x hI⟩
theorem iC {S':ah}{α:Type}{n off:Nat}{rel:α->List (Nat×FV)}{aJ:α->List (Nat×List FV)}{bF:α->List (Nat×Nat×List (Nat×FV))}{bV:List yg}{cw:α->List (Nat×List UInt8)}{Inv:α->Prop}{μ:α->Nat}{x:α}(x':α)(h0:Inv x')(hμ:μ x'<μ x)(hn:(n,off,bV)=(S'.n,S'.off,S'.bV))(h1:yj S'.tmps (rel x'))(h2:AG S'.aJ (aJ x'))(h3:Kl S'.bF (bF x'))(h4:HS S'.cw (cw x')):∃x' tU,bL S' tU/\(Inv x'/\tU=rA n off (rel x') (aJ x') (bF x') bV (cw x'))/\μ x'<μ x:=⟨x',_,bu hn h1 h2 h3 h4,⟨h0,rfl⟩,hμ⟩
theorem afW {C:Ctx}{call:ig}{Y:oN}{c:Code}{Q:Exit->ah->Prop}{α:Type}(n:Nat)(rel:α->List (Nat×FV))(aJ:α->List (Nat×List FV))(cw:α->List (Nat×List UInt8))(Inv:α->Prop)(μ:α->Nat)(x0:α)(h0:Inv x0)(hn:(n,0,[],[])=(S.n,S.off,S.bV,S.bF))(h1:yj S.tmps (rel x0))(h2:AG S.aJ (aJ x0))(h4:HS S.cw (cw x0))(round:∀x,Inv x->ud C call Y c (ua (λS'=>∃x' tU,bL S' tU/\(Inv x'/\tU=rA n 0 (rel x') (aJ x') [] [] (cw x'))/\μ x'<μ x) Q) (rA n 0 (rel x) (aJ x) [] [] (cw x))):∃(α:Type) (I:α->ah->Prop) (μ:α->Nat),(∃a S',bL S S'/\I a S')/\∀a S,I a S->ud C call Y c (ua (λS'=>∃a' tU,bL S' tU/\I a' tU/\μ a'<μ a) Q) S:=by injection hn with e1 e2;injection e2 with e2 e3;injection e3 with e3 e4;exact tG n 0 rel aJ (λ_=>[]) [] cw Inv μ x0 h0 (by simp_all) h1 h2 (by rw[<-e4];trivial) h4 round
theorem aiH {S':ah}{α:Type}{n:Nat}{rel:α->List (Nat×FV)}{aJ:α->List (Nat×List FV)}{cw:α->List (Nat×List UInt8)}{Inv:α->Prop}{μ:α->Nat}{x:α}(x':α)(h0:Inv x')(hμ:μ x'<μ x)(hn:(n,0,[],[])=(S'.n,S'.off,S'.bV,S'.bF))(h1:yj S'.tmps (rel x'))(h2:AG S'.aJ (aJ x'))(h4:HS S'.cw (cw x')):∃x' tU,bL S' tU/\(Inv x'/\tU=rA n 0 (rel x') (aJ x') [] [] (cw x'))/\μ x'<μ x:=by injection hn with e1 e2;injection e2 with e2 e3;injection e3 with e3 e4;exact⟨x',_,bu (by simp_all) h1 h2 (by rw[<-e4];trivial) h4,⟨h0,rfl⟩,hμ⟩
theorem bI {C:Ctx}{call:ig}{Y:oN}{c:Code}{Q:Exit->ah->Prop}{α:Type}(n:Nat)(rel:α->List (Nat×FV))(aJ:α->List (Nat×List FV))(Inv:α->Prop)(μ:α->Nat)(x0:α)(h0:Inv x0)(hn:(n,0,[],[])=(S.n,S.off,S.bV,S.bF))(h1:yj S.tmps (rel x0))(h2:AG S.aJ (aJ x0))(round:∀x,Inv x->ud C call Y c (ua (λS'=>∃x' tU,bL S' tU/\(Inv x'/\tU=rA n 0 (rel x') (aJ x') [] [])/\μ x'<μ x) Q) (rA n 0 (rel x) (aJ x) [] [])):∃(α:Type) (I:α->ah->Prop) (μ:α->Nat),(∃a S',bL S S'/\I a S')/\∀a S,I a S->ud C call Y c (ua (λS'=>∃a' tU,bL S' tU/\I a' tU/\μ a'<μ a) Q) S:=afW n rel aJ (λ_=>[]) Inv μ x0 h0 hn h1 h2 trivial round
theorem aU {S':ah}{α:Type}{n:Nat}{rel:α->List (Nat×FV)}{aJ:α->List (Nat×List FV)}{Inv:α->Prop}{μ:α->Nat}{x:α}(x':α)(h0:Inv x')(hμ:μ x'<μ x)(hn:(n,0,[],[])=(S'.n,S'.off,S'.bV,S'.bF))(h1:yj S'.tmps (rel x'))(h2:AG S'.aJ (aJ x')):∃x' tU,bL S' tU/\(Inv x'/\tU=rA n 0 (rel x') (aJ x') [] [])/\μ x'<μ x:=aiH (cw:=λ_=>[]) x' h0 hμ hn h1 h2 trivial
end
theorem ag {C:Ctx}{f:FuncId}{fn:Func}{args:List AV}{R:dh->Prop}(hf:C.P.funcs[f]?=some fn)(hb:fn.body.isSome=true)(hname:(fn.name== "runtime.NumGoroutine")=false)(hlen:Nat.ble args.length fn.ntmps=true)(h:ev C (match fn.body with|some c=>c|none=>.skip) (ue C fn.results.toList R) (xT fn.ntmps args)):aj C f args R:=by obtain⟨c,hc⟩:=me.1 hb;rw[hc]at h;exact Kk hf hc hname (gQ hlen) h
theorem dQ {C:Ctx}(l:List Nat){f:FuncId}{fn:Func}{args:List AV}{R:dh->Prop}(hf:C.P.funcs[f]?=some fn)(hb:fn.body.isSome=true)(hname:(fn.name== "runtime.NumGoroutine")=false)(hlen:Nat.ble args.length fn.ntmps=true)(h:ev (C.cut l) (match fn.body with|some c=>c|none=>.skip) (ue (C.cut l) fn.results.toList R) (xT fn.ntmps args)):aj C f args R:=ag (C:=C.cut l) hf hb hname hlen h
theorem aj.cut {C:Ctx}{l:List Nat}{f:FuncId}{args:List AV}{R:dh->Prop}(h:aj C f args R):aj (C.cut l) f args R:=h
theorem bn {C:Ctx}(e:Extra)(l:List Nat){f:FuncId}{fn:Func}{args:List AV}{R:dh->Prop}(hf:C.P.funcs[f]?=some fn)(hb:fn.body.isSome=true)(hname:(fn.name== "runtime.NumGoroutine")=false)(hlen:Nat.ble args.length fn.ntmps=true)(h:ev ((C.cut l).open e) (match fn.body with|some c=>c|none=>.skip) (ue ((C.cut l).open e) fn.results.toList R) (xT fn.ntmps args)):aj C f args R:=ag (C:=(C.cut l).open e) hf hb hname hlen h
theorem aj.dL {C:Ctx}{e:Extra}{l:List Nat}{f:FuncId}{args:List AV}{R:dh->Prop}(h:aj C f args R):aj ((C.cut l).open e) f args R:=h
theorem CW {C:Ctx}(e:Extra)(l:List Nat){f:FuncId}{fn:Func}{cells args:List AV}{R:AV->List AV->Prop}(hf:C.P.funcs[f]?=some fn)(hb:fn.body.isSome=true)(hname:(fn.name== "runtime.NumGoroutine")=false)(hlen:Nat.ble (args.length+1) fn.ntmps=true)(h:ev ((C.cut l).open e) (match fn.body with|some c=>c|none=>.skip) (Pq ((C.cut l).open e) fn.results.toList cells.length R) (Vb fn.ntmps cells args)):GV C f cells args R:=by obtain⟨c,hc⟩:=me.1 hb;rw[hc]at h;exact Qq (C:=(C.cut l).open e) hf hc hname (gQ hlen) h
theorem GV.dL {C:Ctx}{e:Extra}{l:List Nat}{f:FuncId}{cells args:List AV}{R:AV->List AV->Prop}(h:GV C f cells args R):GV ((C.cut l).open e) f cells args R:=h
theorem dI {S:ah}(n:Nat)(rel:List (Nat×FV))(aJ:List (Nat×List FV)){K:ah->Prop}(hn:(n,0,[],[])=(S.n,S.off,S.bV,S.bF))(h1:yj S.tmps rel)(h2:AG S.aJ aJ)(h:K (rA n 0 rel aJ [] [])):∃T,bL S T/\K T:=by injection hn with e1 e2;injection e2 with e2 e3;injection e3 with e3 e4;exact⟨_,bu (cw:=[]) (by simp_all) h1 h2 (by rw[<-e4];trivial) trivial,h⟩
theorem wrap64 {n:Int}(h1:-9223372036854775808<=n)(h2:n<=9223372036854775807):IntKind.i64.wrap n=n:=by simp[IntKind.wrap,IntKind.bits,IntKind.signed];omega
theorem aag {n:Int}(h1:0<=n)(h2:n<=255):IntKind.u8.wrap n=n:=by simp[IntKind.wrap,IntKind.bits,IntKind.signed];omega
abbrev Bytes:=List UInt8
def oo (s:Bytes):List AV:=[.str s]
def Gn (l:List Bytes):AV:=.sl (l.map oo)
theorem cO {α:Type}{f:α->List AV}{l:List α}{n:Int}{k:Nat}(hn:n=k)(hk:k<l.length):(l.map f)[n.toNat]?=some (f l[k]):=by simp_all
theorem aR.eq {x y:FV}(h:x=y):aR x y:=h▸aR.refl x
theorem wS {p:Prop}(h:p:=by(repeat refine⟨aR.eq kK,?_⟩);exact trivial):p:=h
theorem oS {p:Prop}(h:p:=by(repeat refine⟨aB kK,?_⟩);exact trivial):p:=h
theorem cl {C:Ctx}{f:FuncId}{args:List AV}{v:dh}{K:dh->Prop}(h:aj C f args λr=>r=v)(k:K v):∃R,aj C f args R/\∀r,R r->K r:=⟨_,h,λ_ hr=>hr▸k⟩
theorem nx (m:Nat){a:Int}{K:Int->Prop}(h:K (m:Int))(e:IntKind.i64.wrap a=(m:Int):=by rw[wrap64 oO oO];omega):∃c,IntKind.i64.wrap a=c/\K c:=⟨_,e,h⟩
theorem ix {α:Type}{f:α->List AV}{l:List α}{k m:Nat}{K:List AV->Prop}(hk:k<l.length)(h:K (f l[k]))(e:(f l[k]).length=m:=by exact rfl):0<=(k:Int)/\∃ys,(l.map f)[(k:Int).toNat]?=some ys/\ys.length=m/\K ys:=⟨oO,_,cO rfl hk,e,h⟩
theorem aR.mC (t:Nat)(T:TypeId)(bN:Nat):aR (.full []) (.eU t T bN []):=λG w v h=>by
 cases h with
 |full _ a h=>exact .eU t T bN [] a 0 h (.inl ⟨rfl,rfl⟩)
theorem aR.Qw (t:Nat)(T:TypeId)(bN:Nat)(xs:List (List AV)):aR (.eU t T bN xs) (.p (.sl xs)):=λG w v h=>.p _ _ (h.fe rfl)
theorem aR.agO (xs:List (List AV)):aR (.full xs) (.p (.sl xs)):=λG w v h=>.p _ _ (h.fe rfl)
theorem aah {α:Type}{f:α->AV}(l:List α):∀zs,zs∈l.map (λx=>[f x])->zs.length=1:=by simp_all
theorem aiI {c d:UInt8}(h:(c.toNat:Int)=(d.toNat:Int)):c=d:=UInt8.toNat.inj oO
theorem az {p:Prop}[Decidable p]{K:Bool->Prop}(h1:p->K true)(h2:¬p->K false):Al λt:Bool=>t=decide p->K t:=⟨λt ht=>by by_cases h:p;simp_all;simp_all⟩
theorem aD {α:Type}[BEq α][LawfulBEq α]{a b:α}{K:Bool->Prop}(h1:a=b->K true)(h2:a≠b->K false):Al λt:Bool=>t=(a==b)->K t:=⟨λt ht=>by cases h:a==b;simp_all;simp_all⟩
theorem cS {α:Type}[BEq α][LawfulBEq α]{a b:α}{K:Bool->Prop}(h1:a≠b->K true)(h2:a=b->K false):Al λt:Bool=>t=(a !=b)->K t:=⟨λt ht=>by cases h:a==b;rw[ht];simp only[bne,h,Bool.not_false];simp_all;simp_all⟩
theorem uK {α:Type}[BEq α][LawfulBEq α]{a b:α}{K:Bool->Prop}(h1:a≠b->K true)(h2:a=b->K false):Al λt:Bool=>t=!(a==b)->K t:=cS h1 h2
theorem bY {α β:Type}{k:Nat}{l:List α}{f:α->β}{K:Bool->Prop}(h1:k<l.length->K true)(h2:¬k<l.length->K false):Al λt:Bool=>t=decide ((k:Int)<((l.map f).length:Int))->K t:=az (λh=>h1 (by simp_all)) (λh=>h2 (by simp_all))
theorem bq {b:Bool}{K:Bool->Prop}(h:K !b):Al λt:Bool=>t=!b->K t:=⟨λt ht=>ht▸h⟩
end Qv
