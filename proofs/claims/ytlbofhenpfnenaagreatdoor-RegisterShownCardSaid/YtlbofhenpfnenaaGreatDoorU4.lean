/- Part 4 of the proof: its lemmas. No condition. -/
import Derived.Test.YtlbofhenpfnenaaGreatDoorU3
set_option maxRecDepth 10000
set_option maxHeartbeats 80000000
set_option linter.all false
namespace Qv
open Go Go.RowKit
theorem gI.rep {aZ:Nat->Nat->Prop}{w:World}{v:Value}{l:gI}{x:AV}(h:dh aZ w v x)(hl:l.fits x=true):v=x.cell:=by cases h<;>cases l<;>first|rfl|(simp[gI.fits]at hl)
theorem PV {aZ:Nat->Nat->Prop}{w:World}:∀(L:List gI)(cs:List Value)(xs:List AV),cs.length=xs.length->fu L xs=true->(∀(i:Nat)(c:Value)(x:AV),cs[i]?=some c->xs[i]?=some x->dh aZ w c x)->cs=xs.map AV.cell
 |[],cs,xs,hl,hf,_=>by have e2:xs=[]:=bK.1 (jm hf);simp_all
 |l::L,cs,[],hl,hf,hr=>by simp_all
 |l::L,[],x::xs,hl,hf,hr=>by simp_all
 |l::L,c::cs,x::xs,hl,hf,hr=>by simp only[fu]at hf;split at hf;rename_i hx;rw[cS,gI.rep (hr 0 c x rfl rfl) hx,PV L cs xs (by simp_all) hf (λi c x h1 h2=>hr (i+1) c x (by simp_all) (by simp_all))];simp_all
theorem lQ {agg:Bool}{L:List gI}{x:AV}(h:gB agg L x=true):fu L x.cells=true:=by cases agg<;>cases x<;>first|exact h|(simp[gB]at h)
theorem tK {aZ:Nat->Nat->Prop}{w:World}{v:Value}{agg:Bool}{L:List gI}{x:AV}(h:dh aZ w v x)(hf:gB agg L x=true):v=tv agg x.cells:=by
 cases agg with
 |true=>
  cases h with
  |agg cs xs hl ho hr=>have :=PV L cs xs hl hf hr;rw[this];rfl
  |_=>simp[gB]at hf
 |false=>
  have hf':=lQ hf;cases h with
  |agg cs xs hl ho hr=>simp[gB]at hf
  |_=>
   all_goals
    simp only[AV.cells]at hf';match L,hf' with
     |[],hf'=>simp[fu]at hf'
     |[l],hf'=>
      simp only[fu]at hf';split at hf';rename_i hx;cases l<;>first|rfl|(simp[gI.fits]at hx)
      cases hf'
     |_::_::_,hf'=>simp only[fu]at hf';split at hf'<;>cases hf'
theorem PW {agg:Bool}{L:List gI}{x y:AV}(hx:gB agg L x=true)(hy:gB agg L y=true):kg x y=sameAs x.cells y.cells:=by
 cases agg with
 |true=>
  cases x<;>first|(simp[gB]at hx;done)|skip
  cases y<;>first|(simp[gB]at hy;done)|skip
  rfl
 |false=>
  cases x<;>first|(simp[gB]at hx;done)|skip
  all_goals cases y<;>first|(simp[gB]at hy;done)|simp[kg,AV.cells,sameAs]
theorem Lw {x y:AV}(h:sF x y=true):x=y:=by cases x<;>cases y<;>simp only[sF]at h<;>first|(simp at h;subst h;rfl)|(simp only[aW,beq_iff_eq]at h;obtain⟨h1,h2⟩:=h;rw[rV h1,h2])|cases h
theorem Lx:∀{xs ys:List AV},sameAs xs ys=true->xs=ys
 |[],[],_=>rfl
 |[],_::_,h=>by simp[sameAs]at h
 |_::_,[],h=>by simp[sameAs]at h
 |x::xs,y::ys,h=>by simp only[sameAs,aW]at h;rw[Lw h.1,Lx h.2]
theorem ZV {x y:AV}(h:kg x y=true):x=y:=by unfold kg at h;split at h;rw[Lx h];exact Lw h
theorem Ti {P:Program}{w:World}{d:Nat}{em:Bool}{t:TypeId}{l:gI}{x:AV}(hu:(P.underlying t=some .bool/\l=.bool)\/(∃k,P.underlying t=some (.int k)/\l=.int k)\/(P.underlying t=some .string/\l=.str))(hx:l.fits x=true):(Instr.checkKey em (d+1) t x.cell).run P w=.ok () w:=by unfold Instr.checkKey;rcases hu with⟨hu,rfl⟩|⟨k,hu,rfl⟩|⟨hu,rfl⟩;all_goals cases x<;>simp[gI.fits]at hx;simp[AV.cell,run_underlying hu]
def tL (em:Bool)(D:Nat)(xs:Array Value):List Field->Sem Unit|[]=>pure ()|f::fs=>if f.name≠ "_" then do let a<-part f.type xs f.offset;Instr.checkKey em D f.type a;tL em D xs fs else tL em D xs fs
def zk (em:Bool)(D:Nat)(e:TypeId)(c:Nat)(xs:Array Value):List Nat->Sem Unit|[]=>pure ()|i::is=>do let a<-part e xs (i*c);Instr.checkKey em D e a;zk em D e c xs is
theorem Ig {P:Program}{w:World}{em:Bool}{D:Nat}{t:TypeId}{fs:Array Field}(xs:Array Value)(hu:P.underlying t=some (.struct fs)):(Instr.checkKey em (D+1) t (.agg xs)).run P w=(tL em D xs fs.toList).run P w:=by
 unfold Instr.checkKey;simp only[Sem.run_bind,run_underlying hu,Result.andThen_ok];rw[<-Array.forIn_toList];generalize fs.toList=fs;clear hu;induction fs generalizing w with
 |nil=>rfl
 |cons f fs ih=>
  simp only[List.forIn_cons,tL,Sem.run_bind,Sem.run_ite];split;generalize(part f.type xs f.offset).run P w=r1;cases r1 with
  |ok a w1=>
   simp only[Result.andThen_ok];generalize(Instr.checkKey em D f.type a).run P w1=r2;cases r2 with
   |ok b w2=>simp_all
   |halt x w2=>rfl
  |halt x w1=>rfl
  simp_all
theorem KJ {P:Program}{w:World}{em:Bool}{D:Nat}{t e:TypeId}{n:Nat}{i:TypeInfo}(xs:Array Value)(hu:P.underlying t=some (.array n e))(hi:P.info? e=some i):(Instr.checkKey em (D+1) t (.agg xs)).run P w=(zk em D e (P.cellsOf e) xs (List.range n)).run P w:=by
 unfold Instr.checkKey;simp only[Sem.run_bind,run_underlying hu,Result.andThen_ok];simp only[Std.Legacy.Range.forIn_eq_forIn_range',Std.Legacy.Range.size,Nat.sub_zero,Nat.add_one_sub_one,Nat.div_one,CL];generalize List.range' 0 n=is;clear hu;induction is generalizing w with
 |nil=>rfl
 |cons j is ih=>
  simp only[List.forIn_cons,zk,Sem.run_bind,run_sizeOf w hi,Result.andThen_ok];generalize(part e xs (j*P.cellsOf e)).run P w=r1;cases r1 with
  |ok a w1=>
   simp only[Result.andThen_ok];generalize(Instr.checkKey em D e a).run P w1=r2;cases r2 with
   |ok b w2=>simp_all
   |halt x w2=>rfl
  |halt x w1=>rfl
theorem sU {P:Program}{em:Bool}:∀(d:Nat),(∀(t:TypeId)(L:List gI)(D:Nat)(w:World)(xs:List AV),d<=D->eM P d t=some L->fu L xs=true->(Instr.checkKey em D t (tv (gJ P t) xs)).run P w=.ok () w)/\(∀(fs:List Field)(off:Nat)(L:List gI)(D:Nat)(w:World)(A xs:List AV),d<=D->oH P d off fs=some L->A.length=off->fu L xs=true->(tL em D ((A++xs).map AV.cell).toArray fs).run P w=.ok () w)
 |0=>⟨λt L D w xs _ h=>by simp[eM]at h,λfs off L D w A xs _ h=>by simp[oH]at h⟩
 |d+1=>by
  obtain⟨ih1,ih2⟩:=sU (P:=P) (em:=em) d;constructor;intro t L D w xs hD h hx;obtain⟨D,rfl⟩:∃D',D=D'+1:=⟨D-1,oO⟩;rcases qP h with⟨l,rfl,ha,hu⟩|⟨hc,ha,⟨fs,hu,hs,hf⟩|⟨n,e,l,hu,hl,hce,rfl⟩⟩;rw[ha];match xs,jm hx with
   |[x],_=>
    have hx':l.fits x=true:=by simp only[fu]at hx;split at hx;omega;grind
    exact Ti hu hx'
  rw[ha];simp only[tv];rw[Ig _ hu];exact ih2 fs.toList 0 L D w [] xs oO hf rfl hx;rw[ha];obtain⟨q,i,hq,hi⟩:=xb hl;simp only[tv];rw[KJ _ hu hi];have key:∀(k j:Nat)(A xs:List AV),A.length=j*P.cellsOf e->fu (List.replicate k l).flatten xs=true->(zk em D e (P.cellsOf e) ((A++xs).map AV.cell).toArray (List.range' j k)).run P w=.ok () w:=by
   intro k;induction k with
   |zero=>intro j A xs _ _;rfl
   |succ k ihk=>intro j A xs hA hx;rw[List.replicate_succ,nM]at hx;obtain⟨x1,x2,rfl,hx1,hx2⟩:=vO hx;rw[List.range'_succ];simp only[zk,Sem.run_bind,Result.andThen_ok,pL hl hA hx1,ih1 e l D w x1 oO hl hx1];have :=ihk (j+1) (A++x1) x2 (by rw[aq,hA,jm hx1,bC,kn,hce]) hx2;simp_all
  have :=key n 0 [] xs (by simp) hx;rw[CL];simp_all;intro fs off L D w A xs hD h hA hx;cases fs with
  |nil=>rfl
  |cons f fs=>
   simp only[oH]at h;split at h;rename_i hn ho;split at h;grind;rename_i l hl;split at h;grind;rename_i r hr;obtain rfl:=au h;obtain⟨x1,x2,rfl,hx1,hx2⟩:=vO hx;have ho:=aP ho;have hn':f.name≠ "_" :=by simpa using hn
   have :=ih2 fs (off+l.length) r D w (A++x1) x2 oO hr (by rw[aq,hA,jm hx1]) hx2;rw[bf]at this;simp only[tL,hn',ne_eq,not_false_eq_true,if_true,Sem.run_bind,pL hl (hA.trans ho.symm) hx1,Result.andThen_ok,ih1 f.type l D w x1 oO hl hx1];omega;simp_all
def iA (k:AV):List AV->Option Nat|[]=>none|x::xs=>match kg k x with|true=>some 0|false=>(iA k xs).map (·+1)
def sV (agg:Bool)(L:List gI)(es:List MapEntry)(ks:List AV):Prop:=es.length=ks.length/\∀(i:Nat)(e:MapEntry)(x:AV),es[i]?=some e->ks[i]?=some x->e.key=tv agg x.cells/\gB agg L x=true
theorem sV.tail {agg:Bool}{L:List gI}{e:MapEntry}{es:List MapEntry}{x:AV}{ks:List AV}(h:sV agg L (e::es) (x::ks)):e.key=tv agg x.cells/\gB agg L x=true/\sV agg L es ks:=⟨(h.2 0 e x rfl rfl).1,(h.2 0 e x rfl rfl).2,by simpa using h.1,λi e' x' h1 h2=>h.2 (i+1) e' x' (by simp_all) (by simp_all)⟩
def found (es:List MapEntry)(i:Nat)(o:Option Nat):Option (Nat×Value):=o.bind λj=>(es[j]?).map λe=>(i+j,e.val)
theorem Ih (e:MapEntry)(es:List MapEntry)(i:Nat)(o:Option Nat):found (e::es) i (o.map (·+1))=found es (i+1) o:=by
 cases o with
 |none=>rfl
 |some j=>simp[found,gj,pZ 1]
theorem zl {P:Program}{w:World}{t:TypeId}{d:Nat}{L:List gI}(hd:d<=10000)(hL:eM P d t=some L){k:AV}(hk:gB (gJ P t) L k=true):∀(es:List MapEntry)(ks:List AV)(i:Nat),sV (gJ P t) L es ks->(Instr.findAsking t (tv (gJ P t) k.cells) es i).run P w=.ok (found es i (iA k ks)) w
 |[],ks,i,h=>by have :ks=[]:=bK.1 h.1.symm;subst this;rfl
 |e::es,[],i,h=>by have :=h.1;simp_all
 |e::es,x::ks,i,h=>by
  obtain⟨h1,h2,h3⟩:=h.tail;have heq:=(ER d).1 t L 10000 w k.cells x.cells hd hL (lQ hk) (lQ h2);have heq':(Op.equal t (tv (gJ P t) k.cells) e.key).run P w=.ok (kg k x) w:=by rw[h1,PW hk h2];exact heq
  simp only[Instr.findAsking,Sem.run_bind,heq',Result.andThen_ok,iA];cases hs:kg k x with
  |true=>rfl
  |false=>have :=zl (w:=w) hd hL hk es ks (i+1) h3;simp only[sS,if_false,this,Ih]
theorem PX {l:gI}{k:AV}(h:gB false [l] k=true):l.fits k=true:=by
 cases k<;>first|(simp[gB]at h;done)|skip
 all_goals have :=lQ h;simp only[AV.cells,fu]at this;split at this;assumption;cases this
theorem Ly {P:Program}{t:TypeId}{q:TypeDesc}{l:gI}(hu:P.underlying t=some q)(ha:gJ P t=false)(hl:(P.underlying t=some .bool/\l=.bool)\/(∃k,P.underlying t=some (.int k)/\l=.int k)\/(P.underlying t=some .string/\l=.str)){k:AV}(hk:gB false [l] k=true):∀(es:List MapEntry)(ks:List AV)(i:Nat),sV false [l] es ks->Instr.findNow q (tv false k.cells) es i=some (found es i (iA k ks))
 |[],ks,i,h=>by have :ks=[]:=bK.1 h.1.symm;subst this;rfl
 |e::es,[],i,h=>by have :=h.1;simp_all
 |e::es,x::ks,i,h=>by
  obtain⟨h1,h2,h3⟩:=h.tail;have hs:Instr.sameNow q (tv false k.cells) e.key=some (kg k x):=by
   rw[h1];have f1:=PX hk;have f2:=PX h2;rcases hl with⟨hl,rfl⟩|⟨kk,hl,rfl⟩|⟨hl,rfl⟩;all_goals
    rw[hu]at hl;obtain rfl:=au hl;cases k<;>first|(simp[gI.fits]at f1;done)|skip
    cases x<;>first|(simp[gI.fits]at f2;done)|skip
   rfl;simp only[gI.fits]at f1 f2;obtain rfl:=rV f1;obtain rfl:=rV f2;simp[tv,AV.cells,AV.cell,Instr.sameNow,kg,sF,Ic];simp only[tv,AV.cells,AV.cell,Instr.sameNow,kg,sF,cS,iN,List.headD_cons,beq_toListBytes];simp_all
  simp only[Instr.findNow,hs,iA];cases hq:kg k x with
  |true=>rfl
  |false=>have :=Ly hu ha hl hk es ks (i+1) h3;simp only[this,Ih]
theorem xg {P:Program}{w:World}{t:TypeId}{d:Nat}{L:List gI}(hd:d<=10000)(hL:eM P d t=some L){k:AV}(hk:gB (gJ P t) L k=true){es:List MapEntry}{ks:List AV}(h:sV (gJ P t) L es ks):(Instr.findKey t (tv (gJ P t) k.cells) es).run P w=.ok (found es 0 (iA k ks)) w:=by
 obtain⟨q,i,hq,hi⟩:=xb hL;cases d with
 |zero=>simp[eM]at hL
 |succ d=>
  rcases qP hL with⟨l,rfl,ha,hu⟩|⟨hc,ha,hu⟩;rw[ha]at hk h⊢;simp only[Instr.findKey,Sem.run_bind,run_underlying hq,Result.andThen_ok,Ly hq ha hu hk es ks 0 h,Sem.run_pure];have anj:=zl (w:=w) hd hL hk es ks 0 h;have akw:Instr.findNow q (tv (gJ P t) k.cells) es 0=(match es with|[]=>some none|_::_=>none):=by
   cases es with
   |nil=>rfl
   |cons e es=>rcases hu with⟨fs,hu,-⟩|⟨n,e',l,hu,-⟩;all_goals rw[hq]at hu;obtain rfl:=au hu;rfl
  simp only[Instr.findKey,Sem.run_bind,run_underlying hq,Result.andThen_ok,akw];cases es with
  |nil=>have :ks=[]:=bK.1 h.1.symm;subst this;rfl
  |cons e es=>omega
theorem Bj {l:gI}{x:AV}(h:l.fits x=true)(n:Nat):Instr.sameBits n x.cell x.cell=true:=by cases l<;>cases x<;>simp[gI.fits]at h<;>cases n<;>simp[AV.cell,Instr.sameBits,beq_toListBytes]
theorem CM {p:Value->Value->Bool}:∀(xs:List Value),(∀x,x∈xs->p x x=true)->((xs.zip xs).all λ(a,b)=>p a b)=true|[],_=>rfl|x::xs,h=>by simp only[List.zip_cons_cons,List.all_cons,h x (by simp),gQ];exact CM xs λy hy=>h y (by grind)
theorem PY {agg:Bool}{L:List gI}{x:AV}(h:gB agg L x=true)(n:Nat):Instr.sameBits (n+1) (tv agg x.cells) (tv agg x.cells)=true:=by
 have hc:=lQ h;cases agg with
 |true=>
  have hall:∀{L:List gI}{xs:List AV},fu L xs=true->∀y∈xs,∃l:gI,l.fits y=true:=by
   intro L;induction L with
   |nil=>intro xs h y hy;have :=bK.1 (jm h);simp_all
   |cons l L ih=>
    intro xs h y hy;cases xs with
    |nil=>simp_all
    |cons x xs=>simp only[fu]at h;grind
  simp only[tv,Instr.sameBits,beq_self_eq_true,gQ];refine CM (p:=Instr.sameBits n) _ λy hy=>?_;obtain⟨z,hz,rfl⟩:=aI.1 (by simpa using hy);obtain⟨l,hl⟩:=hall hc z hz;exact Bj hl n
 |false=>
  cases x<;>first|(simp[gB]at h;done)|skip
  all_goals
   simp only[AV.cells]at hc;match L,hc with
    |[],hc=>simp[fu]at hc
    |[l],hc=>simp only[fu]at hc;split at hc;rename_i hx;exact Bj hx _;cases hc
    |_::_::_,hc=>simp only[fu]at hc;split at hc<;>cases hc
theorem CN {P:Program}{w:World}{agg:Bool}{L:List gI}{x:AV}(h:gB agg L x=true):(Instr.keyThatStays (tv agg x.cells) (tv agg x.cells)).run P w=.ok (tv agg x.cells) w:=by unfold Instr.keyThatStays;rw[PY h];rfl
end Qv
