/- Part 13 of the proof: its lemmas. No condition. -/
import Derived.Test.YtiboombocnfngaaGreatDoorX1
import Derived.Test.YtiboombocnfngaaGreatDoorX2
import Derived.Test.YtiboombocnfngaaGreatDoorX3
set_option maxRecDepth 10000
set_option maxHeartbeats 80000000
set_option linter.all false
open Go Go.Proofs Go.RowKit
namespace Qv
theorem RQ (s:List fD)(x:fD)(d:Dg)(hx:s.find? (λx=>decide (x.id=d))=some x)(hl:s.length<=2^40):av C 39 [.sl (kG s),.agg (cD d)] (λr=>r=.val (.eN [.agg (cP x.pat),.bool true])):=by unfold kG;refine ak Tryz.func39 rfl rfl rfl ⟨[3],dA (cells:=aH (cD d)) (ys:=cD d) rfl (bI _) rfl (cl (Uh s 105 (.imp (cD d)) (λx=>decide (x.id=d)) (λx _=>XW x d) oO) ?_)⟩;rcases Fx (λx:fD=>decide (x.id=d)) s 0 with⟨-,h2⟩|⟨k,hk,h1,h2⟩;rw[hx]at h2;cases h2;rw[h1];rw[hx]at h2;obtain rfl:=aq h2;refine aF (λh=>absurd h oO) (λ_=>?_);refine⟨oO,mT s[k],by rw[dF];exact eC rfl hk,rfl,?_⟩;exact rfl
section
variable (N:gr->List Dg)
theorem iM {maps:List (Nat×List (AV×FV))}{o:Nat}{l0 l:List (AV×FV)}(h:getM maps o=some l0)(e:l0=l):∃l0,getM maps o=some l0/\l0.length=l.length/\∀(i:Nat)(p p':AV×FV),l0[i]?=some p->l[i]?=some p'->p'.1=p.1/\bw p.2 p'.2:=by subst e;exact aam h
end
structure acj (κ:Type)[DecidableEq κ] where
 ke:κ->AV
 L:List gZ
 same:∀a b,qW (ke a) (ke b)=decide (a=b)
 fits:∀a,iJ true L (ke a)=true
section
variable {κ:Type}[DecidableEq κ](W:acj κ)
def kE (l:List (κ×AV)):List (AV×FV):=l.map λp=>(W.ke p.1,.p p.2)
def kY (l:List (κ×AV)):List AV:=l.map λp=>W.ke p.1
def kV (l:List (κ×AV)):List AV:=l.map λp=>p.2
def kMp (l:List (κ×AV)):AV:=.mp (kY W l) (kV l)
def jC:List (κ×AV)->κ->Option AV|[],_=>none|(y,v)::l,x=>if x=y then some v else jC l x
def uN:List (κ×AV)->κ->AV->List (κ×AV)|[],x,v=>[(x,v)]|(y,w)::l,x,v=>if x=y then(x,v)::l else(y,w)::uN l x v
theorem je (l:List (κ×AV)):∀p,p∈kE W l->iJ true W.L p.1=true:=by intro p hp;obtain⟨d,-,rfl⟩:=aJ.1 hp;exact W.fits d.1
theorem rV:∀(l:List (κ×AV))(x:κ),yq (W.ke x) (kE W l)=(jC l x).map FV.p|[],_=>rfl|(y,v)::l,x=>by show(match qW (W.ke x) (W.ke y)with|true=>some (FV.p v)|false=>yq (W.ke x) (kE W l))=_;rw[W.same,rV l x,jC];by_cases h:x=y;rw[ah h,ag h];rfl;rw[ai h,af h]
theorem ye:∀(l:List (κ×AV))(x:κ)(v:AV),HR (W.ke x) (.p v) (kE W l)=kE W (uN l x v)|[],_,_=>rfl|(y,w)::l,x,v=>by show(match qW (W.ke x) (W.ke y)with|true=>(W.ke x,FV.p v)::kE W l|false=>(W.ke y,FV.p w)::HR (W.ke x) (.p v) (kE W l))=_;rw[W.same,ye l x v,uN];by_cases h:x=y;rw[ah h,ag h];rfl;rw[ai h,af h];rfl
theorem nQ:∀l:List (κ×AV),rY (kY W l) (aH (kV l))=kE W l|[]=>rfl|d::l=>by show(_::rY (kY W l) (aH (kV l)))=_;rw[nQ l];rfl
theorem HB:∀l:List (κ×AV),iP (kE W l)=kY W l|[]=>rfl|d::l=>by show(_::iP (kE W l))=_;rw[HB l];rfl
theorem HC:∀l:List (κ×AV),FV.gx (BK (kE W l))=some (kV l)|[]=>rfl|d::l=>by show FV.gx (FV.p d.2::BK (kE W l))=_;simp only[FV.gx,FV.fA,HC l];rfl
theorem bL (k:Nat):∀l:List (κ×AV),yO (FV.kill k) (kE W l)=kE W l|[]=>rfl|d::l=>by show((W.ke d.1,FV.p d.2)::yO (FV.kill k) (kE W l))=_;rw[bL k l];rfl
theorem Wg:∀{l:List (κ×AV)}{x:κ}{v:AV},x∉l.map (·.1)->uN l x v=l++[(x,v)]|[],_,_,_=>rfl|(y,w)::l,x,v,h=>by rw[uN,af (λe=>h (by rw[e];simp)),Wg λg=>h (by simp at g⊢;exact .inr g)];rfl
theorem ack:∀{l:List (κ×AV)}{x:κ}{v:FV},x∉l.map (·.1)->HR (W.ke x) v (kE W l)=kE W l++[(W.ke x,v)]|[],_,_,_=>rfl|(y,w)::l,x,v,h=>by show(match qW (W.ke x) (W.ke y)with|true=>(W.ke x,v)::kE W l|false=>(W.ke y,FV.p w)::HR (W.ke x) v (kE W l))=_;rw[W.same,ai (λe=>h (by rw[e];simp)),ack λg=>h (by simp at g⊢;exact .inr g)];rfl
theorem Yk {maps:List (Nat×List (AV×FV))}{o:Nat}{l0:List (AV×FV)}{k:AV}{v v':FV}(h:getM maps o=some (l0++[(k,v)])){l:List (AV×FV)}(e:l=l0++[(k,v')])(hw:bw v v'):∃l1,getM maps o=some l1/\l1.length=l.length/\∀(i:Nat)(p p':AV×FV),l1[i]?=some p->l[i]?=some p'->p'.1=p.1/\bw p.2 p'.2:=by
 subst e;refine⟨_,h,by simp,λi p p' h1 h2=>?_⟩;by_cases hi:i<l0.length;rw[cF hi]at h1 h2;rw[h1]at h2;obtain rfl:=aq h2;exact⟨rfl,bw.refl _⟩;rw[dN oO]at h1 h2;cases hj:i-l0.length with
 |zero=>rw[hj]at h1 h2;cases h1;cases h2;exact⟨rfl,hw⟩
 |succ n=>rw[hj]at h1;cases h1
theorem rO:∀(l:List (κ×AV))(x y:κ)(v:AV),jC (uN l x v) y=if y=x then some v else jC l y|[],x,y,v=>rfl|(z,w)::l,x,y,v=>by rw[uN];by_cases h:x=z;rw[ag h];subst h;rw[jC,jC];by_cases h2:y=x;rw[ag h2,ag h2];rw[af h2,af h2,af h2];rw[af h,jC,jC,rO l x y v];by_cases h2:y=z;rw[ag h2,ag h2,af (λe=>h (e.symm.trans h2))];rw[af h2,af h2]
theorem CB {α:Type}{g:α->κ}{v:α->AV}:∀(l:List α)(x:κ),jC (l.map λa=>(g a,v a)) x=(l.find? λa=>decide (g a=x)).map v|[],_=>rfl|a::l,x=>by rw[bB,jC,qK,CB l x];by_cases h:x=g a;rw[ag h,ah h.symm];rfl;rw[af h,ai (eY h)]
end
def wD:acj Dg:=⟨λd=>.agg (cD d),sC,λa b=>VK a b,λa=>rfl⟩
def wI:acj bQ:=⟨λi=>.agg (cI i),Po,λa b=>aaA a b,λa=>rfl⟩
section
variable {κ:Type}[DecidableEq κ](W:acj κ)
theorem gq (ρ:List (Nat×Nat)):∀l:List (κ×AV),yO (FV.nm ρ) (kE W l)=kE W l|[]=>rfl|d::l=>by show((W.ke d.1,FV.p d.2)::yO (FV.nm ρ) (kE W l))=_;rw[gq ρ l];rfl
theorem cz (N:List Nat)(m:Nat):∀l:List (κ×AV),Lu N m (kE W l)=true|[]=>rfl|d::l=>cz N m l
end
theorem oA.arg2 {C:Ctx}{f:FuncId}{aK:List (Nat×List FV)}{m:Nat}{l:List (AV×FV)}{a x:FV}{y:AV}{R:AV->List (AV×FV)->Prop}(h:oA C f aK m l [a,.p y] R)(hx:x.fA=some y):oA C f aK m l [a,x] R:=⟨h.1,λbr loc mp w vs h1 h2 h3 h4 h5 h6=>h.2 br loc mp w vs h1 h2 h3 h4 h5 λi v z hv hz=>by
 match i,hz with
  |0,hz=>exact h6 0 v z hv hz
  |1,hz=>obtain rfl:=aq hz;exact .p _ _ ((h6 1 v x hv rfl).fA hx)
  |n+2,hz=>cases hz⟩
theorem oA.arg1 {C:Ctx}{f:FuncId}{aK:List (Nat×List FV)}{m:Nat}{l:List (AV×FV)}{a x:FV}{y:AV}{R:AV->List (AV×FV)->Prop}(h:oA C f aK m l [.p y,a] R)(hx:x.fA=some y):oA C f aK m l [x,a] R:=⟨h.1,λbr loc mp w vs h1 h2 h3 h4 h5 h6=>h.2 br loc mp w vs h1 h2 h3 h4 h5 λi v z hv hz=>by
 match i,hz with
  |0,hz=>obtain rfl:=aq hz;exact .p _ _ ((h6 0 v x hv rfl).fA hx)
  |1,hz=>exact h6 1 v z hv hz
  |n+2,hz=>cases hz⟩
section
variable {κ:Type}[DecidableEq κ]{W:acj κ}
theorem acM (ks:List Nat)(M:List (κ×AV)):ks.foldl (λc n=>yO (FV.kill n) c) (kE W M)=kE W M:=by
 induction ks with
 |nil=>rfl
 |cons k ks ih=>rw[fN,bL];exact ih
theorem iN {maps:List (Nat×List (AV×FV))}{o:Nat}{ρ:List (Nat×Nat)}(ks:List Nat){M:List (κ×AV)}(h:getM maps o=some (ks.foldl (λc n=>yO (FV.kill n) c) (kE W M))):getM maps o=some (yO (FV.nm ρ) (kE W M)):=by rw[h,acM,gq]
end
end Qv
