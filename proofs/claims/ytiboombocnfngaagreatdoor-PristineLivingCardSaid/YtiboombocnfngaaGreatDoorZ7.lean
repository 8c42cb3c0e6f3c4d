/- Part 13 of the proof: its lemmas. No condition. -/
import Derived.Test.YtiboombocnfngaaGreatDoorZ1
import Derived.Test.YtiboombocnfngaaGreatDoorZ2
import Derived.Test.YtiboombocnfngaaGreatDoorZ3
set_option maxRecDepth 10000
set_option maxHeartbeats 80000000
set_option linter.all false
open Go Go.Proofs Go.RowKit
namespace Qv
theorem QA (s:List fk)(x:fk)(d:Dg)(hx:s.find? (λx=>decide (x.id=d))=some x)(hl:s.length<=2^40):au C 39 [.sl (jR s),.agg (cD d)] (λr=>r=.val (.eS [.agg (cP x.pat),.bool true])):=by unfold jR;refine aq Tryz.func39 rfl rfl rfl ⟨[3],cZ (cells:=aI (cD d)) (ys:=cD d) rfl (bu _) rfl (cl (Th s 105 (.imp (cD d)) (λx=>decide (x.id=d)) (λx _=>Xh x d) oO) ?_)⟩;rcases zP (λx:fk=>decide (x.id=d)) s 0 with⟨-,h2⟩|⟨k,hk,h1,h2⟩;rw[hx]at h2;cases h2;rw[h1];rw[hx]at h2;obtain rfl:=ak h2;refine aQ (λh=>absurd h oO) (λ_=>?_);refine⟨oO,mP s[k],by rw[dn];exact fh rfl hk,rfl,?_⟩;exact rfl
section
variable (N:iA->List Dg)
theorem bY {maps:List (Nat×List (AV×FV))}{o:Nat}{l0 l:List (AV×FV)}(h:getM maps o=some l0)(e:l0=l):∃l0,getM maps o=some l0/\l0.length=l.length/\∀(i:Nat)(p p':AV×FV),l0[i]?=some p->l[i]?=some p'->p'.1=p.1/\bt p.2 p'.2:=by subst e;exact Zs h
end
structure aa5 (κ:Type)[DecidableEq κ] where
 ke:κ->AV
 L:List gC
 same:∀a b,qd (ke a) (ke b)=decide (a=b)
 fits:∀a,ij true L (ke a)=true
section
variable {κ:Type}[DecidableEq κ](W:aa5 κ)
def kE (l:List (κ×AV)):List (AV×FV):=l.map λp=>(W.ke p.1,.p p.2)
def kY (l:List (κ×AV)):List AV:=l.map λp=>W.ke p.1
def kV (l:List (κ×AV)):List AV:=l.map λp=>p.2
def kMp (l:List (κ×AV)):AV:=.mp (kY W l) (kV l)
def iE:List (κ×AV)->κ->Option AV|[],_=>none|(y,v)::l,x=>if x=y then some v else iE l x
def tG:List (κ×AV)->κ->AV->List (κ×AV)|[],x,v=>[(x,v)]|(y,w)::l,x,v=>if x=y then(x,v)::l else(y,w)::tG l x v
theorem fD (l:List (κ×AV)):∀p,p∈kE W l->ij true W.L p.1=true:=by intro p hp;obtain⟨d,-,rfl⟩:=aB.1 hp;exact W.fits d.1
theorem ot:∀(l:List (κ×AV))(x:κ),tQ (W.ke x) (kE W l)=(iE l x).map FV.p|[],_=>rfl|(y,v)::l,x=>by show(match qd (W.ke x) (W.ke y)with|true=>some (FV.p v)|false=>tQ (W.ke x) (kE W l))=_;rw[W.same,ot l x,iE];by_cases h:x=y;rw[ai h,af h];rfl;rw[ah h,aa h]
theorem uy:∀(l:List (κ×AV))(x:κ)(v:AV),Gd (W.ke x) (.p v) (kE W l)=kE W (tG l x v)|[],_,_=>rfl|(y,w)::l,x,v=>by show(match qd (W.ke x) (W.ke y)with|true=>(W.ke x,FV.p v)::kE W l|false=>(W.ke y,FV.p w)::Gd (W.ke x) (.p v) (kE W l))=_;rw[W.same,uy l x v,tG];by_cases h:x=y;rw[ai h,af h];rfl;rw[ah h,aa h];rfl
theorem mV:∀l:List (κ×AV),qS (kY W l) (aI (kV l))=kE W l|[]=>rfl|d::l=>by show(_::qS (kY W l) (aI (kV l)))=_;rw[mV l];rfl
theorem DH:∀l:List (κ×AV),iF (kE W l)=kY W l|[]=>rfl|d::l=>by show(_::iF (kE W l))=_;rw[DH l];rfl
theorem DI:∀l:List (κ×AV),FV.fQ (AS (kE W l))=some (kV l)|[]=>rfl|d::l=>by show FV.fQ (FV.p d.2::AS (kE W l))=_;simp only[FV.fQ,FV.eW,DI l];rfl
theorem aY (k:Nat):∀l:List (κ×AV),uF (FV.kill k) (kE W l)=kE W l|[]=>rfl|d::l=>by show((W.ke d.1,FV.p d.2)::uF (FV.kill k) (kE W l))=_;rw[aY k l];rfl
theorem NO:∀{l:List (κ×AV)}{x:κ}{v:AV},x∉l.map (·.1)->tG l x v=l++[(x,v)]|[],_,_,_=>rfl|(y,w)::l,x,v,h=>by rw[tG,aa (λe=>h (by rw[e];simp)),NO λg=>h (by simp at g⊢;exact .inr g)];rfl
theorem aa6:∀{l:List (κ×AV)}{x:κ}{v:FV},x∉l.map (·.1)->Gd (W.ke x) v (kE W l)=kE W l++[(W.ke x,v)]|[],_,_,_=>rfl|(y,w)::l,x,v,h=>by show(match qd (W.ke x) (W.ke y)with|true=>(W.ke x,v)::kE W l|false=>(W.ke y,FV.p w)::Gd (W.ke x) v (kE W l))=_;rw[W.same,ah (λe=>h (by rw[e];simp)),aa6 λg=>h (by simp at g⊢;exact .inr g)];rfl
theorem Xx {maps:List (Nat×List (AV×FV))}{o:Nat}{l0:List (AV×FV)}{k:AV}{v v':FV}(h:getM maps o=some (l0++[(k,v)])){l:List (AV×FV)}(e:l=l0++[(k,v')])(hw:bt v v'):∃l1,getM maps o=some l1/\l1.length=l.length/\∀(i:Nat)(p p':AV×FV),l1[i]?=some p->l[i]?=some p'->p'.1=p.1/\bt p.2 p'.2:=by
 subst e;refine⟨_,h,by simp,λi p p' h1 h2=>?_⟩;by_cases hi:i<l0.length;rw[cV hi]at h1 h2;rw[h1]at h2;obtain rfl:=ak h2;exact⟨rfl,bt.refl _⟩;rw[eu oO]at h1 h2;cases hj:i-l0.length with
 |zero=>rw[hj]at h1 h2;cases h1;cases h2;exact⟨rfl,hw⟩
 |succ n=>rw[hj]at h1;cases h1
theorem qI:∀(l:List (κ×AV))(x y:κ)(v:AV),iE (tG l x v) y=if y=x then some v else iE l y|[],x,y,v=>rfl|(z,w)::l,x,y,v=>by rw[tG];by_cases h:x=z;rw[af h];subst h;rw[iE,iE];by_cases h2:y=x;rw[af h2,af h2];rw[aa h2,aa h2,aa h2];rw[aa h,iE,iE,qI l x y v];by_cases h2:y=z;rw[af h2,af h2,aa (λe=>h (e.symm.trans h2))];rw[aa h2,aa h2]
theorem BE {α:Type}{g:α->κ}{v:α->AV}:∀(l:List α)(x:κ),iE (l.map λa=>(g a,v a)) x=(l.find? λa=>decide (g a=x)).map v|[],_=>rfl|a::l,x=>by rw[bw,iE,pO,BE l x];by_cases h:x=g a;rw[af h,ai h.symm];rfl;rw[aa h,ah (cU h)]
end
def wD:aa5 Dg:=⟨λd=>.agg (cD d),vp,λa b=>UL a b,λa=>rfl⟩
def wI:aa5 bB:=⟨λi=>.agg (cI i),FB,λa b=>UM a b,λa=>rfl⟩
section
variable {κ:Type}[DecidableEq κ](W:aa5 κ)
theorem dB (ρ:List (Nat×Nat)):∀l:List (κ×AV),uF (FV.nm ρ) (kE W l)=kE W l|[]=>rfl|d::l=>by show((W.ke d.1,FV.p d.2)::uF (FV.nm ρ) (kE W l))=_;rw[dB ρ l];rfl
theorem bV (N:List Nat)(m:Nat):∀l:List (κ×AV),KA N m (kE W l)=true|[]=>rfl|d::l=>bV N m l
end
theorem nL.arg2 {C:Ctx}{f:FuncId}{aD:List (Nat×List FV)}{m:Nat}{l:List (AV×FV)}{a x:FV}{y:AV}{R:AV->List (AV×FV)->Prop}(h:nL C f aD m l [a,.p y] R)(hx:x.eW=some y):nL C f aD m l [a,x] R:=⟨h.1,λbh loc mp w vs h1 h2 h3 h4 h5 h6=>h.2 bh loc mp w vs h1 h2 h3 h4 h5 λi v z hv hz=>by
 match i,hz with
  |0,hz=>exact h6 0 v z hv hz
  |1,hz=>obtain rfl:=ak hz;exact .p _ _ ((h6 1 v x hv rfl).eW hx)
  |n+2,hz=>cases hz⟩
theorem nL.arg1 {C:Ctx}{f:FuncId}{aD:List (Nat×List FV)}{m:Nat}{l:List (AV×FV)}{a x:FV}{y:AV}{R:AV->List (AV×FV)->Prop}(h:nL C f aD m l [.p y,a] R)(hx:x.eW=some y):nL C f aD m l [x,a] R:=⟨h.1,λbh loc mp w vs h1 h2 h3 h4 h5 h6=>h.2 bh loc mp w vs h1 h2 h3 h4 h5 λi v z hv hz=>by
 match i,hz with
  |0,hz=>obtain rfl:=ak hz;exact .p _ _ ((h6 0 v x hv rfl).eW hx)
  |1,hz=>exact h6 1 v z hv hz
  |n+2,hz=>cases hz⟩
section
variable {κ:Type}[DecidableEq κ]{W:aa5 κ}
theorem abv (ks:List Nat)(M:List (κ×AV)):ks.foldl (λc n=>uF (FV.kill n) c) (kE W M)=kE W M:=by
 induction ks with
 |nil=>rfl
 |cons k ks ih=>rw[fc,aY];exact ih
theorem gL {maps:List (Nat×List (AV×FV))}{o:Nat}{ρ:List (Nat×Nat)}(ks:List Nat){M:List (κ×AV)}(h:getM maps o=some (ks.foldl (λc n=>uF (FV.kill n) c) (kE W M))):getM maps o=some (uF (FV.nm ρ) (kE W M)):=by rw[h,abv,dB]
end
end Qv
