/- Part 13 of the proof: its lemmas. No condition. -/
import Derived.Test.YtiboombocnfngaaGreatDoorV1
import Derived.Test.YtiboombocnfngaaGreatDoorV3
import Derived.Test.YtiboombocnfngaaGreatDoorV4
set_option maxRecDepth 10000
set_option maxHeartbeats 80000000
set_option linter.all false
open Go Go.Proofs Go.RowKit
namespace Qv
theorem QJ (s:List cL)(x:cL)(d:Dg)(hx:s.find? (λx=>decide (x.id=d))=some x)(hl:s.length<=2^40):aq C 39 [.sl (eS s),.agg (cD d)] (λr=>r=.val (.eW [.agg (cP x.pat),.bool true])):=by unfold eS;refine ai Tryz.func39 rfl rfl rfl ?_;refine⟨[3],dy (cells:=aG (cD d)) (ys:=cD d) rfl (bC _) rfl ?_⟩;refine cl (Tm s 105 (.imp (cD d)) (λx=>decide (x.id=d)) (λx _=>Xg x d) oO) ?_;rcases Am (λx:cL=>decide (x.id=d)) s 0 with⟨-,h2⟩|⟨k,hk,h1,h2⟩;rw[hx]at h2;cases h2;rw[h1];rw[hx]at h2;obtain rfl:=au h2;refine aF (λh=>absurd h oO) (λ_=>?_);refine⟨oO,fU s[k],by rw[de];exact dL rfl hk,rfl,?_⟩;exact rfl
theorem GR (a b:Dg):nt (.agg (cD a)) (.agg (cD b))=decide (a=b):=PO a b
theorem afr (d:Dg):gL true qC (.agg (cD d))=true:=rfl
def dE (l:List Dg):List (AV×FV):=l.map λd=>(.agg (cD d),.p (.bool true))
def dK (l:List Dg):List AV:=l.map λd=>.agg (cD d)
def dV (l:List Dg):List AV:=l.map λ_=>.bool true
theorem DK (l:List Dg):∀p,p∈dE l->gL true qC p.1=true:=by intro p hp;obtain⟨d,-,rfl⟩:=aC.1 hp;exact afr d
theorem GS (l:List Dg)(d:Dg):sw (.agg (cD d)) (dE l)=if d∈l then some (.p (.bool true))else none:=by
 induction l with
 |nil=>rfl
 |cons x l ih=>show(match nt (.agg (cD d)) (.agg (cD x))with|true=>some (FV.p (.bool true))|false=>sw (.agg (cD d)) (dE l))=_;rw[GR,ih];by_cases h:d=x;subst h;rw[an rfl,ag (iN ..)];rw[ak h];by_cases h2:d∈l;rw[ag h2,ag (cR _ h2)];rw[af h2,af (by simp[h,h2])]
theorem agH {l:List Dg}{d:Dg}(h:d∉l):Bf (.agg (cD d)) (.p (.bool true)) (dE l)=dE (l++[d]):=by
 induction l with
 |nil=>rfl
 |cons x l ih=>show(match nt (.agg (cD d)) (.agg (cD x))with|true=>_|false=>(AV.agg (cD x),FV.p (.bool true))::Bf (.agg (cD d)) (.p (.bool true)) (dE l))=_;rw[GR,ak (λe=>h (by rw[e];simp)),ih (λg=>h (cR _ g))];rfl
theorem xC:∀l:List Dg,pT (dK l) (aG (dV l))=dE l|[]=>rfl|d::l=>by show(_::pT (dK l) (aG (dV l)))=_;rw[xC l];rfl
theorem UT:∀l:List Dg,gF (dE l)=dK l|[]=>rfl|d::l=>by show(_::gF (dE l))=_;rw[UT l];rfl
theorem UU:∀l:List Dg,FV.fe (tJ (dE l))=some (dV l)|[]=>rfl|d::l=>by show FV.fe (FV.p (.bool true)::tJ (dE l))=_;simp only[FV.fe,FV.eG,UU l];rfl
theorem UW (k:Nat):∀l:List Dg,uq (FV.kill k) (dE l)=dE l|[]=>rfl|d::l=>by show((AV.agg (cD d),FV.p (.bool true))::uq (FV.kill k) (dE l))=_;rw[UW k l];rfl
section
variable (N:gr->List Dg)
def gE (s:List cL):List (AV×FV):=s.map λx=>(.agg (cD x.id),.p (.sl (jW (N x.pat))))
def gKs (s:List cL):List AV:=s.map λx=>.agg (cD x.id)
def gVs (s:List cL):List AV:=s.map λx=>.sl (jW (N x.pat))
theorem UX (s:List cL):∀p,p∈gE N s->gL true qC p.1=true:=by intro p hp;obtain⟨d,-,rfl⟩:=aC.1 hp;exact afr d.id
theorem aej (s:List cL)(d:Dg):sw (.agg (cD d)) (gE N s)=(s.find? λx=>decide (x.id=d)).map λx=>.p (.sl (jW (N x.pat))):=by
 induction s with
 |nil=>rfl
 |cons x s ih=>show(match nt (.agg (cD d)) (.agg (cD x.id))with|true=>some (FV.p (.sl (jW (N x.pat))))|false=>sw (.agg (cD d)) (gE N s))=_;rw[GR,ih,kO];by_cases h:d=x.id;rw[an h,an h.symm];rfl;rw[ak h,ak (eu h)]
theorem agI {s:List cL}{x:cL}(h:x.id∉s.map λy=>y.id):Bf (.agg (cD x.id)) (.p (.sl (jW (N x.pat)))) (gE N s)=gE N (s++[x]):=by
 induction s with
 |nil=>rfl
 |cons y s ih=>show(match nt (.agg (cD x.id)) (.agg (cD y.id))with|true=>_|false=>(AV.agg (cD y.id),FV.p (.sl (jW (N y.pat))))::Bf (.agg (cD x.id)) (.p (.sl (jW (N x.pat)))) (gE N s))=_;rw[GR,ak (λe=>h (by rw[e];simp)),ih (λg=>h (by simp at g⊢;exact .inr g))];rfl
theorem Tp:∀s:List cL,pT (gKs s) (aG (gVs N s))=gE N s|[]=>rfl|x::s=>by show(_::pT (gKs s) (aG (gVs N s)))=_;rw[Tp s];rfl
theorem UY:∀s:List cL,gF (gE N s)=gKs s|[]=>rfl|x::s=>by show(_::gF (gE N s))=_;rw[UY s];rfl
theorem UZ:∀s:List cL,FV.fe (tJ (gE N s))=some (gVs N s)|[]=>rfl|x::s=>by show FV.fe (FV.p (.sl (jW (N x.pat)))::tJ (gE N s))=_;simp only[FV.fe,FV.eG,UZ s];rfl
theorem NL (k:Nat):∀s:List cL,uq (FV.kill k) (gE N s)=gE N s|[]=>rfl|x::s=>by show((AV.agg (cD x.id),FV.p (.sl (jW (N x.pat))))::uq (FV.kill k) (gE N s))=_;rw[NL k s];rfl
theorem gB {maps:List (Nat×List (AV×FV))}{o:Nat}{l0 l:List (AV×FV)}(h:getM maps o=some l0)(e:l0=l):∃l0,getM maps o=some l0/\l0.length=l.length/\∀(i:Nat)(p p':AV×FV),l0[i]?=some p->l[i]?=some p'->p'.1=p.1/\bh p.2 p'.2:=by subst e;exact Dc h
def NM (s:List cL):Prop:=∀x,x∈s->aq C 45 [.agg (cP x.pat)] (λr=>r=.val (.sl (jW (N x.pat))))
theorem QK (s:List cL)(hN:NM N s)(hn:(s.map λx=>x.id).Nodup)(hl:s.length<=2^40):aq C 148 [.sl (eS s)] (λr=>r=.val (.mp (gKs s) (gVs N s))):=by
 unfold eS;refine aY {opens:=[],JL:=[],full:=false} [] Tryz.func148 rfl rfl rfl ?_;refine tV 21 0 (λk:Nat=>[(3,.fG 6),(7,.p (.sl (s.map fU))),(8,.p (.int .i64 ((s.map fU).length:Int))),(9,.p (.int .i64 k))]) (λ_=>[]) (λ_=>[]) [] (λ_=>[]) (λk=>[(6,gE N (s.take k))]) (λ_=>[]) (λk=>k<=s.length) (λk=>s.length-k) 0 (zL) kK wS trivial trivial trivial ⟨Dc kK,trivial⟩ trivial ?_;intro k hk;refine cg (l:=s) (f:=fU) (λhlt=>?_) (λhge=>?_);have hne:=hN s[k] (aO _);have jD:(s.map fU)[((k:Nat):Int).toNat]?=some (fU s[k]):=dL rfl hlt;have hnew:s[k].id∉(s.take k).map λy=>y.id:=by
  intro hm;have h1:(s.map λx=>x.id)=(s.take k).map (λx=>x.id)++(s.drop k).map (λx=>x.id):=by rw[<-aD,dI]
  rw[h1,kz]at hn;exact hn.2.2 _ hm _ (aC.2 ⟨s[k],by rw[bZ hlt];exact iN ..,rfl⟩) rfl
 have hup:=agI N hnew;rw[<-dr hlt]at hup;generalize s[k]=x at hne jD hup;refine⟨oO,_,jD,rfl,?_⟩;refine bW 6 kK ?_;refine⟨_,hne.dz,?_⟩;refine⟨qC,bY,rfl,(by rw[NL];exact UX N _),gE N (s.take (k+1)),(by rw[NL];exact hup),?_⟩;exact nx (k+1) (oD (k+1) hlt oO kK wS trivial trivial trivial ⟨Dc kK,trivial⟩ trivial);obtain rfl:k=s.length:=oO
 rw[aU];exact⟨gKs s,gVs N s,⟨_,rfl,UY N s,UZ N s⟩,rfl⟩
theorem QL (d:Dg)(out:List Dg):aq C 150 [.agg (cD d),.imp [.mp (dK out) (dV out)]] (λr=>r=.val (.bool (!decide (d∈out)))):=by refine ai Tryz.func150 rfl rfl rfl ?_;by_cases h:d∈out;rw[an h];refine⟨qC,bY,rfl,(by rw[xC];exact DK out),some (.p (.bool true)),(by rw[xC];exact(GS out d).trans (ag h)),?_⟩;refine bH ?_;exact rfl;rw[ak h];refine⟨qC,bY,rfl,(by rw[xC];exact DK out),none,(by rw[xC];exact(GS out d).trans (af h)),.bool false,kK,?_⟩;refine bH ?_;exact rfl
def DL (out:List Dg)(x:cL):Bool:=!decide (x.id∈out)&&!((N x.pat).any λd=>!decide (d∈out))
theorem QM (s:List cL)(x:cL)(hx:s.find? (λy=>decide (y.id=x.id))=some x)(out:List Dg)(hl:(N x.pat).length<=2^47):aq C 149 [.agg (fU x),.imp [.mp (dK out) (dV out)],.imp [.mp (gKs s) (gVs N s)]] (λr=>r=.val (.bool (DL N out x))):=by refine aY {opens:=[],JL:=[],full:=false} [] Tryz.func149 rfl rfl rfl ?_;refine⟨none,?_⟩;unfold DL;by_cases h:x.id∈out;rw[an h];refine⟨qC,bY,rfl,(by rw[xC];exact DK out),some (.p (.bool true)),(by rw[xC];exact(GS out x.id).trans (ag h)),?_⟩;refine bH ?_;exact rfl;rw[ak h];refine⟨qC,bY,rfl,(by rw[xC];exact DK out),none,(by rw[xC];exact(GS out x.id).trans (af h)),.bool false,kK,?_⟩;refine bH ?_;refine⟨qC,bY,rfl,(by rw[Tp];exact UX N s),some (.p (.sl (jW (N x.pat)))),(by rw[Tp];exact(aej N s x.id).trans (by rw[hx];rfl)),?_⟩;refine⟨[],?_⟩;refine cl (Jm (N x.pat) 150 (.imp [.mp (dK out) (dV out)]) (λd=>!decide (d∈out)) (λd _=>QL d out) hl).dz ?_;refine bH ?_;exact rfl
def Gv (s:List cL):Nat->List Dg->List Dg|0,out=>out|n+1,out=>match s.find? (DL N out)with|none=>out|some x=>Gv s n (out++[x.id])
theorem aek {s:List cL}(hn:(s.map λx=>x.id).Nodup){x:cL}(hx:x∈s):s.find? (λy=>decide (y.id=x.id))=some x:=by
 induction s with
 |nil=>cases hx
 |cons y s ih=>rw[bR,mC]at hn;rw[kO];rcases aK.1 hx with rfl|hx;simp;have :y.id≠x.id:=λe=>hn.1 (aC.2 ⟨x,hx,e.symm⟩);rw[ak this];exact ih hn.2 hx
theorem QN (s:List cL)(hN:NM N s)(hn:(s.map λx=>x.id).Nodup)(hl:s.length<=2^30)(hNl:∀x,x∈s->(N x.pat).length<=2^47):aq C 77 [.sl (eS s)] (λr=>r=.val (.sl (jW (Gv N s s.length [])))):=by
 have hg:=QK N s hN hn oO;unfold eS at hg⊢;refine aY {opens:=[],JL:=[],full:=false} [] Tryz.func77 rfl rfl rfl ?_;refine cl hg.dz ?_;refine tV 35 0 (λx:Nat×List Dg=>[(0,.p (.sl (s.map fU))),(3,.ptr 3 0),(4,.ptr 4 0),(5,.fM 32 33 32 (jW x.2)),(11,.p (.int .i64 ((s.map fU).length:Int))),(12,.p (.int .i64 x.1))]) (λ_=>[(3,[.p (.mp (gKs s) (gVs N s))]),(4,[.fG 9])]) (λ_=>[]) [] (λ_=>[]) (λx=>[(9,dE x.2)]) (λ_=>[]) (λx=>x.1<=s.length/\x.2.length<=x.1/\Gv N s s.length []=Gv N s (s.length-x.1) x.2) (λx=>s.length-x.1) (0,[]) ⟨zL,aA _,rfl⟩ kK ⟨bh.eq kK,bh.eq kK,bh.eq kK,bh.jK _ _ _,bh.eq kK,bh.eq kK,trivial⟩ oS trivial trivial ⟨Dc kK,trivial⟩ trivial ?_;rintro⟨k,out⟩ ⟨hk,WA,hE⟩;have hk:k<=s.length:=hk;have WA:out.length<=k:=WA;have hE:Gv N s s.length []=Gv N s (s.length-k) out:=hE;refine cg (l:=s) (f:=fU) (λhlt=>?_) (λhge=>?_);rw[show s.length-k=(s.length-(k+1))+1 from oO]at hE;have hE:Gv N s s.length []=(match s.find? (DL N out)with|none=>out|some x=>Gv N s (s.length-(k+1)) (out++[x.id])):=hE;refine⟨[],?_⟩;refine .inr (.inl (.inr ⟨[.sl (s.map fU),.fn (.func 149) [] [.imp [.mp (dK out) (dV out)],.imp [.mp (gKs s) (gVs N s)]]],_,.cons (.plain rfl) (.cons (.fn .nil (.cons (.ptr rfl (.cons (.fG rfl (UT out) (.plain (UU out))) .nil) (λy hy=>by rw[aP.1 hy];rfl)) (.cons (.ptr rfl (.plain rfl) (λy hy=>by rw[aP.1 hy];rfl)) .nil))) .nil),(Tn s 149 _ _ (DL N out) (λx hx=>QM N s x (aek hn hx) out (hNl x hx)) oO).dz,λr hr=>?_⟩));subst hr;refine⟨⟨_,rfl,rfl⟩,?_⟩;rcases Am (DL N out) s 0 with⟨h1,h2⟩|⟨i,hi,h1,h2⟩;rw[h1];rw[h2]at hE;refine aF (λ_=>?_) (λh=>absurd (show(-1:Int)<0 by decide) h);rw[hE];exact .inr rfl;rw[h1];rw[h2]at hE;refine aF (λh=>absurd h oO) (λ_=>?_);have AQ:=mG h2;have hnew:s[i].id∉out:=by unfold DL at AQ;simp only[br,dY,decide_eq_false_iff_not]at AQ;exact AQ.1
 have jD:(s.map fU)[((0+i:Nat):Int).toNat]?=some (fU s[i]):=by rw[de];exact dL rfl hi
 generalize s[i]=x at hE hnew jD;refine bW 6 kK ?_;refine⟨oO,_,jD,rfl,?_⟩;refine⟨qC,bY,rfl,DK out,dE (out++[x.id]),agH hnew,?_⟩;refine⟨oO,_,jD,rfl,?_⟩;refine⟨(λzs hz=>by obtain⟨y,-,rfl⟩:=aC.1 hz;rfl),(λzs h=>by rw[aP.1 h];rfl),by show((jW out).length+1)*32<=_;rw[show(jW out).length=out.length from by simp[jW]];omega,jW (out++[x.id]),by unfold jW;rw[aD];rfl,?_⟩;exact nx (k+1) (oD (k+1,out++[x.id]) ⟨hlt,by show(out++[x.id]).length<=k+1;rw[ay];simp only[ic];omega,hE⟩ (by show s.length-(k+1)<s.length-k;omega) kK wS oS trivial trivial ⟨gB rfl (by simp only[UW]),trivial⟩ trivial);obtain rfl:k=s.length:=oO
 rw[Nat.sub_self]at hE;have hE:Gv N s s.length []=out:=hE;rw[hE];exact .inr rfl
end
structure abv (κ:Type)[DecidableEq κ] where
 ke:κ->AV
 L:List gJ
 same:∀a b,nt (ke a) (ke b)=decide (a=b)
 fits:∀a,gL true L (ke a)=true
section
variable {κ:Type}[DecidableEq κ](W:abv κ)
def kE (l:List (κ×AV)):List (AV×FV):=l.map λp=>(W.ke p.1,.p p.2)
def kY (l:List (κ×AV)):List AV:=l.map λp=>W.ke p.1
def kV (l:List (κ×AV)):List AV:=l.map λp=>p.2
def kMp (l:List (κ×AV)):AV:=.mp (kY W l) (kV l)
def jd:List (κ×AV)->κ->Option AV|[],_=>none|(y,v)::l,x=>if x=y then some v else jd l x
def ur:List (κ×AV)->κ->AV->List (κ×AV)|[],x,v=>[(x,v)]|(y,w)::l,x,v=>if x=y then(x,v)::l else(y,w)::ur l x v
theorem iP (l:List (κ×AV)):∀p,p∈kE W l->gL true W.L p.1=true:=by intro p hp;obtain⟨d,-,rfl⟩:=aC.1 hp;exact W.fits d.1
theorem rM:∀(l:List (κ×AV))(x:κ),sw (W.ke x) (kE W l)=(jd l x).map FV.p|[],_=>rfl|(y,v)::l,x=>by show(match nt (W.ke x) (W.ke y)with|true=>some (FV.p v)|false=>sw (W.ke x) (kE W l))=_;rw[W.same,rM l x,jd];by_cases h:x=y;rw[an h,ag h];rfl;rw[ak h,af h]
theorem xI:∀(l:List (κ×AV))(x:κ)(v:AV),Bf (W.ke x) (.p v) (kE W l)=kE W (ur l x v)|[],_,_=>rfl|(y,w)::l,x,v=>by show(match nt (W.ke x) (W.ke y)with|true=>(W.ke x,FV.p v)::kE W l|false=>(W.ke y,FV.p w)::Bf (W.ke x) (.p v) (kE W l))=_;rw[W.same,xI l x v,ur];by_cases h:x=y;rw[an h,ag h];rfl;rw[ak h,af h];rfl
theorem nM:∀l:List (κ×AV),pT (kY W l) (aG (kV l))=kE W l|[]=>rfl|d::l=>by show(_::pT (kY W l) (aG (kV l)))=_;rw[nM l];rfl
theorem He:∀l:List (κ×AV),gF (kE W l)=kY W l|[]=>rfl|d::l=>by show(_::gF (kE W l))=_;rw[He l];rfl
theorem Hf:∀l:List (κ×AV),FV.fe (tJ (kE W l))=some (kV l)|[]=>rfl|d::l=>by show FV.fe (FV.p d.2::tJ (kE W l))=_;simp only[FV.fe,FV.eG,Hf l];rfl
theorem bG (k:Nat):∀l:List (κ×AV),uq (FV.kill k) (kE W l)=kE W l|[]=>rfl|d::l=>by show((W.ke d.1,FV.p d.2)::uq (FV.kill k) (kE W l))=_;rw[bG k l];rfl
theorem Vp:∀{l:List (κ×AV)}{x:κ}{v:AV},x∉l.map (·.1)->ur l x v=l++[(x,v)]|[],_,_,_=>rfl|(y,w)::l,x,v,h=>by rw[ur,af (λe=>h (by rw[e];simp)),Vp λg=>h (by simp at g⊢;exact .inr g)];rfl
theorem abw:∀{l:List (κ×AV)}{x:κ}{v:FV},x∉l.map (·.1)->Bf (W.ke x) v (kE W l)=kE W l++[(W.ke x,v)]|[],_,_,_=>rfl|(y,w)::l,x,v,h=>by show(match nt (W.ke x) (W.ke y)with|true=>(W.ke x,v)::kE W l|false=>(W.ke y,FV.p w)::Bf (W.ke x) v (kE W l))=_;rw[W.same,ak (λe=>h (by rw[e];simp)),abw λg=>h (by simp at g⊢;exact .inr g)];rfl
theorem Xp {maps:List (Nat×List (AV×FV))}{o:Nat}{l0:List (AV×FV)}{k:AV}{v v':FV}(h:getM maps o=some (l0++[(k,v)])){l:List (AV×FV)}(e:l=l0++[(k,v')])(hw:bh v v'):∃l1,getM maps o=some l1/\l1.length=l.length/\∀(i:Nat)(p p':AV×FV),l1[i]?=some p->l[i]?=some p'->p'.1=p.1/\bh p.2 p'.2:=by
 subst e;refine⟨_,h,by simp,λi p p' h1 h2=>?_⟩;by_cases hi:i<l0.length;rw[cG hi]at h1 h2;rw[h1]at h2;obtain rfl:=au h2;exact⟨rfl,bh.refl _⟩;rw[dH oO]at h1 h2;cases hj:i-l0.length with
 |zero=>rw[hj]at h1 h2;cases h1;cases h2;exact⟨rfl,hw⟩
 |succ n=>rw[hj]at h1;cases h1
theorem rD:∀(l:List (κ×AV))(x y:κ)(v:AV),jd (ur l x v) y=if y=x then some v else jd l y|[],x,y,v=>rfl|(z,w)::l,x,y,v=>by rw[ur];by_cases h:x=z;rw[ag h];subst h;rw[jd,jd];by_cases h2:y=x;rw[ag h2,ag h2];rw[af h2,af h2,af h2];rw[af h,jd,jd,rD l x y v];by_cases h2:y=z;rw[ag h2,ag h2,af (λe=>h (e.symm.trans h2))];rw[af h2,af h2]
theorem BV {α:Type}{g:α->κ}{v:α->AV}:∀(l:List α)(x:κ),jd (l.map λa=>(g a,v a)) x=(l.find? λa=>decide (g a=x)).map v|[],_=>rfl|a::l,x=>by rw[bR,jd,kO,BV l x];by_cases h:x=g a;rw[ag h,an h.symm];rfl;rw[af h,ak (eu h)]
end
def wD:abv Dg:=⟨λd=>.agg (cD d),qC,λa b=>PO a b,λa=>rfl⟩
def wI:abv bV:=⟨λi=>.agg (cI i),Oh,λa b=>Zy a b,λa=>rfl⟩
section
variable {κ:Type}[DecidableEq κ](W:abv κ)
theorem fE (ρ:List (Nat×Nat)):∀l:List (κ×AV),uq (FV.nm ρ) (kE W l)=kE W l|[]=>rfl|d::l=>by show((W.ke d.1,FV.p d.2)::uq (FV.nm ρ) (kE W l))=_;rw[fE ρ l];rfl
theorem cr (N:List Nat)(m:Nat):∀l:List (κ×AV),KG N m (kE W l)=true|[]=>rfl|d::l=>cr N m l
end
theorem oz.arg2 {C:Ctx}{f:FuncId}{aI:List (Nat×List FV)}{m:Nat}{l:List (AV×FV)}{a x:FV}{y:AV}{R:AV->List (AV×FV)->Prop}(h:oz C f aI m l [a,.p y] R)(hx:x.eG=some y):oz C f aI m l [a,x] R:=⟨h.1,λbk loc mp w vs h1 h2 h3 h4 h5 h6=>h.2 bk loc mp w vs h1 h2 h3 h4 h5 λi v z hv hz=>by
 match i,hz with
  |0,hz=>exact h6 0 v z hv hz
  |1,hz=>obtain rfl:=au hz;exact .p _ _ ((h6 1 v x hv rfl).eG hx)
  |n+2,hz=>cases hz⟩
theorem oz.arg1 {C:Ctx}{f:FuncId}{aI:List (Nat×List FV)}{m:Nat}{l:List (AV×FV)}{a x:FV}{y:AV}{R:AV->List (AV×FV)->Prop}(h:oz C f aI m l [.p y,a] R)(hx:x.eG=some y):oz C f aI m l [x,a] R:=⟨h.1,λbk loc mp w vs h1 h2 h3 h4 h5 h6=>h.2 bk loc mp w vs h1 h2 h3 h4 h5 λi v z hv hz=>by
 match i,hz with
  |0,hz=>obtain rfl:=au hz;exact .p _ _ ((h6 0 v x hv rfl).eG hx)
  |1,hz=>exact h6 1 v z hv hz
  |n+2,hz=>cases hz⟩
section
variable {κ:Type}[DecidableEq κ]{W:abv κ}
theorem abK (ks:List Nat)(M:List (κ×AV)):ks.foldl (λc n=>uq (FV.kill n) c) (kE W M)=kE W M:=by
 induction ks with
 |nil=>rfl
 |cons k ks ih=>rw[fI,bG];exact ih
theorem iq {maps:List (Nat×List (AV×FV))}{o:Nat}{ρ:List (Nat×Nat)}(ks:List Nat){M:List (κ×AV)}(h:getM maps o=some (ks.foldl (λc n=>uq (FV.kill n) c) (kE W M))):getM maps o=some (uq (FV.nm ρ) (kE W M)):=by rw[h,abK,fE]
end
end Qv
