/- Part 32 of the proof: its lemmas. No condition. -/
import Derived.Test.YtiboombocnfngaaGreatDoorZ1
import Derived.Test.YtiboombocnfngaaGreatDoorZ3
import Derived.Test.YtiboombocnfngaaGreatDoorZ9
import Derived.Test.YtiboombocnfngaaGreatDoorZ12
import Derived.Test.YtiboombocnfngaaGreatDoorZ18
import Derived.Test.YtiboombocnfngaaGreatDoorZ19
import Derived.Test.YtiboombocnfngaaGreatDoorZ21
import Derived.Test.YtiboombocnfngaaGreatDoorZ22
import Derived.Test.YtiboombocnfngaaGreatDoorZ23
set_option maxRecDepth 10000
set_option maxHeartbeats 80000000
set_option linter.all false
open Go Go.Proofs Go.RowKit
namespace Qv
theorem QT (D:List fk):qb (rJ D)=D.map λy=>y.id:=by unfold qb rJ knF;rw[dV];rfl
theorem TG {s D:List fk}(h:GO s)(hD:∀y,y∈D->y∈s)(hl:D.length<400){x:fk}(hx:x∈s)(hn:x.id∉D.map λy=>y.id):BA (rJ D) x=if oM (D.map λy=>y.id) (bU x.pat)=true then(kO (rJ D) x,0)else(nI,19):=by have hid:=h.idE hx;unfold BA;rw[QT,aa (by rw[hid];simp),aa (by rw[hid];simp),aa hn];by_cases ha:oM (D.map λy=>y.id) (bU x.pat)=true;rw[aa (by rw[ha];decide),af ha];have h0:=Xw h hD hx (λd hd=>by have :=br.1 ha d hd;simpa using this);rw[aa (λg=>g h0),aa (by show¬400<=(D.map knF).length;rw[aj];omega)];rw[aa ha,af (by simpa using ha)]
theorem XA {s D:List fk}(h:GO s)(ha:qF D)(hD:∀y,y∈D->y∈s)(hl:D.length<=400):adV (rJ D):=by
 have hlen:∀D:List fk,(∀y,y∈D->y∈s)->(D.flatMap λx=>jJ x.pat).length<=100000*D.length:=λD=>by
  induction D with
  |nil=>intro _;exact av _
  |cons y D ih=>
   intro hD;rw[pR,ay,aS];have h1:=ih λz hz=>hD z (.tail _ hz);have hq:=h.q y (hD y (.head _));have h2:(jJ y.pat).length<=100000:=by rw[yY hq,aj];exact hq.few
   omega
 refine⟨?_,?_,by show(D.map knF).length<=_;rw[aj];omega,by have :=hlen D hD;show(D.flatMap λx=>jJ x.pat).length<=_;omega⟩;have :(rJ D).pats.map (λk=>k.id)=D.map λy=>y.id:=QT D;rw[this];exact Vc ha;have hpw:(D.flatMap λx=>jJ x.pat).Pairwise λa b=>gq a.id b.id<0:=by rw[DK];refine⟨λx hx=>?_,List.Pairwise.imp_of_mem (λ{x y} hx hy hxy=>?_) ha⟩;rw[eR];intro i j hi hj hij;rw[By h (hD x hx) i hi,By h (hD x hx) j hj];exact LB oO;intro a ha b hb;obtain⟨i,hi,rfl⟩:=dr ha;obtain⟨j,hj,rfl⟩:=dr hb;rw[By h (hD x hx) i hi,By h (hD y hy) j hj];exact Xj hxy
 show((D.flatMap λx=>jJ x.pat).map λa=>a.id).Nodup;rw[Dv,Dw];exact hpw.imp λ{a b} hab e=>by rw[e]at hab;have :=nB b.id b.id;omega
def Uh (s:List fk)(d:Dg):Nat:=(s.filter λx=>decide (dA x.id d<0)).length
theorem aef {s:List fk}{d:Dg}{k:Nat}(hk:k<=s.length)(h1:∀j (h:j<s.length),j<k->dA s[j].id d<0)(h2:∀j (h:j<s.length),k<=j->¬dA s[j].id d<0):Uh s d=k:=by
 unfold Uh;have e:s.filter (λx=>decide (dA x.id d<0))=s.take k:=by
  conv=>lhs;rw[<-dU k s]
  rw[mj,List.filter_eq_self.2 (λx hx=>?_),List.filter_eq_nil_iff.2 (λx hx=>?_),aW];obtain⟨j,hj,rfl⟩:=dr hx;rw[List.getElem_drop];rw[eo]at hj;simpa using h2 (k+j) oO oO;obtain⟨j,hj,rfl⟩:=dr hx;rw[wN];rw[aN]at hj;exact ai (h1 j oO oO)
 rw[e,aN];omega
theorem ajh {n:Nat}(h:n<=9223372036854775807):IntKind.u64.wrap ((n:Nat):Int)=(n:Int):=by
 have h1:(0:Int)<=(n:Int):=oO
 have h2:((n:Nat):Int)<=9223372036854775807:=oO
 generalize((n:Nat):Int)=m at h1 h2;unfold IntKind.wrap;simp[IntKind.bits,IntKind.signed];omega
theorem abL (n:Nat):((n:Nat):Int).fdiv (2^(min (1:Int).toNat IntKind.u64.bits))=((n/2:Nat):Int):=by show((n:Nat):Int).fdiv 2=_;rw[CT _ dD];omega
theorem Mc (x:fk)(d:Dg):au C 157 [.agg (mP x),.agg (cD d)] (λr=>r=.val (.int .i64 (dA x.id d))):=by exact aq Tryz.func157 rfl rfl rfl (cl (Io x.id d) rfl)
theorem abM {s:List fk}(hA:qF s)(hl:s.length<=2^40)(d:Dg):au C 156 [.sl (jR s),.agg (cD d),.fn (.func 157) [] []] (λr=>r=.val (.eS [.int .i64 (Uh s d:Int),.bool (decide (d∈gO s))])):=by
 unfold jR;refine bn qz [] Tryz.func156 rfl rfl rfl ?_;refine bW 49 (λx:Nat×Nat=>[(0,.p (.sl (s.map mP))),(2,.p (.fn (.func 157) [] [])),(4,.ptr 4 0),(8,.p (.int .i64 ((s.map mP).length:Int))),(9,.p (.int .i64 (x.1:Int))),(10,.p (.int .i64 (x.2:Int)))]) (λ_=>[(4,aI (cD d))]) (λx=>x.1<=x.2/\x.2<=s.length/\(∀j (h:j<s.length),j<x.1->dA s[j].id d<0)/\(∀j (h:j<s.length),x.2<=j->¬dA s[j].id d<0)) (λx=>x.2-x.1) (0,s.length) ⟨zL,av _,λj h g=>absurd g (kC _),λj h g=>absurd h (by have g:s.length<=j:=g;omega)⟩ kK (by rw[show(s.length:Int)=((s.map mP).length:Int)by rw[aj]];exact wS) oS ?_;rintro⟨a,b⟩ ⟨h1,h2,h3,h4⟩;have h1:a<=b:=h1;have h2:b<=s.length:=h2;refine aQ (λhlt=>?_) (λhge=>?_);have hlt:a<b:=by have hlt:(a:Int)<(b:Int):=hlt;omega
 refine nx (a+b) ⟨((a+b:Nat):Int),ajh oO,?_⟩;refine⟨dD,(((a+b)/2:Nat):Int),abL _,?_⟩;refine⟨_,wrap64 oO oO,?_⟩;obtain⟨m,hm⟩:∃m,(a+b)/2=m:=⟨_,rfl⟩;have hma:a<=m/\m<b:=oO
 rw[hm];have xo:m<s.length:=oO
 have gP:(s.map mP)[((m:Nat):Int).toNat]?=some (mP s[m]):=fh rfl xo;refine cw 7 kK ⟨oO,_,gP,rfl,?_⟩;refine⟨_,(Mc s[m] d).dY,?_⟩;have hlo:∀j (h:j<s.length),j<=m->dA s[j].id s[m].id<=0:=λj h g=>by by_cases e:j=m;subst e;rw[qC];exact Int.le_refl _;exact Int.le_of_lt (eR.1 hA j m h xo oO)
 refine aQ (λhc=>?_) (λhc=>?_);have hc:dA s[m].id d<0:=hc;refine nx (m+1) (aU (m+1,b) ⟨hma.2,h2,λj h g=>?_,h4⟩ (by show b-(m+1)<b-a;omega) kK wS oS);by_cases e:j=m;subst e;exact hc;exact ic (eR.1 hA j m h xo (by have g:j<m+1:=g;omega)) hc;have hc:¬dA s[m].id d<0:=hc;refine aU (a,m) ⟨hma.1,by show m<=s.length;omega,h3,λj h g q=>?_⟩ (by show m-a<b-a;omega) kK wS oS;by_cases e:j=m;subst e;exact hc q;exact hc (ic (eR.1 hA m j xo h (by have g:m<=j:=g;omega)) q);obtain rfl:a=b:=by have hge:¬(a:Int)<(b:Int):=hge;omega
 have alq:=aef h2 h3 h4;rw[alq];refine cw 15 kK (aQ (λhlt=>?_) (λhge=>?_));have hlt:a<s.length:=by have hlt:(a:Int)<((s.map mP).length:Int):=hlt;rw[aj]at hlt;omega
 have gP:(s.map mP)[((a:Nat):Int).toNat]?=some (mP s[a]):=fh rfl hlt;refine⟨oO,_,gP,rfl,?_⟩;refine⟨_,(Mc s[a] d).dY,aH (λe=>?_) (λe=>?_)⟩;have e:dA s[a].id d=0:=e;rw[ai (show d∈gO s from aB.2 ⟨s[a],aT _,jU e⟩)];exact rfl;have e:¬dA s[a].id d=0:=e;rw[ah (show d∉gO s fromλhm=>?_)];exact rfl;obtain⟨x,hx,rfl⟩:=aB.1 hm;obtain⟨j,hj,rfl⟩:=dr hx;rcases sJ j a with g|g|g;have :=h3 j hj g;rw[qC]at this;exact absurd this dD;subst g;exact e (qC _);exact h4 a hlt (av _) (eR.1 hA a j hlt hj g);have hge:s.length<=a:=by have hge:¬(a:Int)<((s.map mP).length:Int):=hge;rw[aj]at hge;omega
 rw[ah (show d∉gO s fromλhm=>?_)];exact rfl;obtain⟨x,hx,rfl⟩:=aB.1 hm;obtain⟨j,hj,rfl⟩:=dr hx;have :=h3 j hj oO;rw[qC]at this;exact absurd this dD
theorem zl {s:List fk}(hA:qF s)(hl:s.length<=2^40)(d:Dg):au C 82 [.sl (jR s),.agg (cD d)] (λr=>r=.val (.eS [.int .i64 (Uh s d:Int),.bool (decide (d∈gO s))])):=by exact aq Tryz.func82 rfl rfl rfl (cl (abM hA hl d) rfl)
theorem Rt {s:List fk}(hA:qF s)(hl:s.length<=2^40)(d:Dg):au C 147 [.agg (cD d),.imp [.sl (jR s)]] (λr=>r=.val (.bool (!decide (d∈gO s)))):=by exact aq Tryz.func147 rfl rfl rfl (cl (zl hA hl d) (bR rfl))
theorem Jz {s:List fk}(hA:qF s)(hl:s.length<=2^40){p:iA}(h:uY p):au C 76 [.sl (jR s),.agg (cP p)] (λr=>r=.val (.bool (!oM (gO s) (bU p)))):=by
 have hn:au C 45 [.agg (cP p)] (λr=>r=.val (.sl (tK (bU p)))):=by have :=yW h;rwa[IT h]at this
 have hnl:=Iy p;refine aq Tryz.func76 rfl rfl rfl (cl hn ⟨[2],cZ (cells:=[.p (.sl (jR s))]) (ys:=[.sl (jR s)]) rfl rfl rfl (cl (Qz (bU p) 147 (.imp [.sl (jR s)]) (λd=>!decide (d∈gO s)) (λd _=>Rt hA hl d) oO) ?_)⟩);rw[show((bU p).any λd=>!decide (d∈gO s))=!oM (gO s) (bU p)from by unfold oM;rw[List.not_all_eq_any_not]];exact rfl
theorem DL {α:Type}{f:α->Bool}{l:List α}{k:Nat}(h:k<l.length):(l.take (k+1)).filter f=(l.take k).filter f++(if f l[k]=true then[l[k]]else[]):=by rw[bQ h,mj,jm];split<;>rfl
structure agE (x W:iI)(d:Dg)(p:iA):Prop where
 own:∀(n:Nat) b,(jJ p)[n]?=some b->AL W ⟨d,(n:Int)⟩=(b,true)
 oth:∀i:bB,i.p≠d->AL W i=AL x i
 nk:(Tu W d).1=bU p
section
variable {x W:iI}{d:Dg}{p:iA}(hW:agE x W d p)(hq:uY p)(hd:(mA p).1=d)(hn:d∉bU p){c:dH}(hc:c∈p.changes){o r:List bO}(ho:(eM p).1=o++r)(hE:oa c o=0)(hx:∀i b,od x i=some b->b.id=i){a:bO}(ha:a.id.p=d)(hm:(o.length:Int)<=a.id.n)
include hW hq hd hn hc ho hE hx ha hm
end
section
variable (c:dH)(d:Dg)(n:Nat)
end
section
variable {x W:iI}{d:Dg}{p:iA}(hW:agE x W d p)(hq:uY p)(hd:(mA p).1=d)(hn:d∉bU p){c:dH}(hc:c∈p.changes){o r:List bO}(ho:(eM p).1=o++r)(hE:oa c o=0)(hx:∀i b,od x i=some b->b.id=i)
include hW hq hd hn hc ho hE hx
end
section
variable {x W:iI}{d:Dg}{p:iA}(hW:agE x W d p)(hq:uY p)(hd:(mA p).1=d)(hn:d∉bU p){c:dH}(hc:c∈p.changes){o r:List bO}(ho:(eM p).1=o++dI c o.length++r)(hE:oa c o=0)(hx:∀i b,od x i=some b->b.id=i)
include hW hq hd hn hc ho hE hx
end
structure XD (x:iI):Prop where
 pats:x.pats.Pairwise λa b=>dA a.id b.id<0
 atoms:x.atoms.Pairwise λa b=>gq a.id b.id<0
 own:∀a,a∈x.atoms->a.id.p∈qb x
 alb:∀k,k∈x.pats->k.id∉k.dO
def Vi (x:iI):Bool:=!BD x&&decide (lG x=0)
structure Ji (x:iI):Prop where
 pats:x.pats.length<=8
 atoms:x.atoms.length<=150
 dO:∀k,k∈x.pats->k.dO.length<=20
 fields:∀a,a∈x.atoms->a.over.length<=100/\a.name.length<=100/\a.data.length<=100/\a.text.length<=100
theorem QX {x:iI}(h:BD x=false):Ji x:=by unfold BD at h;rw[nA,nA,nA,nC,nC,decide_eq_false_iff_not,decide_eq_false_iff_not]at h;obtain⟨h1,h2,h3,h4⟩:=h;refine⟨oO,oO,λk hk=>?_,λa ha=>?_⟩;have :=h2 k hk;rw[decide_eq_true_eq]at this;omega;have :=h1 a ha;unfold um at this;rw[decide_eq_true_eq]at this;omega
theorem Ji.v {x:iI}(h:Ji x):SzV x:=by refine⟨⟨?_,λk hk=>?_,?_⟩,λa ha=>?_⟩;have :=h.pats;omega;have :=h.dO k hk;omega;have :=h.atoms;omega;have :=h.fields a ha;omega
theorem XE (x:iI)(h1:x.pats.length<=2^47)(h2:x.atoms.length<=2^47):au C 17 [.agg (iD x)] (λr=>r=.val (.bool (Vi x))):=by
 refine aq Tryz.func17 rfl rfl rfl ⟨none,cl (Ty x h1 h2) (bR ?_)⟩;unfold Vi;cases hg:BD x with
 |true=>exact rfl
 |false=>refine cl (TC (QX hg).v) (aH (λg=>?_) (λg=>?_));have g:lG x=0:=g;rw[ai g];exact rfl;have g:¬lG x=0:=g;rw[ah g];exact rfl
theorem LO {α:Type}{R:α->α->Prop}(ht:∀{a b c},R a b->R b c->R a c){l:List α}(h:∀k (hk:k+1<l.length),R (l[k]' oO) l[k+1]):l.Pairwise R:=by
 rw[eR];intro i j hi hj hij;obtain⟨n,rfl⟩:∃n,j=i+1+n:=⟨j-i-1,oO⟩;induction n with
 |zero=>exact h i hj
 |succ n ih=>exact ht (ih oO oO) (h (i+1+n) hj)
theorem QY {ps:List zS}:∀(l:List zS)(out:List Dg),(∀k,k∈l->k∈ps)->out.Nodup/\(∀d,d∈out->∃k,k∈ps/\k.id=d/\k.id∉k.dO)->(qh out l).Nodup/\∀d,d∈qh out l->∃k,k∈ps/\k.id=d/\k.id∉k.dO
 |[],out,_,h=>h
 |q::l,out,hs,h=>by
  show(qh (if qH out q=true then out++[q.id]else out) l).Nodup/\∀d,d∈qh (if qH out q=true then out++[q.id]else out) l->_;refine QY l _ (λk hk=>hs k (.tail _ hk)) ?_;cases hr:qH out q with
  |false=>rw[aa dD];exact h
  |true=>rw[af rfl];unfold qH at hr;rw[aR,cE,decide_eq_false_iff_not,br]at hr;refine⟨?_,λd hd=>?_⟩;rw[mc];refine⟨h.1,by simp,λa ha b hb e=>?_⟩;obtain rfl:=aL.1 hb;subst e;exact hr.1 ha;rcases bf.1 hd with hd|hd;exact h.2 d hd;obtain rfl:=aL.1 hd;exact⟨q,hs q (.head _),rfl,λc=>hr.1 (cL (hr.2 _ c))⟩
theorem GR {ps:List zS}:∀(n:Nat)(out:List Dg),out.Nodup/\(∀d,d∈out->∃k,k∈ps/\k.id=d/\k.id∉k.dO)->(Kr ps n out).Nodup/\∀d,d∈Kr ps n out->∃k,k∈ps/\k.id=d/\k.id∉k.dO|0,out,h=>h|n+1,out,h=>GR n _ (QY ps out (λ_ h=>h) h)
theorem NP {x:iI}(h:lG x=0):XD x:=by
 unfold lG at h;by_cases h1:ze x≠0;rw[af h1]at h;exact absurd h h1;rw[aa h1]at h;by_cases h2:bk ((List.range x.atoms.length).map (xA x))≠0;rw[af h2]at h;exact absurd h h2;have h1:=cK.1 h1;have h2:=iw.1 (cK.1 h2);unfold ze at h1;by_cases h3:400<x.pats.length;rw[af h3]at h1;exact absurd h1 dD;rw[aa h3]at h1;by_cases h4:bk ((List.range x.pats.length).map (AM x.pats))≠0;rw[af h4]at h1;exact absurd h1 h4;rw[aa h4]at h1;have h4:=iw.1 (cK.1 h4);by_cases h5:x.pats.any (QN x)=true;rw[af h5]at h1;exact absurd h1 dD;rw[aa h5]at h1;by_cases h6:(js x).length<x.pats.length;rw[af h6]at h1;exact absurd h1 dD;have gk:∀k (hk:k<x.pats.length),x.pats.getD k FU=x.pats[k]:=λk hk=>by rw[dc,an hk];rfl
 have ga:∀k (hk:k<x.atoms.length),x.atoms.getD k de=x.atoms[k]:=λk hk=>by rw[dc,an hk];rfl
 have hp:x.pats.Pairwise λa b=>dA a.id b.id<0:=by refine LO (R:=λa b:zS=>dA a.id b.id<0) (λh1 h2=>ic h1 h2) λk hk=>?_;have :=h4 (AM x.pats (k+1)) (aB.2 ⟨k+1,fA.2 hk,rfl⟩);unfold AM at this;rw[sE,gk (k+1) hk,gk k oO]at this;by_cases g1:x.pats[k+1].id=bg;rw[af g1]at this;exact absurd this dD;rw[aa g1]at this;by_cases g2:(0<k+1/\¬dA x.pats[k].id x.pats[k+1].id<0)\/rz x.pats[k+1].dO=false;rw[af g2]at this;exact absurd this dD;exact cK.1 λc=>g2 (.inl ⟨wP _,c⟩)
 refine⟨hp,LO (R:=λa b:bO=>gq a.id b.id<0) (λh1 h2=>oA h1 h2) λk hk=>?_,λa ha=>?_,λk hk=>?_⟩;have :=h2 (xA x (k+1)) (aB.2 ⟨k+1,fA.2 hk,rfl⟩);unfold xA at this;rw[sE,ga (k+1) hk,ga k oO]at this;by_cases g:0<k+1/\¬gq x.atoms[k].id x.atoms[k+1].id<0;rw[af g]at this;exact absurd this dD;exact cK.1 λc=>g ⟨wP _,c⟩;obtain⟨k,hk,rfl⟩:=dr ha;have :=h2 (xA x k) (aB.2 ⟨k,fA.2 hk,rfl⟩);unfold xA at this;rw[ga k hk]at this;refine kI λc=>?_;by_cases g:0<k/\¬gq (x.atoms.getD (k-1) de).id x.atoms[k].id<0;rw[af g]at this;exact absurd this dD;rw[aa g,af c]at this;exact absurd this dD;obtain⟨i1,i2⟩:=GR (ps:=x.pats) x.pats.length [] ⟨nD,λd hd=>by cases hd⟩;have hin:k.id∈js x:=Bx (l:=js x) (m:=qb x) i1 (λd hd=>by obtain⟨q,hq,rfl,-⟩:=i2 d hd;exact aB.2 ⟨q,hq,rfl⟩) (by unfold qb;rw[aj];omega) _ (aB.2 ⟨k,hk,rfl⟩);obtain⟨q,hq,e,hn⟩:=i2 _ hin;obtain⟨i,hi,rfl⟩:=dr hk;obtain⟨j,hj,rfl⟩:=dr hq;rcases sJ i j with c|c|c;have :=eR.1 hp i j hi hj c;rw[e]at this;exact absurd this (iu _);subst c;exact hn;have :=eR.1 hp j i hj hi c;rw[e]at this;exact absurd this (iu _)
theorem LP:∀(ps:List zS)(out:List Dg),(qh out ps).length<=out.length+ps.length|[],out=>av _|q::ps,out=>by show(qh (if qH out q=true then out++[q.id]else out) ps).length<=_;have :=LP ps (if qH out q=true then out++[q.id]else out);rw[aS];split at this;rw[ay,gZ]at this;rename_i h;rw[af h];omega;rename_i h;rw[aa h];omega
theorem Jj (ps:List zS):∀(n:Nat)(out:List Dg),(Kr ps n out).length<=out.length+n*ps.length
 |0,out=>by simp[Kr]
 |n+1,out=>by have h1:=Jj ps n (qh out ps);have h2:=LP ps out;show(Kr ps n (qh out ps)).length<=_;rw[Nat.succ_mul];omega
def ofP (x:iI)(d:Dg):List bO:=x.atoms.filter λa=>decide (a.id.p=d)
def zf (x:iI):List bO:=(js x).flatMap (ofP x)
def DM (x:iI):List bO:=(oc (zf x)).reverse
theorem aba {x:iI}(h:SzQ x)(h1:x.pats.length<=400)(h2:x.atoms.length<=2^16)(ho:∀a,a∈x.atoms->a.over.length<=2^47):au C 74 [.agg (iD x)] (λr=>r=.val (.sl (kB (DM x)))):=by
 have Ks:=FT h h1;have hOl:(js x).length<=160000:=by have :=Jj x.pats x.pats.length [];rw[bA]at this;have h3:x.pats.length*x.pats.length<=400*400:=Nat.mul_le_mul h1 h1;unfold js;omega
 obtain⟨E,hE⟩:∃E,DM x=E:=⟨_,rfl⟩;rw[hE];unfold DM zf at hE;have hof:∀d,ofP x d=x.atoms.filter λa=>decide (a.id.p=d):=λ_=>rfl;generalize ofP x=F at hE hof;generalize js x=OX at hE Ks hOl;obtain⟨ps,ats⟩:=x;simp only at h1 h2 ho hof;unfold iD at Ks⊢;refine aq Tryz.func74 rfl rfl rfl (cl Ks ?_);refine bW 93 (λi:Nat=>[(1,.ptr 1 0),(3,.gi 11 109 172 (((OX.take i).flatMap F).map cA)),(4,.p (.sl (tK OX))),(5,.p (.int .i64 (i:Int)))]) (λ_=>[(1,[.p (.sl (ps.map jc)),.p (.sl (ats.map cA))])]) (λi=>i<=OX.length/\((OX.take i).flatMap F).length<=i*2^16) (λi=>OX.length-i) 0 ⟨zL,zL⟩ kK wS oS ?_;rintro i ⟨hi,BL⟩;refine cu (λhlt=>?_) (λhge=>?_);have xl:(OX.take (i+1)).flatMap F=(OX.take i).flatMap F++F OX[i]:=yL hlt;have lK:=λK (hK:K (cD OX[i]))=>ix (f:=cD) (l:=OX) (m:=32) (K:=K) hlt hK;generalize OX[i]=d at xl lK;rw[hof]at xl;generalize(OX.take i).flatMap F=L at BL xl;refine bW 93 (λk:Nat=>[(1,.ptr 1 0),(3,.gi 11 109 172 ((L++(ats.take k).filter λa=>decide (a.id.p=d)).map cA)),(4,.p (.sl (tK OX))),(5,.p (.int .i64 (i:Int))),(6,.p (.int .i64 (k:Int)))]) (λ_=>[(1,[.p (.sl (ps.map jc)),.p (.sl (ats.map cA))])]) (λk=>k<=ats.length) (λk=>ats.length-k) 0 zL kK (by rw[List.take_zero,List.filter_nil,aW];exact wS) oS ?_;intro k hk;have hfl:((ats.take k).filter λa=>decide (a.id.p=d)).length<=2^16:=bL (jo _ _) (by rw[aN];omega);refine cu (λdw=>?_) (λox=>?_);have hf:=DL (f:=λa:bO=>decide (a.id.p=d)) dw;have gP:=λK (hK:K (cA ats[k]))=>ix (f:=cA) (l:=ats) (m:=172) (K:=K) dw hK;generalize ats[k]=a at hf gP;refine cw 12 kK (gP _ (lK _ ⟨vp,cR,rfl,rfl,rfl,CR (a:=a.id.p) (b:=d) ?_⟩));by_cases he:a.id.p=d;rw[ai he];rw[af (ai he)]at hf;have hf2:L++((ats.take (k+1)).filter λa=>decide (a.id.p=d))=(L++(ats.take k).filter λa=>decide (a.id.p=d))++[a]:=by rw[hf,bl]
 refine gP _ ?_;have hll:(L++(ats.take k).filter λa=>decide (a.id.p=d)).length<=2^34:=by rw[ay];omega
 refine⟨nP,nP (l:=[a]),by show(((L++(ats.take k).filter λa=>decide (a.id.p=d)).map cA).length+1)*296<=_;rw[aj];omega,(L++(ats.take (k+1)).filter λa=>decide (a.id.p=d)).map cA,by rw[hf2,aF (l₂:=[a])];rfl,?_⟩;exact nx (k+1) (aU (k+1) dw mM kK wS oS);rw[ah he];rw[aa (by rw[ah he];decide),aW]at hf;exact nx (k+1) (aU (k+1) dw mM kK (by rw[hf];exact wS) oS);obtain rfl:k=ats.length:=oO
 rw[aP]at hfl⊢;rw[<-xl];exact nx (i+1) (aU (i+1) ⟨hlt,by rw[xl,ay];omega⟩ mM kK wS oS);obtain rfl:i=OX.length:=oO
 rw[aP]at BL⊢;have hmem:∀a,a∈OX.flatMap F->a.over.length<=2^47:=λa ha=>by obtain⟨d,-,ha⟩:=gA.1 ha;rw[hof]at ha;exact ho a (eC.1 ha).1
 generalize OX.flatMap F=L at hE BL hmem;have hll:L.length<=2^34:=oO
 have Lg:((L.map cA).length:Int)=(L.length:Int):=by rw[aj]
 refine⟨(L.length:Int)-1,by rw[Lg];exact wrap64 oO oO,?_⟩;refine bW 93 (λm:Nat=>[(3,.gi 11 109 172 (L.map cA)),(7,.gi 47 109 172 ((oc (L.drop m)).reverse.map cA)),(8,.p (.int .i64 ((m:Int)-1)))]) (λ_=>[]) (λm=>m<=L.length) (λm=>m) L.length (av _) kK (by rw[List.drop_length];exact wS) trivial ?_;intro m hm;refine aQ (λhlt=>?_) (λhge=>?_);have hlt:(m:Int)-1≥0:=hlt;obtain⟨i,rfl⟩:∃i,m=i+1:=⟨m-1,oO⟩;have hi:i<L.length:=oO
 have hsub:((i+1:Nat):Int)-1=(i:Int):=oO
 rw[hsub];have hdr:=SL hi;have hel:=EB (L.drop (i+1));rw[eo]at hel;have gP:=λK (hK:K (cA L[i]))=>ix (f:=cA) (l:=L) (m:=172) (K:=K) hi hK;have hma:∀b,b∈oc (L.drop (i+1))->b.over.length<=2^47:=λb hb=>hmem b (Cl (zK hb));generalize L[i]=a at hdr gP;generalize oc (L.drop (i+1))=O at hdr hel hma;have hrt:PY O a=O.reverse.any λb=>decide (b.kind=7)&&decide (a.id∈b.over):=by unfold PY;rw[List.any_reverse]
 have hma:∀b,b∈O.reverse->b.over.length<=2^47:=λb hb=>hma b (sK.1 hb);have hel:O.reverse.length<=2^34:=by rw[DN];omega
 have hdr:(oc (L.drop i)).reverse=if PY O a=true then O.reverse else O.reverse++[a]:=by rw[hdr];unfold qy;split;rfl;rw[List.reverse_cons]
 generalize PY O a=rt at hrt hdr;generalize O.reverse=Q at hrt hdr hma hel;refine bW 93 (λp:Nat×Bool=>[(3,.gi 11 109 172 (L.map cA)),(7,.gi 47 109 172 (Q.map cA)),(8,.p (.int .i64 (i:Int))),(9,.p (.bool p.2)),(10,.p (.int .i64 (p.1:Int)))]) (λ_=>[]) (λp=>p.1<=Q.length/\(p.2&&!(Q.drop p.1).any λb=>decide (b.kind=7)&&decide (a.id∈b.over))=!rt) (λp=>Q.length-p.1) (0,true) ⟨zL,by rw[hrt];rfl⟩ kK wS trivial ?_;rintro⟨k,b⟩ ⟨hk,hb⟩;simp only at hk hb;refine cu (λdw=>?_) (λox=>?_);rw[bM dw,List.any_cons]at hb;have lK:=λK (hK:K (cA Q[k]))=>ix (f:=cA) (l:=Q) (m:=172) (K:=K) dw hK;have hyo:=hma Q[k] (aT _);generalize Q[k]=y at hb lK hyo;have hin:=Nc y.over a.id hyo;refine PF (.p (.bool (b&&!(decide (y.kind=7)&&decide (a.id∈y.over))))) 9 kK (by rfl) ?_ ?_;cases b with
 |false=>exact rfl
 |true=>refine lK _ (aH (λg=>?_) (λg=>?_));have g:y.kind=7:=g;refine lK _ (gP _ ⟨_,hin,bR ?_⟩);rw[ai g];exact rfl;have g:¬y.kind=7:=g;refine bR ?_;rw[ah g];exact rfl
 exact nx (k+1) (aU (k+1,b&&!(decide (y.kind=7)&&decide (a.id∈y.over))) ⟨dw,by simp only;rw[<-hb];cases b<;>cases(decide (y.kind=7)&&decide (a.id∈y.over))<;>rfl⟩ mM kK wS trivial);rw[cQ (fM ox),List.any_nil,Bool.not_false,pG]at hb;subst hb;cases rt with
 |true=>rw[af rfl]at hdr;exact⟨(i:Int)-1,wrap64 oO oO,aU i (by show i<=L.length;omega) (by show i<i+1;omega) kK (by rw[hdr];exact wS) trivial⟩
 |false=>rw[aa dD]at hdr;refine gP _ ?_;refine⟨nP,nP (l:=[a]),by show((Q.map cA).length+1)*296<=_;rw[aj];omega,(Q++[a]).map cA,by rw[aF];rfl,?_⟩;exact⟨(i:Int)-1,wrap64 oO oO,aU i (by show i<=L.length;omega) (by show i<i+1;omega) kK (by rw[hdr];exact wS) trivial⟩
 have hge:¬(m:Int)-1≥0:=hge;obtain rfl:m=0:=oO
 rw[wo,hE];exact .inr rfl
def zg (l:List bO)(a:bO):Bool:=l.any λb=>decide (a.id∈b.over)
def vj (x:iI):List bB:=(x.atoms.filter λa=>!zg (DM x) a).map λa=>a.id
theorem Jk {x:iI}{a:bO}(h:a∈zf x):a∈x.atoms:=by obtain⟨d,-,h⟩:=gA.1 h;exact(eC.1 h).1
theorem Jl {x:iI}{a:bO}(h:a∈DM x):a∈x.atoms:=Jk (zK (sK.1 h))
theorem abb (x:iI):(zf x).length<=x.pats.length*x.pats.length*x.atoms.length:=by
 have key:∀l:List Dg,(l.flatMap (ofP x)).length<=l.length*x.atoms.length:=by
  intro l;induction l with
  |nil=>simp
  |cons d l ih=>rw[pR,ay,aS,Nat.succ_mul];have :=jo (λa:bO=>decide (a.id.p=d)) x.atoms;have :(ofP x d).length<=x.atoms.length:=this;omega
 have h1:=Jj x.pats x.pats.length [];rw[bA,dn]at h1;exact bL (key _) (ew _ h1)
theorem FY {x:iI}(h:SzQ x)(h1:x.pats.length<=400)(h2:x.atoms.length<=2^16)(ho:∀a,a∈x.atoms->a.over.length<=2^47):au C 26 [.agg (iD x)] (λr=>r=.val (.sl (pX (vj x)))):=by
 have agF:=aba h h1 h2 ho;have hel:(DM x).length<=2^47:=by have a1:=abb x;have a2:=EB (zf x);have a3:x.pats.length*x.pats.length<=400*400:=Nat.mul_le_mul h1 h1;have a4:x.pats.length*x.pats.length*x.atoms.length<=400*400*2^16:=Nat.mul_le_mul a3 h2;unfold DM;rw[DN];omega
 have heo:∀a,a∈DM x->a.over.length<=2^47:=λa ha=>ho a (Jl ha);obtain⟨E,hE⟩:∃E,vj x=E:=⟨_,rfl⟩;rw[hE];unfold vj at hE;generalize DM x=F at hE agF hel heo;obtain⟨ps,ats⟩:=x;simp only at h1 h2 hE;unfold iD at agF⊢;refine aq Tryz.func26 rfl rfl rfl (cl agF ?_);refine bW 51 (λk:Nat=>[(1,.ptr 1 0),(3,.p (.sl (F.map cA))),(4,.gi 10 54 33 (((ats.take k).filter λa=>!zg F a).map λa=>cI a.id)),(5,.p (.int .i64 (k:Int)))]) (λ_=>[(1,[.p (.sl (ps.map jc)),.p (.sl (ats.map cA))])]) (λk=>k<=ats.length) (λk=>ats.length-k) 0 zL kK wS oS ?_;intro k hk;have hfl:((ats.take k).filter λa=>!zg F a).length<=2^16:=bL (jo _ _) (by rw[aN];omega);refine cu (λhlt=>?_) (λhge=>?_);have hf:=DL (f:=λa:bO=>!zg F a) hlt;have gP:=λK (hK:K (cA ats[k]))=>ix (f:=cA) (l:=ats) (m:=172) (K:=K) hlt hK;generalize ats[k]=a at hf gP;have hdd:zg F a=F.any λb=>decide (a.id∈b.over):=rfl;generalize zg F a=dd at hf hdd;generalize(ats.take k).filter (λa=>!zg F a)=L at hf hfl;refine bW 51 (λp:Nat×Bool=>[(1,.ptr 1 0),(3,.p (.sl (F.map cA))),(4,.gi 10 54 33 (L.map λa=>cI a.id)),(5,.p (.int .i64 (k:Int))),(6,.p (.bool p.2)),(7,.p (.int .i64 (p.1:Int)))]) (λ_=>[(1,[.p (.sl (ps.map jc)),.p (.sl (ats.map cA))])]) (λp=>p.1<=F.length/\(p.2&&!(F.drop p.1).any λb=>decide (a.id∈b.over))=!dd) (λp=>F.length-p.1) (0,true) ⟨zL,by rw[hdd];rfl⟩ kK wS oS ?_;rintro⟨j,b⟩ ⟨hj,hb⟩;simp only at hj hb;refine cu (λdw=>?_) (λox=>?_);rw[bM dw,List.any_cons]at hb;have lK:=λK (hK:K (cA F[j]))=>ix (f:=cA) (l:=F) (m:=172) (K:=K) dw hK;have hyo:=heo F[j] (aT _);generalize F[j]=y at hb lK hyo;have hin:=Nc y.over a.id hyo;refine PF (.p (.bool (b&&!decide (a.id∈y.over)))) 6 kK (by rfl) ?_ ?_;cases b with
 |false=>exact rfl
 |true=>exact lK _ (gP _ ⟨_,hin,bR rfl⟩)
 exact nx (j+1) (aU (j+1,b&&!decide (a.id∈y.over)) ⟨dw,by simp only;rw[<-hb];cases b<;>cases decide (a.id∈y.over)<;>rfl⟩ mM kK wS oS);rw[cQ (fM ox),List.any_nil,Bool.not_false,pG]at hb;subst hb;cases dd with
 |true=>rw[aa dD,aW]at hf;exact nx (k+1) (aU (k+1) hlt mM kK (by rw[hf];exact wS) oS)
 |false=>rw[af dD]at hf;refine gP _ ?_;refine⟨(λzs hz=>by obtain⟨c,-,rfl⟩:=aB.1 hz;rfl),Sw (l:=[a.id]),by show((L.map λa=>cI a.id).length+1)*40<=_;rw[aj];omega,(L++[a]).map (λa=>cI a.id),by rw[aF];rfl,?_⟩;exact nx (k+1) (aU (k+1) hlt mM kK (by rw[hf];exact wS) oS)
 obtain rfl:k=ats.length:=oO
 rw[aP];have :pX E=(ats.filter λa=>!zg F a).map λa=>cI a.id:=by rw[<-hE];unfold pX;rw[dV];rfl
 rw[this];exact .inr rfl
def zh (ps:List zS)(out:List Dg):Prop:=∀l1 d l2,out=l1++d::l2->∃k,k∈ps/\k.id=d/\∀n,n∈k.dO->n∈l1
theorem QZ {ps:List zS}{out:List Dg}(h:zh ps out){q:zS}(hq:q∈ps)(hn:∀n,n∈q.dO->n∈out):zh ps (out++[q.id]):=by
 intro l1 d l2 e;rcases List.eq_nil_or_concat l2 with rfl|⟨l3,z,rfl⟩;have e2:out++[q.id]=l1++[d]:=e;obtain⟨e3,e4⟩:=wU e2 rfl;obtain rfl:q.id=d:=(fB e4).1;subst e3;exact⟨q,hq,rfl,hn⟩;have e2:out++[q.id]=(l1++d::l3)++[z]:=by rw[e];simp
 obtain⟨e3,-⟩:=wU e2 rfl;exact h l1 d l3 e3
theorem FZ {ps:List zS}:∀(l:List zS)(out:List Dg),(∀k,k∈l->k∈ps)->zh ps out->zh ps (qh out l)
 |[],out,_,h=>h
 |q::l,out,hs,h=>by
  show zh ps (qh (if qH out q=true then out++[q.id]else out) l);refine FZ l _ (λk hk=>hs k (.tail _ hk)) ?_;cases hr:qH out q with
  |false=>rw[aa dD];exact h
  |true=>rw[af rfl];unfold qH at hr;rw[aR,cE,decide_eq_false_iff_not,br]at hr;exact QZ h (hs q (.head _)) λn hn=>cL (hr.2 n hn)
theorem Jm {ps:List zS}:∀(n:Nat)(out:List Dg),zh ps out->zh ps (Kr ps n out)|0,out,h=>h|n+1,out,h=>Jm n _ (FZ ps out (λ_ h=>h) h)
theorem NQ (x:iI):zh x.pats (js x):=Jm _ _ λl1 d l2 e=>by simp at e
theorem Vj {x:iI}(h:lG x=0):∀a,a∈x.atoms->oq a=0/\NL x a=0:=by
 unfold lG at h;by_cases h1:ze x≠0;rw[af h1]at h;exact absurd h h1;rw[aa h1]at h;by_cases h2:bk ((List.range x.atoms.length).map (xA x))≠0;rw[af h2]at h;exact absurd h h2;have h2:=iw.1 (cK.1 h2);intro a ha;obtain⟨k,hk,rfl⟩:=dr ha;have :=h2 (xA x k) (aB.2 ⟨k,fA.2 hk,rfl⟩);unfold xA at this;have ga:x.atoms.getD k de=x.atoms[k]:=by rw[dc,an hk];rfl
 rw[ga]at this;by_cases g1:0<k/\¬gq (x.atoms.getD (k-1) de).id x.atoms[k].id<0;rw[af g1]at this;exact absurd this dD;rw[aa g1]at this;by_cases g2:x.atoms[k].id.p∉qb x;rw[af g2]at this;exact absurd this dD;rw[aa g2]at this;by_cases g3:x.atoms[k].id.n≠aa0 x.atoms k;rw[af g3]at this;exact absurd this dD;rw[aa g3]at this;by_cases g4:oq x.atoms[k]≠0;rw[af g4]at this;exact absurd this g4;rw[aa g4]at this;exact⟨cK.1 g4,this⟩
theorem abc {a:bO}(h:oq a=0)(h1:a.kind=1):a.over=[]:=by unfold oq at h;by_cases g1:a.kind<1\/7<a.kind;rw[af g1]at h;exact absurd h dD;rw[aa g1]at h;by_cases g2:DF a≠Vh a.kind;rw[af g2]at h;exact absurd h dD;have :=aV bO.over (cK.1 g2);unfold DF at this;rw[af h1]at this;exact this
theorem XF {x:iI}(h:lG x=0){a:bO}(ha:a∈x.atoms){i:bB}(hi:i∈a.over):ry x a i=true:=by obtain⟨hv,hr⟩:=Vj h a ha;unfold NL at hr;by_cases h1:a.kind=1;rw[abc hv h1]at hi;cases hi;rw[aa h1]at hr;have :=iw.1 hr (nJ x a i (fP a.kind a.file)) (by simp only[bf,aB];exact .inr (.inr (.inr (.inl ⟨i,hi,rfl⟩))));unfold nJ at this;by_cases g:ry x a i=false;rw[af g]at this;exact absurd this dD;simpa using g
def abd (x:iI)(u:bO)(i:bB):Prop:=(i.p=u.id.p/\i.n<u.id.n)\/(i.p≠u.id.p/\i.p∈(Tu x u.id.p).1)
theorem abe {x:iI}{a:bO}{i:bB}(h:ry x a i=true):abd x a i/\∃c,c∈x.atoms/\c.id=i:=by
 unfold ry at h;simp only[aR,kr,decide_eq_true_eq]at h;refine⟨h.2,?_⟩;have h1:=h.1;unfold AL at h1;cases hf:od x i with
 |some c=>unfold od at hf;have :=jr hf;exact⟨c,kM hf,cL this⟩
 |none=>rw[hf]at h1;cases h1
theorem aiL {x:iI}(hv:XD x){k:zS}(hk:k∈x.pats):Tu x k.id=(k.dO,true):=by
 have :x.pats.find? (λq=>decide (q.id=k.id))=some k:=zZ hk (ai rfl) λc hc hQ=>by have hQ:=cL hQ;obtain⟨i,hi,rfl⟩:=dr hc;obtain⟨j,hj,rfl⟩:=dr hk;rcases sJ i j with q|q|q;have :=eR.1 hv.pats i j hi hj q;rw[hQ]at this;exact absurd this (iu _);subst q;rfl;have :=eR.1 hv.pats j i hj hi q;rw[hQ]at this;exact absurd this (iu _)
 unfold Tu;rw[this]
theorem DO (x:iI):(js x).Nodup:=(GR (ps:=x.pats) x.pats.length [] ⟨nD,λd hd=>by cases hd⟩).1
theorem TH {x:iI}(hv:XD x):(js x).Pairwise λd1 d2=>d1≠d2/\d2∉(Tu x d1).1:=by have hn:=DO x;rw[eR];intro i j hi hj hij;have hne:∀m (hm:m<(js x).length),m<j->(js x)[m]≠(js x)[j]:=λm hm hmj=>eR.1 hn m j hm hj hmj;refine⟨hne i hi hij,λhin=>?_⟩;obtain⟨k,hk,e,hk2⟩:=NQ x ((js x).take i) (js x)[i] ((js x).drop (i+1)) (by rw[<-bM hi,dU]);rw[<-e,aiL hv hk]at hin;obtain⟨m,hm,e2⟩:=dr (hk2 _ hin);rw[aN]at hm;rw[wN]at e2;exact hne m oO oO e2
theorem LQ {x:iI}(hv:XD x):(zf x).Pairwise λu v=>¬abd x u v.id:=by
 unfold zf;rw[DK];refine⟨λd _=>?_,(TH hv).imp λ{d1 d2} hd u hu v hv2=>?_⟩;refine List.Pairwise.imp_of_mem ?_ (hv.atoms.filter _);intro u v hu hv2 huv hl;have e1:=cL (eC.1 hu).2;have e2:=cL (eC.1 hv2).2;rcases hl with hl|hl;have :gq v.id u.id<0:=by
  have q1:(⟨d,v.id.n⟩:bB)=v.id:=by rw[<-e2]
  have q2:(⟨d,u.id.n⟩:bB)=u.id:=by rw[<-e1]
  rw[<-q1,<-q2];exact LB hl.2
 have :=nB u.id v.id;omega;exact hl.1 (by rw[e1,e2]);have e1:=cL (eC.1 hu).2;have e2:=cL (eC.1 hv2).2;rintro(hl|hl);exact hd.1 (by rw[<-e1,<-e2];exact hl.1.symm);rw[e1,e2]at hl;exact hd.2 hl.2
theorem XI {x:iI}(h:lG x=0):∀d,d∈qb x->d∈js x:=by unfold lG at h;by_cases h1:ze x≠0;rw[af h1]at h;exact absurd h h1;have h1:=cK.1 h1;unfold ze at h1;by_cases h3:400<x.pats.length;rw[af h3]at h1;exact absurd h1 dD;rw[aa h3]at h1;by_cases h4:bk ((List.range x.pats.length).map (AM x.pats))≠0;rw[af h4]at h1;exact absurd h1 h4;rw[aa h4]at h1;by_cases h5:x.pats.any (QN x)=true;rw[af h5]at h1;exact absurd h1 dD;rw[aa h5]at h1;by_cases h6:(js x).length<x.pats.length;rw[af h6]at h1;exact absurd h1 dD;obtain⟨i1,i2⟩:=GR (ps:=x.pats) x.pats.length [] ⟨nD,λd hd=>by cases hd⟩;exact Bx (l:=js x) (m:=qb x) i1 (λd hd=>by obtain⟨q,hq,rfl,-⟩:=i2 d hd;exact aB.2 ⟨q,hq,rfl⟩) (by unfold qb;rw[aj];omega)
theorem Jo {x:iI}(h:lG x=0){a:bO}(ha:a∈x.atoms):a∈zf x:=gA.2 ⟨a.id.p,XI h _ ((NP h).own a ha),eC.2 ⟨ha,ai rfl⟩⟩
theorem Jp {x:iI}(hv:XD x):(zf x).Nodup:=by
 unfold zf;refine DK.2 ⟨λd _=>?_,(DO x).imp λ{d1 d2} hd u hu v hv2 e=>?_⟩;exact(hv.atoms.filter _).imp λ{a b} hab e=>by rw[e]at hab;exact mT _ hab
 have e1:=cL (eC.1 hu).2;have e2:=cL (eC.1 hv2).2;exact hd (by rw[<-e1,<-e2,e])
theorem Jq {x:iI}(h:lG x=0){a:bO}(ha:a∈x.atoms){i:bB}(hi:i∈a.over):abd x a i/\∃c,c∈x.atoms/\c.id=i:=abe (XF h ha hi)
def abi (x:iI)(i:bB):Bool:=!((DM x).any λa=>decide (i∈a.over)&&decide (a.kind=7))
theorem GS {x:iI}(h:lG x=0){a:bO}(ha:a∈x.atoms):a∈DM x↔abi x a.id=true:=by
 have hv:=NP h;have hp:=LQ hv;have key:=XG (Jp hv) (λl1 l2 a b e hb hr=>by
  have hbL:b∈zf x:=by rw[e];rcases bf.1 hb with hb|hb<;>simp_all
  have hl:=(Jq h (Jk hbL) hr.2).1;rcases bf.1 hb with hb|hb;rw[e]at hp;exact(sG.1 hp).2.2 b hb a (.head _) hl;rw[aL.1 hb]at hl;rcases hl with hl|hl;exact absurd hl.2 oO;exact hl.1 rfl) (Jo h ha);unfold DM abi;rw[sK,key,cE,nC];constructor;intro g b hb;have :=g b (sK.1 hb);simp only[aR,decide_eq_true_eq];exactλc=>this ⟨c.2,c.1⟩;intro g b hb hr;have :=g b (sK.2 hb);simp only[aR,decide_eq_true_eq]at this;exact this ⟨hr.2,hr.1⟩
def rkX (x:iI)(i:bB):Nat:=(zf x).length-(zf x).findIdx λc=>decide (c.id=i)
theorem Vl {x:iI}(hv:XD x){a b:bO}(ha:a∈x.atoms)(hb:b∈x.atoms)(e:a.id=b.id):a=b:=by obtain⟨i,hi,rfl⟩:=dr ha;obtain⟨j,hj,rfl⟩:=dr hb;rcases sJ i j with q|q|q;have :=eR.1 hv.atoms i j hi hj q;rw[e]at this;exact absurd this (mT _);subst q;rfl;have :=eR.1 hv.atoms j i hj hi q;rw[e]at this;exact absurd this (mT _)
theorem abj {x:iI}(h:lG x=0):Gb x.atoms (abi x) (rkX x):=by
 have hv:=NP h;refine⟨λi=>?_,λa ha hk i hi=>?_⟩;unfold abi;congr 1;rw[jq,fC,fC];constructor;rintro⟨a,ha,g⟩;rw[aR]at g;have hm:=Jl ha;refine⟨a,hm,?_⟩;rw[aR,aR];exact⟨g.1,g.2,(GS h hm).1 ha⟩;rintro⟨a,ha,g⟩;rw[aR,aR]at g;refine⟨a,(GS h ha).2 g.2.2,?_⟩;rw[aR];exact⟨g.1,g.2.1⟩;obtain⟨hl,c,hc,rfl⟩:=Jq h ha hi;obtain⟨q,hq,eq⟩:=dr (Jo h ha);obtain⟨p,hp,ep⟩:=dr (Jo h hc);have hpq:p<q:=by
  rcases sJ p q with g|g|g;exact g;subst g;have :a=c:=by rw[<-eq,<-ep]
  subst this;rcases hl with hl|hl;exact absurd hl.2 oO;exact absurd rfl hl.1;have :=eR.1 (LQ hv) q p hq hp g;rw[eq,ep]at this;exact absurd hl this
 have h1:(zf x).findIdx (λz=>decide (z.id=c.id))<=p:=by refine fM λg=>?_;have :=List.not_of_lt_findIdx g;rw[ep]at this;simp at this
 have h2:q<=(zf x).findIdx (λz=>decide (z.id=a.id)):=by
  refine fM λg=>?_;have hm:(zf x).findIdx (λz=>decide (z.id=a.id))<(zf x).length:=oO
  have e1:=cL (List.findIdx_getElem (w:=hm));have e2:=Vl hv (Jk (aT hm)) ha e1;have :=eR.1 (Jp hv) _ q hm hq g;rw[eq]at this;exact this e2
 unfold rkX;omega
theorem abk {x:iI}(h:lG x=0):BH x.atoms (abi x)=vj x:=by unfold BH vj;congr 1;refine List.filter_congr λa ha=>?_;congr 1;unfold zg;rw[jq,fC,fC];constructor;rintro⟨b,hb,g⟩;rw[aR]at g;exact⟨b,(GS h hb).2 g.2,g.1⟩;rintro⟨b,hb,g⟩;have hm:=Jl hb;refine⟨b,hm,?_⟩;rw[aR];exact⟨g,(GS h hm).1 hb⟩
def NT (l:List bO)(f:bB):List bO:=l.filter λa=>decide (a.kind=5)&&decide (a.file=f)
def Kv (V:List bB)(l:List bO)(f:bB):List Vx:=(NT l f).map λa=>(a.id,a.text,decide (a.id∈V))
def AN (V:List bB)(l:List bO)(f:bB):List bO:=l.filter λa=>decide (a.kind=6)&&decide (a.file=f)&&decide (a.id∈V)
def TJ (ls:List bB)(a:bO):Ed:=(ES ls a.fr,ES ls a.to)
def Jr (x:iI)(f:bB):List bB:=(NT x.atoms f).map λa=>a.id
def uA (x:iI)(f:bB):(List Vx×List Ed)×Int:=if(AL x f).2=false then(([],[]),7)else if(AL x f).1.kind≠1\/(AL x f).1.type≠1 then(([],[]),8)else((Kv (vj x) x.atoms f,(AN (vj x) x.atoms f).foldl (λl a=>pS l (TJ (Jr x f) a)) []),0)
theorem Re {l:List bO}{f:bB}{k:Nat}(h:k<l.length):NT (l.take (k+1)) f=NT (l.take k) f++if(decide (l[k].kind=5)&&decide (l[k].file=f))=true then[l[k]]else[]:=by unfold NT;rw[bQ h,mj,jm];split<;>rfl
theorem Rf {V:List bB}{l:List bO}{f:bB}{k:Nat}(h:k<l.length):AN V (l.take (k+1)) f=AN V (l.take k) f++if(decide (l[k].kind=6)&&decide (l[k].file=f)&&decide (l[k].id∈V))=true then[l[k]]else[]:=by unfold AN;rw[bQ h,mj,jm];split<;>rfl
theorem GU (l:List bO)(f:bB)(k:Nat):(NT (l.take k) f).length<=l.length:=bL (jo _ _) (by rw[aN];omega)
theorem NU (V:List bB)(l:List bO)(f:bB)(k:Nat):(AN V (l.take k) f).length<=l.length:=bL (jo _ _) (by rw[aN];omega)
def TK (f:bB)(ls:List bB):List (bB×AV):=(f,.int .i64 (-1))::ls.mapIdx λk i=>(i,.int .i64 (k:Int))
theorem abl (f:bB)(ls:List bB):(TK f ls).map (·.1)=f::ls:=by unfold TK;rw[bw];congr 1;refine List.ext_getElem (by simp) λi h1 h2=>?_;simp
theorem abm {f i:bB}{ls:List bB}(h:i∉f::ls):tG (TK f ls) i (.int .i64 (ls.length:Int))=TK f (ls++[i]):=by rw[NO (by rw[abl];exact h)];unfold TK;rw[List.mapIdx_append];simp
theorem Vm:∀(ls:List bB)(i:bB)(o:Nat),i∈ls->iE (ls.mapIdx λk j=>(j,AV.int .i64 ((k+o:Nat):Int))) i=some (.int .i64 ((ls.findIdx (λj=>decide (j=i))+o:Nat):Int))
 |[],i,o,h=>by cases h
 |a::ls,i,o,h=>by rw[List.mapIdx_cons,iE,List.findIdx_cons];by_cases g:i=a;rw[af g,ai g.symm];rfl;rw[aa g,ah (cU g)];have h:=(aC.1 h).resolve_left g;have :=Vm ls i (o+1) h;rw[show(λ(k:Nat) (j:bB)=>(j,AV.int .i64 ((k+(o+1):Nat):Int)))=λ(k:Nat) (j:bB)=>(j,AV.int .i64 ((k+1+o:Nat):Int))from by funext k j;rw[show k+(o+1)=k+1+o from oO]]at this;rw[this];show _=some (AV.int .i64 ((ls.findIdx (λj=>decide (j=i))+1+o:Nat):Int));rw[show ls.findIdx (λj=>decide (j=i))+(o+1)=ls.findIdx (λj=>decide (j=i))+1+o from oO]
theorem Rg {f i:bB}{ls:List bB}(hf:f∉ls)(h:i=f\/i∈ls):iE (TK f ls) i=some (.int .i64 (ES ls i)):=by
 unfold TK;rw[iE];by_cases g:i=f;rw[af g];have :¬ls.findIdx (λj=>decide (j=i))<ls.length:=λq=>by obtain⟨j,hj,e⟩:=DD.1 q;rw[cL e,g]at hj;exact hf hj
 unfold ES;rw[aa this];rw[aa g];have h:=h.resolve_left g;have h1:=Vm ls i 0 h;have h2:ls.findIdx (λj=>decide (j=i))<ls.length:=DD.2 ⟨i,h,ai rfl⟩;unfold ES;rw[af h2];exact h1
structure aiP (x:iI)(f:bB):Prop where
 nodup:(f::Jr x f).Nodup
 ends:∀a,a∈x.atoms->a.kind=6->a.file=f->(a.fr=f\/a.fr∈Jr x f)/\(a.to=f\/a.to∈Jr x f)
theorem abn {x:iI}{i:bB}(h:(AL x i).2=true):(AL x i).1∈x.atoms/\(AL x i).1.id=i:=by
 unfold AL at h⊢;cases hf:od x i with
 |some c=>unfold od at hf;have :=jr hf;exact⟨kM hf,cL this⟩
 |none=>rw[hf]at h;cases h
theorem Rh {x:iI}{a:bO}{i:bB}(h:nJ x a i (BC a.file i)=0):i=a.file\/i∈Jr x a.file:=by
 unfold nJ at h;by_cases g:ry x a i=false;rw[af g]at h;exact absurd h dD;rw[aa g]at h;have g:(AL x i).2=true:=by
  have :ry x a i=true:=by simpa using g
  unfold ry at this;rw[aR]at this;exact this.1
 by_cases g2:BC a.file i (AL x i).1=true;unfold BC gH at g2;simp only[kr,aR,decide_eq_true_eq]at g2;refine g2.imp id λq=>?_;obtain⟨h1,h2⟩:=abn g;exact aB.2 ⟨_,eC.2 ⟨h1,by simp[q.1,q.2]⟩,h2⟩;rw[aa g2]at h;exact absurd h dD
theorem aiQ {x:iI}{f:bB}(h:lG x=0)(h1:(AL x f).2=true)(h2:(AL x f).1.kind=1):aiP x f:=by have hv:=NP h;obtain⟨hm,hid⟩:=abn h1;refine⟨kA.2 ⟨λg=>?_,?_⟩,λa ha h6 hf=>?_⟩;obtain⟨b,hb,e⟩:=aB.1 g;obtain⟨hb,AZ⟩:=eC.1 hb;have :=Vl hv hb hm (e.trans hid.symm);rw[this,h2]at AZ;simp at AZ;unfold Jr NT;rw[Dv,Dw];refine(hv.atoms.filter _).imp λ{a b} q e=>?_;rw[e]at q;exact absurd q (mT _);have hr:=(Vj h a ha).2;unfold NL at hr;rw[aa oO]at hr;have hr:=iw.1 hr;subst hf;refine⟨Rh (hr _ ?_),Rh (hr _ ?_)⟩;simp only[bf,af h6];simp;simp only[bf,af h6];simp
theorem agG (V:List bB)(x:iI)(f:bB):(Kv V x.atoms f).map (λv=>v.1)=Jr x f:=by unfold Kv Jr;rw[dV];rfl
theorem Ri {V:List bB}{l:List bO}{f:bB}{k:Nat}(h:k<l.length):Kv V (l.take (k+1)) f=Kv V (l.take k) f++if(decide (l[k].kind=5)&&decide (l[k].file=f))=true then[(l[k].id,l[k].text,decide (l[k].id∈V))]else[]:=by unfold Kv;rw[Re h,aF];split<;>rfl
theorem abo (l:List Ed)(e:Ed):(pS l e).length<=l.length+1:=by unfold pS;split;omega;have :=aV List.length (DB (p:=(eZ · e)) (l:=l));simp only[ay,aS]at this⊢;omega
theorem EV (ls:List bB):∀(E:List bO)(l:List Ed),(E.foldl (λl a=>pS l (TJ ls a)) l).length<=E.length+l.length
 |[],l=>by simp
 |a::E,l=>by rw[fc,aS];have :=EV ls E (pS l (TJ ls a));have :=abo l (TJ ls a);omega
theorem TL {x:iI}(h:SzQ x)(h1:x.pats.length<=400)(h2:x.atoms.length<=2^16)(ho:∀a,a∈x.atoms->a.over.length<=2^47)(f:bB):au C 23 [.agg (iD x),.agg (cI f)] (λr=>r=.val (.eS [.agg (cGr (uA x f).1),.int .i64 (uA x f).2])):=by
 have hf:=Jf x f h.atoms;have hl:=FY h h1 h2 ho;have hV:(vj x).length<=2^47:=by have :=jo (λa=>!zg (DM x) a) x.atoms;unfold vj;rw[aj];omega
 obtain⟨V,eV⟩:∃V,vj x=V:=⟨_,rfl⟩;have hid:=agG V x f;unfold uA;rw[eV]at hl hV⊢;generalize AL x f=F at hf⊢;generalize Jr x f=I at hid⊢;clear eV;obtain⟨F,fb⟩:=F;obtain⟨ps,ats⟩:=x;simp only at hid h2;unfold iD at hf hl⊢;refine aq Tryz.func23 rfl rfl rfl (cl hf (bR ?_));cases fb with
 |false=>exact rfl
 |true=>
  rw[aa (show¬true=false by decide)];refine⟨none,eD (λg=>?_) (λg=>?_)⟩;rw[af (.inl g)];exact rfl;refine eD (λg2=>?_) (λg2=>?_);rw[af (.inr g2)];exact rfl;rw[aa (λq=>q.elim (λq=>q g) (λq=>q g2))];refine cl hl ?_;refine bW 111 (λk:Nat=>[(2,.ptr 2 0),(3,.ptr 3 0),(4,.ptr 4 0),(8,.ptr 8 0),(9,.p (.sl (pX V))),(10,.p (.int .i64 (k:Int)))]) (λk=>[(2,[.p (.sl (ps.map jc)),.p (.sl (ats.map cA))]),(3,aI (cI f)),(4,[.full [],.full []]),(8,[.gi 67 123 35 ((Kv V (ats.take k) f).map Gm),.full []])]) (λk=>k<=ats.length) (λk=>ats.length-k) 0 zL kK wS ⟨aA kK,aA kK,aA kK,DJ kK (bt.nW _ _ _) (bt.refl _),trivial⟩ ?_;intro k hk;have hvl:(Kv V (ats.take k) f).length<=2^16:=by unfold Kv;rw[aj];exact bL (GU ats f k) h2
  refine cu (λhlt=>?_) (λhge=>?_)
  ·have hn:=Ri (V:=V) (f:=f) hlt;refine ix hlt ?_;generalize ats[k]=a at hn;generalize Kv V (ats.take k) f=L at hn hvl;refine⟨none,aH (λg5=>?_) (λg5=>?_)⟩;rotate_left;rw[aa (by rw[ah g5,pL];decide),aW]at hn;exact nx (k+1) (aU (k+1) hlt mM kK wS (by rw[hn];exact oS));refine pZ (jH (a:=a.file) (b:=f) ?_);by_cases gf:a.file=f;rotate_left;rw[ah gf];rw[aa (by rw[ah gf,sB];decide),aW]at hn;exact nx (k+1) (aU (k+1) hlt mM kK wS (by rw[hn];exact oS));rw[ai gf];rw[af (by rw[ai g5,ai gf];rfl)]at hn;refine cw 12 kK ⟨_,Nc V a.id hV,_,rfl,_,rfl,?_⟩;refine⟨GP,GP (l:=[(a.id,a.text,decide (a.id∈V))]),by show((L.map Gm).length+1)*64<=_;rw[aj];omega,(L++[(a.id,a.text,decide (a.id∈V))]).map Gm,by rw[aF];rfl,?_⟩;exact nx (k+1) (aU (k+1) hlt mM kK wS (by rw[hn];exact oS))
  obtain rfl:k=ats.length:=oO
  rw[aP]at hvl⊢;generalize Kv V ats f=L at hid hvl⊢;clear hge hk;refine bW 111 (λk:Nat=>[(2,.ptr 2 0),(3,.ptr 3 0),(4,.ptr 4 0),(8,.ptr 8 0),(9,.p (.sl (pX V))),(12,.p (.int .i64 (k:Int)))]) (λk=>[(2,[.p (.sl (ps.map jc)),.p (.sl (ats.map cA))]),(3,aI (cI f)),(4,[.full [],.full []]),(8,[.gi 67 123 35 (L.map Gm),.p (.sl (((AN V (ats.take k) f).foldl (λl a=>pS l (TJ I a)) []).map pY))])]) (λk=>k<=ats.length) (λk=>ats.length-k) 0 zL kK wS ⟨aA kK,aA kK,aA kK,DJ kK (bt.refl _) (bt.Ie _),trivial⟩ ?_;intro k hk;have hel:((AN V (ats.take k) f).foldl (λl a=>pS l (TJ I a)) []).length<=2^16:=by have a1:=EV I (AN V (ats.take k) f) [];have a2:=NU V ats f k;rw[bA]at a1;omega
  refine cu (λhlt=>?_) (λhge=>?_)
  ·have hn:(AN V (ats.take (k+1)) f).foldl (λl a=>pS l (TJ I a)) []=((if(decide (ats[k].kind=6)&&decide (ats[k].file=f)&&decide (ats[k].id∈V))=true then[ats[k]]else[])).foldl (λl a=>pS l (TJ I a)) ((AN V (ats.take k) f).foldl (λl a=>pS l (TJ I a)) []):=by rw[Rf (V:=V) (f:=f) hlt,sL]
   refine ix hlt ?_;generalize ats[k]=a at hn;generalize(AN V (ats.take k) f).foldl (λl a=>pS l (TJ I a)) []=E at hn hel;have no:¬(a.kind=6/\a.file=f/\a.id∈V)->(AN V (ats.take (k+1)) f).foldl (λl a=>pS l (TJ I a)) []=E:=λq=>by rw[hn,aa (by simp only[aR,decide_eq_true_eq];exactλz=>q ⟨z.1.1,z.1.2,z.2⟩)];rfl
   refine⟨none,aH (λg6=>?_) (λg6=>?_)⟩;rotate_left;have hn:=no λq=>g6 q.1;exact nx (k+1) (aU (k+1) hlt mM kK wS (by rw[hn];exact oS));refine pZ (jH (a:=a.file) (b:=f) ?_);by_cases gf:a.file=f;rotate_left;rw[ah gf];have hn:=no λq=>gf q.2.1;exact nx (k+1) (aU (k+1) hlt mM kK wS (by rw[hn];exact oS));rw[ai gf];refine cl (Nc V a.id hV) ?_;by_cases gV:a.id∈V;rotate_left;rw[ah gV];have hn:=no λq=>gV q.2.2;exact nx (k+1) (aU (k+1) hlt mM kK wS (by rw[hn];exact oS));rw[ai gV];rw[af (by simp[g6,gf,gV])]at hn;have hn:(AN V (ats.take (k+1)) f).foldl (λl a=>pS l (TJ I a)) []=pS E (ES I a.fr,ES I a.to):=hn;have i1:=Jb (L,E) a.fr (by show L.length<=_;omega);have i2:=Jb (L,E) a.to (by show L.length<=_;omega);simp only[hid]at i1 i2;refine cw 13 kK ⟨_,i1,_,i2,_,rfl,_,QJ E (ES I a.fr,ES I a.to) oO,?_⟩;exact nx (k+1) (aU (k+1) hlt mM kK wS (by rw[hn];exact oS))
  obtain rfl:k=ats.length:=oO
  rw[aP];exact rfl
theorem TY (a b:List bB)(ha:a.length<=2^47)(hb:b.length<=2^47):au C 24 [.sl (pX a),.sl (pX b)] (λr=>r=.val (.bool (decide (a=b)))):=by
 unfold pX;have l1:((a.map cI).length:Int)=(a.length:Int):=by rw[aj]
 have l2:((b.map cI).length:Int)=(b.length:Int):=by rw[aj]
 refine aq Tryz.func24 rfl rfl rfl (eD (λg=>?_) (λg=>?_));have g:((a.map cI).length:Int)≠((b.map cI).length:Int):=g;rw[ah λe=>g (by rw[e])];exact rfl;have g:((a.map cI).length:Int)=((b.map cI).length:Int):=g;have hl:a.length=b.length:=oO
 refine bW 26 (λk:Nat=>[(0,.p (.sl (a.map cI))),(1,.p (.sl (b.map cI))),(12,.p (.int .i64 ((a.map cI).length:Int))),(13,.p (.int .i64 (k:Int)))]) (λ_=>[]) (λk=>k<=a.length/\a.take k=b.take k) (λk=>a.length-k) 0 ⟨zL,rfl⟩ kK wS trivial ?_;rintro k ⟨hk,hn⟩;refine cu (λhlt=>?_) (λhge=>?_);have hlb:k<b.length:=oO
 refine cw 9 kK (ix hlt (ix hlb (pZ (AD (a:=a[k]) (b:=b[k]) ?_))));by_cases h:a[k]=b[k];rw[ai h];exact nx (k+1) (aU (k+1) ⟨hlt,by rw[bQ hlt,bQ hlb,hn,h]⟩ mM kK wS trivial);rw[ah h];rw[ah λe=>h (by simp only[e])];exact rfl;obtain rfl:k=a.length:=oO
 rw[aP,hl,aP]at hn;rw[ai hn];exact rfl
theorem Rq {x:iI}(hs:Ji x)(h:lG x=0):au C 25 [.agg (iD x)] (λr=>r=.val (.sl (pX (vj x))))/\au C 26 [.agg (iD x)] (λr=>r=.val (.sl (pX (vj x)))):=by have h8:=hs.pats;have ale:=hs.atoms;refine⟨?_,FY hs.v.q oO oO λa ha=>by have :=(hs.fields a ha).1;omega⟩;rw[<-abk h];exact zj (abj h) ⟨oO,λa ha=>by have :=(hs.fields a ha).1;omega⟩
theorem abB {x:iI}(hs:Ji x):(vj x).length<=150:=by have :=hs.atoms;have :=jo (λa=>!zg (DM x) a) x.atoms;unfold vj;rw[aj];omega
def cF1:dH:=⟨1,aM,1,aM,[],0,[],aM,aM,[],[]⟩
def cF2:dH:=⟨5,aM,0,aM,[],0,[],aM,aM,[[120]],[]⟩
def pP:iA:=⟨[97,110,110],[],0,[],[cF1,cF2]⟩
def dP:Dg:=⟨[23,180,41,195,250,231,133,240,108,104,101,57,105,245,227,40,114,220,151,71,250,157,134,243,99,120,231,116,28,188,111,232],rfl⟩
def cR1:dH:=⟨7,aM,0,aM,[],0,[],aM,aM,[],[⟨dP,1⟩]⟩
def pQ:iA:=⟨[97,110,110],[],0,[],[cR1]⟩
def dQ:Dg:=⟨[155,127,202,92,215,55,3,234,44,4,128,9,133,60,1,125,99,3,124,77,133,249,216,159,23,223,165,91,1,144,194,85],rfl⟩
def sP:List fk:=[⟨dP,pP⟩]
def sQ:List fk:=[⟨dP,pP⟩,⟨dQ,pQ⟩]
theorem abF {p:iA}{e:Bytes}{d:Dg}(h:sA p=(e,0))(hs:ai1 e=d.1):mA p=(d,0):=by unfold mA;rw[h,aa (λg=>g rfl)];exact aV (λz:Dg=>(z,(0:Int))) (wu ((ai2 e).trans hs))
theorem VD {p:iA}(h:(sA p).2=0):sA p=((sA p).1,0):=by rw[<-h]
theorem idP:mA pP=(dP,0):=abF (VD kK) kK
theorem idQ:mA pQ=(dQ,0):=abF (VD kK) kK
theorem abG:(wB pP).1=(eM pP).1.map (iT dP):=by unfold wB;rw[idP,aa (λg=>g rfl)]
def lP:List bO:=(eM pP).1.map (iT dP)
theorem VE {s:List fk}{p:iA}{d:Dg}(hi:mA p=(d,0))(hg:(uW s d).2=false)(hn:oM (gO s) (bU p)=true)(hr:pJ s p d=0)(hl:s.length<400):Kf s p=(mQ s ⟨d,p⟩,d,0):=by unfold Kf;rw[hi,aa (λg=>g rfl),hg,aa dD,hn,aa dD,hr,aa (λg=>g rfl),aa oO]
theorem ai4:pJ sP pQ dQ=0:=by
 have h1:iH sP ⟨dP,1⟩=(lP.getD 1 de,true):=by unfold iH;rw[show(uW sP dP).1=pP from kK,abG];exact aa dD
 have ho:ovE sP cR1 dQ ⟨dP,1⟩=0:=by unfold ovE;rw[h1];kernel_rfl
 show bk ([ZZ sP cR1 dQ]++[])=0;have hc:ZZ sP cR1 dQ=0:=by show bk (0::0::0::0::([ovE sP cR1 dQ ⟨dP,1⟩]++[]))=0;rw[ho];rfl
 rw[hc];rfl
theorem ai5:Kf [] pP=(sP,dP,0):=(VE idP rfl kK kK dD).trans rfl
theorem ai6:Kf sP pQ=(sQ,dQ,0):=(VE idQ kK kK ai4 dD).trans (aV (λz:List fk=>(z,dQ,(0:Int))) kK)
theorem Ub (c:dH)(h1:c.name=[])(h2:c.data=[])(h3:SzS c.lines)(h4:c.over.length<=1):SzC c:=⟨by rw[h1];exact zL,by rw[h2];exact zL,h3,oO⟩
theorem ai7:WI pP:=UU ⟨dD,dD,dD,dD,λc hc=>by rcases aC.1 hc with rfl|hc;exact Ub _ rfl rfl ⟨zL,λx h=>by cases h⟩ dD;obtain rfl:=aL.1 hc;exact Ub _ rfl rfl ⟨dD,λx h=>by rw[aL.1 h];decide⟩ dD⟩ (aaf kK)
theorem ai8:WI pQ:=UU ⟨dD,dD,dD,dD,λc hc=>by obtain rfl:=aL.1 hc;exact Ub _ rfl rfl ⟨zL,λx h=>by cases h⟩ dD⟩ (aaf kK)
theorem agN:GO []:=⟨⟨zL,λx h=>by cases h⟩,agl kK,λx h=>by cases h⟩
theorem Jw:GO sP:=by have :=(Vf agN ai7 (bL (aa2 kK) dD) (by rw[ai5])).1;rwa[ai5]at this
theorem aee:GO sQ:=by have :=(Vf Jw ai8 (bL (aa2 kK) dD) (by rw[ai6])).1;rwa[ai6]at this
def lQ:List bO:=(eM pQ).1.map (iT dQ)
theorem ai9:(wB pQ).1=lQ:=by unfold wB;rw[idQ,aa (λg=>g rfl)];rfl
theorem ae4:rJ sP=⟨[⟨dP,bU pP⟩],lP⟩:=by show(⟨[knF ⟨dP,pP⟩],jJ pP++[]⟩:iI)=_;rw[aW,show jJ pP=lP from abG];rfl
theorem aja:rJ sQ=⟨[⟨dP,bU pP⟩,⟨dQ,bU pQ⟩],lP++lQ⟩:=by show(⟨[knF ⟨dP,pP⟩,knF ⟨dQ,pQ⟩],jJ pP++(jJ pQ++[])⟩:iI)=_;rw[aW,show jJ pP=lP from abG,show jJ pQ=lQ from ai9];rfl
theorem VF:lP.length=4:=kK
theorem abH:lQ.length=1:=kK
theorem EZ:∀a,a∈lP->a.over=[]:=λa ha=>by have h:(lP.all λa=>decide (a.over=[]))=true:=kK;exact cL (br.1 h a ha)
theorem q_Q:∀a,a∈lQ->a.over=[⟨dP,1⟩]/\a.kind=7/\a.id=⟨dQ,0⟩:=λa ha=>by have h:(lQ.all λa=>decide (a.over=[⟨dP,1⟩])&&(decide (a.kind=7)&&decide (a.id=⟨dQ,0⟩)))=true:=kK;have :=br.1 h a ha;simpa using this
theorem ajb:(⟨dQ,0⟩:bB)≠⟨dP,1⟩:=λh=>by have :decide ((⟨dQ,0⟩:bB)=⟨dP,1⟩)=false:=kK;rw[ai h]at this;cases this
def e1 (_:bB):Bool:=true
def e2 (i:bB):Bool:=!decide (i=⟨dP,1⟩)
def rk2 (i:bB):Nat:=if i=⟨dP,1⟩then 1 else 0
theorem ajc:Gb lP e1 (λ_=>0):=by
 refine⟨λi=>?_,λa ha _ i hi=>by rw[EZ a ha]at hi;cases hi⟩;have :(lP.any λa=>decide (i∈a.over)&&(decide (a.kind=7)&&e1 a.id))=false:=nC.2 λa ha=>by rw[EZ a ha];simp
 rw[this];rfl
theorem ajd:Gb (lP++lQ) e2 rk2:=by
 refine⟨λi=>?_,λa ha _ i hi=>?_⟩;rw[List.any_append,show(lP.any λa=>decide (i∈a.over)&&(decide (a.kind=7)&&e2 a.id))=false from nC.2 λa ha=>by rw[EZ a ha];simp,iP];have :(lQ.any λa=>decide (i∈a.over)&&(decide (a.kind=7)&&e2 a.id))=decide (i=⟨dP,1⟩):=by rw[jq,fC,decide_eq_true_eq];constructor;rintro⟨a,ha,h⟩;rw[(q_Q a ha).1]at h;simp at h;exact h.1;rintro rfl;have h1:=abH;have hm:lQ[0]' oO∈lQ:=aT _;generalize lQ[0]' oO=a at hm;obtain⟨g1,g2,g3⟩:=q_Q a hm;refine⟨a,hm,?_⟩;rw[g1,g2,g3];unfold e2;rw[ah ajb];simp
 rw[this];rfl;rcases bf.1 ha with ha|ha;rw[EZ a ha]at hi;cases hi;obtain⟨g1,-,g3⟩:=q_Q a ha;rw[g1]at hi;rw[aL.1 hi,g3];unfold rk2;rw[aa ajb,af rfl];decide
theorem aje:(BH lP e1).length=4:=kK
theorem ae5:BH (lP++lQ) e2=[⟨dP,0⟩,⟨dP,2⟩,⟨dP,3⟩,⟨dQ,0⟩]:=kK
theorem ajf:¬(⟨dP,1⟩:bB)∈BH (lP++lQ) e2:=λh=>by have :decide ((⟨dP,1⟩:bB)∈BH (lP++lQ) e2)=false:=kK;rw[ai h]at this;cases this
theorem Ob:oM (gO sP) (bU pQ)=true:=kK
theorem ajg:oM (gO []) (bU pP)=true:=kK
end Qv
