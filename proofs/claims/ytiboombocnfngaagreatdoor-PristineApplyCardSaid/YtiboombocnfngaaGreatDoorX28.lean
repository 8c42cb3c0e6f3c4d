/- Part 34 of the proof: its lemmas. No condition. -/
import Derived.Test.YtiboombocnfngaaGreatDoorX12
import Derived.Test.YtiboombocnfngaaGreatDoorX21
import Derived.Test.YtiboombocnfngaaGreatDoorX25
import Derived.Test.YtiboombocnfngaaGreatDoorX26
set_option maxRecDepth 10000
set_option maxHeartbeats 80000000
set_option linter.all false
open Go Go.Proofs Go.RowKit
namespace Qv
def Wj (x:jj):Bool:=!CA x&&decide (Ar x=0)
structure FH (x:jj):Prop where
 pats:x.pats.length<=8
 atoms:x.atoms.length<=150
 cS:∀k,k∈x.pats->k.cS.length<=20
 fields:∀a,a∈x.atoms->a.over.length<=100/\a.name.length<=100/\a.data.length<=100/\a.text.length<=100
theorem Sr {x:jj}(h:CA x=false):FH x:=by unfold CA at h;rw[mO,mO,mO,ox,ox,decide_eq_false_iff_not,decide_eq_false_iff_not]at h;obtain⟨h1,h2,h3,h4⟩:=h;refine⟨oO,oO,λk hk=>?_,λa ha=>?_⟩;have :=h2 k hk;rw[decide_eq_true_eq]at this;omega;have :=h1 a ha;unfold vB at this;rw[decide_eq_true_eq]at this;omega
theorem FH.v {x:jj}(h:FH x):SzV x:=by refine⟨⟨?_,λk hk=>?_,?_⟩,λa ha=>?_⟩;have :=h.pats;omega;have :=h.cS k hk;omega;have :=h.atoms;omega;have :=h.fields a ha;omega
theorem Ys (x:jj)(h1:x.pats.length<=2^47)(h2:x.atoms.length<=2^47):av C 17 [.agg (ij x)] (λr=>r=.val (.bool (Wj x))):=by
 refine ak Tryz.func17 rfl rfl rfl ⟨none,cl (Ut x h1 h2) (bF ?_)⟩;unfold Wj;cases hg:CA x with
 |true=>exact rfl
 |false=>refine cl (Uw (Sr hg).v) (aC (λg=>?_) (λg=>?_));have g:Ar x=0:=g;rw[ah g];exact rfl;have g:¬Ar x=0:=g;rw[ai g];exact rfl
theorem MW {α:Type}{R:α->α->Prop}(ht:∀{a b c},R a b->R b c->R a c){l:List α}(h:∀k (hk:k+1<l.length),R (l[k]' oO) l[k+1]):l.Pairwise R:=by
 rw[iH];intro i j hi hj hij;obtain⟨n,rfl⟩:∃n,j=i+1+n:=⟨j-i-1,oO⟩;induction n with
 |zero=>exact h i hj
 |succ n ih=>exact ht (ih oO oO) (h (i+1+n) hj)
theorem Ss {ps:List yb}:∀(l:List yb)(out:List Dg),(∀k,k∈l->k∈ps)->out.Nodup/\(∀d,d∈out->∃k,k∈ps/\k.id=d/\k.id∉k.cS)->(yL out l).Nodup/\∀d,d∈yL out l->∃k,k∈ps/\k.id=d/\k.id∉k.cS
 |[],out,_,h=>h
 |q::l,out,hs,h=>by
  show(yL (if Ap out q=true then out++[q.id]else out) l).Nodup/\∀d,d∈yL (if Ap out q=true then out++[q.id]else out) l->_;refine Ss l _ (λk hk=>hs k (.tail _ hk)) ?_;cases hr:Ap out q with
  |false=>rw[af dD];exact h
  |true=>rw[ag rfl];unfold Ap at hr;rw[bn,ek,decide_eq_false_iff_not,bD]at hr;refine⟨?_,λd hd=>?_⟩;rw[og];refine⟨h.1,by simp,λa ha b hb e=>?_⟩;obtain rfl:=aO.1 hb;subst e;exact hr.1 ha;rcases bk.1 hd with hd|hd;exact h.2 d hd;obtain rfl:=aO.1 hd;exact⟨q,hs q (.head _),rfl,λc=>hr.1 (dn (hr.2 _ c))⟩
theorem Wk {ps:List yb}:∀(n:Nat)(out:List Dg),out.Nodup/\(∀d,d∈out->∃k,k∈ps/\k.id=d/\k.id∉k.cS)->(Yh ps n out).Nodup/\∀d,d∈Yh ps n out->∃k,k∈ps/\k.id=d/\k.id∉k.cS|0,out,h=>h|n+1,out,h=>Wk n _ (Ss ps out (λ_ h=>h) h)
theorem ahL {x:jj}(h:Ar x=0):UH x:=by
 unfold Ar at h;by_cases h1:GC x≠0;rw[ag h1]at h;exact absurd h h1;rw[af h1]at h;by_cases h2:bf ((List.range x.atoms.length).map (Et x))≠0;rw[ag h2]at h;exact absurd h h2;have h1:=cK.1 h1;have h2:=fE.1 (cK.1 h2);unfold GC at h1;by_cases h3:400<x.pats.length;rw[ag h3]at h1;exact absurd h1 dD;rw[af h3]at h1;by_cases h4:bf ((List.range x.pats.length).map (Es x.pats))≠0;rw[ag h4]at h1;exact absurd h1 h4;rw[af h4]at h1;have h4:=fE.1 (cK.1 h4);by_cases h5:x.pats.any (Wf x)=true;rw[ag h5]at h1;exact absurd h1 dD;rw[af h5]at h1;by_cases h6:(Aq x).length<x.pats.length;rw[ag h6]at h1;exact absurd h1 dD;have gk:∀k (hk:k<x.pats.length),x.pats.getD k GB=x.pats[k]:=λk hk=>by rw[dr,ay hk];rfl
 have ga:∀k (hk:k<x.atoms.length),x.atoms.getD k dK=x.atoms[k]:=λk hk=>by rw[dr,ay hk];rfl
 have hp:x.pats.Pairwise λa b=>dy a.id b.id<0:=by refine MW (R:=λa b:yb=>dy a.id b.id<0) (λh1 h2=>gF h1 h2) λk hk=>?_;have :=h4 (Es x.pats (k+1)) (aJ.2 ⟨k+1,fO.2 hk,rfl⟩);unfold Es at this;rw[tS,gk (k+1) hk,gk k oO]at this;by_cases g1:x.pats[k+1].id=aZ;rw[ag g1]at this;exact absurd this dD;rw[af g1]at this;by_cases g2:(0<k+1/\¬dy x.pats[k].id x.pats[k+1].id<0)\/sy x.pats[k+1].cS=false;rw[ag g2]at this;exact absurd this dD;exact cK.1 λc=>g2 (.inl ⟨qL _,c⟩)
 refine⟨hp,MW (R:=λa b:bR=>gb a.id b.id<0) (λh1 h2=>pG h1 h2) λk hk=>?_,λa ha=>?_,λk hk=>?_⟩;have :=h2 (Et x (k+1)) (aJ.2 ⟨k+1,fO.2 hk,rfl⟩);unfold Et at this;rw[tS,ga (k+1) hk,ga k oO]at this;by_cases g:0<k+1/\¬gb x.atoms[k].id x.atoms[k+1].id<0;rw[ag g]at this;exact absurd this dD;exact cK.1 λc=>g ⟨qL _,c⟩;obtain⟨k,hk,rfl⟩:=fS ha;have :=h2 (Et x k) (aJ.2 ⟨k,fO.2 hk,rfl⟩);unfold Et at this;rw[ga k hk]at this;refine iE λc=>?_;by_cases g:0<k/\¬gb (x.atoms.getD (k-1) dK).id x.atoms[k].id<0;rw[ag g]at this;exact absurd this dD;rw[af g,ag c]at this;exact absurd this dD;obtain⟨i1,i2⟩:=Wk (ps:=x.pats) x.pats.length [] ⟨tU,λd hd=>by cases hd⟩;have hin:k.id∈Aq x:=JH (l:=Aq x) (m:=lN x) i1 (λd hd=>by obtain⟨q,hq,rfl,-⟩:=i2 d hd;exact aJ.2 ⟨q,hq,rfl⟩) (by unfold lN;rw[aj];omega) _ (aJ.2 ⟨k,hk,rfl⟩);obtain⟨q,hq,e,hn⟩:=i2 _ hin;obtain⟨i,hi,rfl⟩:=fS hk;obtain⟨j,hj,rfl⟩:=fS hq;rcases Ey i j with c|c|c;have :=iH.1 hp i j hi hj c;rw[e]at this;exact absurd this (ji _);subst c;exact hn;have :=iH.1 hp j i hj hi c;rw[e]at this;exact absurd this (ji _)
theorem Kb:∀(l:List dw)(own:List bR),KY own->own.length+4001*l.length<=100000->xS l own=iG l own|[],own,_,_=>rfl|c::l,own,hn,hl=>by rw[aW]at hl;rw[Af,Mf c own oO hn,iQ];by_cases h1:cG c≠0;rw[ag h1,ag h1];rw[af h1,af h1];by_cases h2:jA c own≠0;rw[ag h2,ag h2];rw[af h2,af h2];have hm:=uD (cK.1 h1) own.length;exact Kb l _ (Jv hn c) (by rw[aA];omega)
theorem GG {p:gr}(h:p.changes.length<=20):tR p=di p:=by rw[Jm];unfold tR;rw[Kb p.changes [] (λn hn=>absurd hn (jL _)) (by rw[bt];omega)]
theorem acF {p:gr}(hf:DW p)(ho:SH p):av C 252 [.agg (cP p)] (λr=>r=.val (.eN [.str (eX (kC p)),.int .i64 0])):=by refine Ju p (hf.enc ho) (by have :=wB ho;omega) (Mm ho) (by have :=ho.changes;omega) λc hc=>?_;obtain⟨g1,g2,g3,g4,g5,-⟩:=eD (ho.each c hc);obtain⟨k1,k2⟩:=pR g5 g1 g2;refine⟨g1,g2,?_,?_⟩;by_cases h5:c.kind=5;have :=(g3 h5).1;omega;rw[k2 h5];exact zL;by_cases h5:c.kind=5;rw[k1 h5];exact zL;have :=g4 h5;omega
theorem Ln {p:gr}(hf:DW p)(hl:p.changes.length<=20):av C 107 [.agg (cP p)] (λr=>r=.val (.eN [.str (mg p).1,.int .i64 (mg p).2])):=by have hx:=Jr p hf.sz λh=>acF hf (su (by rw[<-GG hl];exact h));rw[GG hl]at hx;refine bu qZ [] Tryz.func107 rfl rfl rfl ⟨_,hx.eG,λr hr=>?_⟩;unfold exR at hr;unfold mg;by_cases h1:(di p).2≠0;rw[ag h1]at hr;subst hr;rw[ag h1];exact rfl;rw[af h1]at hr;rw[af h1];by_cases h2:(eX (kC p)).length<=65536;rw[ag h2]at hr;subst hr;rw[ag h2];exact⟨_,rfl,rfl⟩;rw[af h2]at hr;subst hr;rw[af h2];exact rfl
theorem UI (p:gr):(mg p).1.length<=65536:=by
 unfold mg;repeat' split
 all_goals first|exact zL|assumption
theorem acG {p:gr}(hf:DW p)(hl:p.changes.length<=20):av C 41 [.agg (cP p)] (λr=>r=.val (idR (jB p))):=by have hn:=UI p;have he:=Ln hf hl;unfold jB;generalize mg p=e at hn he;obtain⟨b,e⟩:=e;simp only at hn;refine ak Tryz.func41 rfl rfl rfl (cl he (cm (λg=>?_) (λg=>?_)));have g:e≠0:=g;rw[ag g];exact rfl;have g:e=0:=g;rw[af (λc=>c g)];refine cl (VN b oO) ?_;exact rfl
end Qv
