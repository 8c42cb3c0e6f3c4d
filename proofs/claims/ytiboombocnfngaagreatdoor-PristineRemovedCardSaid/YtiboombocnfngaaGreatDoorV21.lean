/- Part 27 of the proof: its lemmas. No condition. -/
import Derived.Test.YtiboombocnfngaaGreatDoorV2
import Derived.Test.YtiboombocnfngaaGreatDoorV3
import Derived.Test.YtiboombocnfngaaGreatDoorV4
import Derived.Test.YtiboombocnfngaaGreatDoorV5
import Derived.Test.YtiboombocnfngaaGreatDoorV7
import Derived.Test.YtiboombocnfngaaGreatDoorV10
import Derived.Test.YtiboombocnfngaaGreatDoorV16
set_option maxRecDepth 10000
set_option maxHeartbeats 80000000
set_option linter.all false
open Go Go.Proofs Go.RowKit
namespace Qv
def sA (l:List LN):List (Dg×AV):=l.map λk=>(k.id,.sl (jW k.jU))
def sB (l:List cq):List (bV×AV):=l.map λa=>(a.id,.agg (cA a))
def Gx (x:vO):List AV:=[kMp wD (sA x.pats),kMp wI (sB x.atoms)]
structure agT (x:vO):Prop where
 pats:(x.pats.map λk=>k.id).Nodup
 atoms:(x.atoms.map λa=>a.id).Nodup
 lp:x.pats.length<=2^20
 la:x.atoms.length<=2^28
theorem Rg {α κ:Type}{g:α->κ}{l:List α}(h:(l.map g).Nodup){k:Nat}(hk:k<l.length):g l[k]∉(l.take k).map g:=by intro hm;obtain⟨y,hy,e⟩:=aC.1 hm;obtain⟨i,hi,rfl⟩:=ig hy;rw[aL]at hi;rw[DH]at e;have :=(mI.1 h) i k (by rw[ah];omega) (by rw[ah];exact hk) oO;rw[qm,qm]at this;exact this e
theorem TD {x:vO}(h:agT x):aq C 42 [.agg (ov x)] (λr=>r=.val (.agg (Gx x))):=by
 obtain⟨hp,ha,hlp,hla⟩:=h;obtain⟨ps,ats⟩:=x;simp only at hp ha hlp hla;unfold ov Gx;refine qz {qu with frm:=[7,12]} [] Tryz.func42 rfl rfl rfl ?_;refine tV 39 0 (λk:Nat=>[(1,.ptr 1 0),(2,.ptr 2 0),(3,.ptr 3 0),(12,.p (.sl (ps.map mM))),(13,.p (.int .i64 ((ps.map mM).length:Int))),(14,.p (.int .i64 (k:Int)))]) (λ_=>[(1,[.p (.sl (ps.map mM)),.p (.sl (iu ats))]),(3,[.fG 8,.fG 9]),(2,[.p .vU,.p .vU])]) (λ_=>[]) [] (λ_=>[]) (λk=>[(8,kE wD (sA (ps.take k))),(9,[])]) (λ_=>[]) (λk=>k<=ps.length) (λk=>ps.length-k) 0 zL kK wS oS trivial trivial ⟨gB rfl rfl,gB rfl rfl,trivial⟩ trivial ?_;intro k hk;refine cg (λhlt=>?_) (λhge=>?_);have hnot:=Rg hp hlt;have hts:sA (ps.take (k+1))=ur (sA (ps.take k)) ps[k].id (.sl (jW ps[k].jU)):=by rw[Vp (by unfold sA;rw[fL];exact hnot)];unfold sA;rw[cm hlt]
 refine ix hlt ?_;generalize ps[k]=p at hts;refine⟨qC,bY,wD.fits p.id,(by simp only[bG];exact iP wD _),kE wD (sA (ps.take (k+1))),(by simp only[bG];rw[hts];exact xI wD _ p.id _),?_⟩;exact nx (k+1) (oD (k+1) hlt oO kK wS oS trivial trivial ⟨gB rfl (by simp only[bG]),gB rfl rfl,trivial⟩ trivial);obtain rfl:k=ps.length:=oO
 rw[aU];refine .inl ⟨8,kY wD (sA ps),kV (sA ps),⟨kE wD (sA ps),rfl,He wD _,Hf wD _⟩,?_⟩;refine tV 39 0 (λk:Nat=>[(1,.ptr 1 0),(2,.ptr 2 0),(3,.ptr 3 0),(26,.p (.sl (ats.map cA))),(27,.p (.int .i64 ((ats.map cA).length:Int))),(28,.p (.int .i64 (k:Int)))]) (λ_=>[(3,[.p (kMp wD (sA ps)),.fG 9]),(2,[.p .vU,.p .vU])]) (λ_=>[]) [] (λ_=>[]) (λk=>[(9,kE wI (sB (ats.take k)))]) (λ_=>[]) (λk=>k<=ats.length) (λk=>ats.length-k) 0 zL kK wS oS trivial trivial ⟨gB rfl rfl,trivial⟩ trivial ?_;intro k hk;refine cg (λhlt=>?_) (λhge=>?_);have hnot:=Rg ha hlt;have hts:kE wI (sB (ats.take (k+1)))=kE wI (sB (ats.take k))++[(.agg (cI ats[k].id),.p (.agg (cA ats[k])))]:=by unfold sB kE;rw[cm hlt,aD];rfl
 have hnot:ats[k].id∉(sB (ats.take k)).map (·.1):=by unfold sB;rw[fL];exact hnot
 refine ix hlt ?_;generalize ats[k]=p at hts hnot;refine⟨Oh,kB,wI.fits p.id,(by simp only[bG];exact iP wI _),kE wI (sB (ats.take k))++[(.agg (cI p.id),.agg (aG (cA p)))],(by simp only[bG];exact abw wI hnot),?_⟩;exact nx (k+1) (oD (k+1) hlt oO kK wS oS trivial trivial ⟨Xp rfl hts (λG w v h=>.p _ _ (h.eG kK)),trivial⟩ trivial);obtain rfl:k=ats.length:=oO
 rw[aU];refine .inl ⟨9,kY wI (sB ats),kV (sB ats),⟨kE wI (sB ats),rfl,He wI _,Hf wI _⟩,?_⟩;exact rfl
theorem Jw (x:vO)(d:Dg):aq C 43 [.agg (cD d),.imp (Gx x)] (λr=>r=.val (.bool (!decide (d∈DS x)))):=by
 unfold Gx kMp;refine qz qu [] Tryz.func43 rfl rfl rfl ?_;have hf:jd (sA x.pats) d=(x.pats.find? λk=>decide (k.id=d)).map λk=>.sl (jW k.jU):=BV x.pats d;cases hx:x.pats.find? λk=>decide (k.id=d)with
 |some k=>rw[hx]at hf;have hm:d∈DS x:=aC.2 ⟨k,th hx,by have :=mG hx;simpa using this⟩;refine⟨qC,bY,wD.fits d,(by rw[show pT _ _=_ from nM wD (sA x.pats)];exact iP wD _),some (.p (.sl (jW k.jU))),(by rw[show pT _ _=_ from nM wD (sA x.pats)];exact(rM wD _ d).trans (by rw[hf];rfl)),?_⟩;refine bH ?_;rw[an hm];exact rfl
 |none=>
  rw[hx]at hf;have hm:d∉DS x:=λhm=>by obtain⟨k,hk,e⟩:=aC.1 hm;have :=xB.1 hx k hk;simp[e]at this
  refine⟨qC,bY,wD.fits d,(by rw[show pT _ _=_ from nM wD (sA x.pats)];exact iP wD _),none,(by rw[show pT _ _=_ from nM wD (sA x.pats)];exact(rM wD _ d).trans (by rw[hf];rfl)),.slice none 0 0,kK,?_⟩;refine bH ?_;rw[ak hm];exact rfl
theorem XA (a b:LN):aq C 120 [.agg (mM a),.agg (mM b)] (λr=>r=.val (.int .i64 (ee a.id b.id))):=by refine ai Tryz.func120 rfl rfl rfl ?_;refine cl (Dq a.id b.id) ?_;exact rfl
theorem XB (a b:cq):aq C 86 [.agg (cA a),.agg (cA b)] (λr=>r=.val (.int .i64 (gV a.id b.id))):=by refine ai Tryz.func86 rfl rfl rfl ?_;refine cl (Lh a.id b.id) ?_;exact rfl
theorem Ro {α:Type}(le:α->α->Bool)(O A B:List α)(a b:α):O++(a::A).merge (b::B) le=if le a b=true then(O++[a])++A.merge (b::B) le else(O++[b])++(a::A).merge B le:=by rw[DP];split<;>simp
theorem NY (a b:List LN)(hl:a.length+b.length<=2^30):aq C 119 [.sl (a.map mM),.sl (b.map mM),.fn (.func 120) [] []] (λr=>r=.val (.sl ((a.merge b leK).map mM))):=by
 obtain⟨m,hm⟩:∃m,a.merge b leK=m:=⟨_,rfl⟩;rw[hm];have hml:(a.map mM).length+(b.map mM).length<=2^30:=by rw[ah,ah];exact hl
 refine aY qu [] Tryz.func119 rfl rfl rfl ?_;refine nx ((a.map mM).length+(b.map mM).length) ?_;refine⟨(a.map mM).length+(b.map mM).length,rfl,rfl,by show 56*_<=_;omega,oO,?_⟩;refine bJ 52 (λx:List LN×List LN×List LN=>[(0,.p (.sl (x.1.map mM))),(1,.p (.sl (x.2.1.map mM))),(2,.p (.fn (.func 120) [] [])),(7,.fM 13 99 33 (x.2.2.map mM))]) (λ_=>[]) (λx=>x.2.2++x.1.merge x.2.1 leK=m/\x.2.2.length+(x.1.length+x.2.1.length)<=2^30) (λx=>x.1.length+x.2.1.length) (a,b,[]) ⟨hm,by simpa using hl⟩ kK wS trivial ?_;rintro⟨A,B,O⟩ ⟨hE,hn⟩;have hE:O++A.merge B leK=m:=hE;have hn:O.length+(A.length+B.length)<=2^30:=hn;have last:∀A B:List LN,O++(A++B)=m->O.length+(A.length+B.length)<=2^30->(∀zs,zs∈O.map mM->zs.length=33)/\(∀zs,zs∈A.map mM->zs.length=33)/\((O.map mM).length+(A.map mM).length)*56<=140737488355328/\∃zs,O.map mM++A.map mM=zs/\(∀ys,ys∈zs->ys.length=33)/\(∀zs,zs∈B.map mM->zs.length=33)/\(zs.length+(B.map mM).length)*56<=140737488355328/\zs++B.map mM=m.map mM:=λA B h1 h2=>⟨pg,pg,by rw[ah,ah];omega,(O++A).map mM,by rw[aD],pg,pg,by rw[ah,ah,ay];omega,by rw[<-aD,bu,h1]⟩;cases A with
 |nil=>obtain⟨q1,q2,q3,zs,q4,q5,q6,q7,q8⟩:=last [] B (by rw[List.nil_merge]at hE;exact hE) hn;refine⟨none,?_⟩;refine aF (λh=>absurd (show(0:Int)>0 from h) dD) (λ_=>?_);refine⟨q1,q2,q3,zs,q4,?_⟩;refine⟨q5,q6,q7,_,q8,?_⟩;exact .inr rfl
 |cons x A=>
  cases B with
  |nil=>obtain⟨q1,q2,q3,zs,q4,q5,q6,q7,q8⟩:=last (x::A) [] (by simpa using hE) hn;refine⟨none,?_⟩;refine aF (λ_=>?_) (λh=>absurd (show(((x::A).map mM).length:Int)>0 by simp) h);refine aF (λh=>absurd (show(0:Int)>0 from h) dD) (λ_=>?_);refine⟨q1,q2,q3,zs,q4,?_⟩;refine⟨q5,q6,q7,_,q8,?_⟩;exact .inr rfl
  |cons y B=>rw[Ro]at hE;have hn2:O.length+(A.length+1+(B.length+1))<=2^30:=hn;refine⟨none,?_⟩;refine aF (λ_=>?_) (λh=>absurd (show(((x::A).map mM).length:Int)>0 by simp) h);refine aF (λ_=>?_) (λh=>absurd (show(((y::B).map mM).length:Int)>0 by simp) h);refine bW 9 kK ?_;refine⟨dD,_,rfl,rfl,?_⟩;refine⟨dD,_,rfl,rfl,?_⟩;refine⟨_,(XA x y).dz,?_⟩;refine aF (λh=>?_) (λh=>?_);rw[ag (show leK x y=true from an h)]at hE;refine⟨.plan ⟨[6,7],[5],[],[]⟩ (.one 0 (.one 1 (.one 2 (.one 3 (.one 4 (.one 6 (.one 7 (.alt 5 (.one 8 (.one 9 .fin)) .stop)))))))) none,kK,?_⟩;refine⟨_,rfl,?_⟩;refine⟨_,rfl,?_⟩;refine⟨.p (.imp (mM x)),⟨dD,_,rfl,rfl,rfl⟩,?_⟩;refine⟨_,rfl,?_⟩;refine⟨_,rfl,?_⟩;refine⟨_,rfl,rfl,?_⟩;refine⟨.p (.sl (A.map mM)),⟨1,rfl,by show 1<=((x::A).map mM).length;simp,aA _,pg,A.map mM,by rw[cU (aA _)];rfl,rfl⟩,rfl,?_⟩;refine⟨rfl,?_⟩;refine⟨pg,pg (l:=[x]),by show((O.map mM).length+1)*56<=_;rw[ah];omega,(O++[x]).map mM,by rw[aD];rfl,?_⟩;refine⟨_,rfl,?_⟩;refine⟨_,rfl,?_⟩;exact aQ (A,y::B,O++[x]) ⟨hE,by show(O++[x]).length+(A.length+(B.length+1))<=2^30;rw[ay,ic];omega⟩ (by show A.length+(B.length+1)<(A.length+1)+(B.length+1);omega) kK wS trivial;rw[af (by rw[show leK x y=false from ak h];decide)]at hE;refine⟨.plan ⟨[6,7],[5],[],[]⟩ (.one 0 (.one 1 (.one 2 (.one 3 (.one 4 (.one 6 (.one 7 (.alt 5 (.one 8 (.one 9 .fin)) .stop)))))))) none,kK,?_⟩;refine⟨_,rfl,?_⟩;refine⟨_,rfl,?_⟩;refine⟨.p (.imp (mM y)),⟨dD,_,rfl,rfl,rfl⟩,?_⟩;refine⟨_,rfl,?_⟩;refine⟨_,rfl,?_⟩;refine⟨_,rfl,rfl,?_⟩;refine⟨.p (.sl (B.map mM)),⟨1,rfl,by show 1<=((y::B).map mM).length;simp,aA _,pg,B.map mM,by rw[cU (aA _)];rfl,rfl⟩,rfl,?_⟩;refine⟨rfl,?_⟩;refine⟨pg,pg (l:=[y]),by show((O.map mM).length+1)*56<=_;rw[ah];omega,(O++[y]).map mM,by rw[aD];rfl,?_⟩;refine⟨_,rfl,?_⟩;refine⟨_,rfl,?_⟩;exact aQ (x::A,B,O++[y]) ⟨hE,by show(O++[y]).length+(A.length+1+B.length)<=2^30;rw[ay,ic];omega⟩ (by show(A.length+1)+B.length<(A.length+1)+(B.length+1);omega) kK wS trivial
theorem NZ (a b:List cq)(hl:a.length+b.length<=2^30):aq C 121 [.sl (a.map cA),.sl (b.map cA),.fn (.func 86) [] []] (λr=>r=.val (.sl ((a.merge b leA).map cA))):=by
 obtain⟨m,hm⟩:∃m,a.merge b leA=m:=⟨_,rfl⟩;rw[hm];have hml:(a.map cA).length+(b.map cA).length<=2^30:=by rw[ah,ah];exact hl
 refine aY qu [] Tryz.func121 rfl rfl rfl ?_;refine nx ((a.map cA).length+(b.map cA).length) ?_;refine⟨(a.map cA).length+(b.map cA).length,rfl,rfl,by show 296*_<=_;omega,oO,?_⟩;refine bJ 52 (λx:List cq×List cq×List cq=>[(0,.p (.sl (x.1.map cA))),(1,.p (.sl (x.2.1.map cA))),(2,.p (.fn (.func 86) [] [])),(7,.fM 13 109 172 (x.2.2.map cA))]) (λ_=>[]) (λx=>x.2.2++x.1.merge x.2.1 leA=m/\x.2.2.length+(x.1.length+x.2.1.length)<=2^30) (λx=>x.1.length+x.2.1.length) (a,b,[]) ⟨hm,by simpa using hl⟩ kK wS trivial ?_;rintro⟨A,B,O⟩ ⟨hE,hn⟩;have hE:O++A.merge B leA=m:=hE;have hn:O.length+(A.length+B.length)<=2^30:=hn;have last:∀A B:List cq,O++(A++B)=m->O.length+(A.length+B.length)<=2^30->(∀zs,zs∈O.map cA->zs.length=172)/\(∀zs,zs∈A.map cA->zs.length=172)/\((O.map cA).length+(A.map cA).length)*296<=140737488355328/\∃zs,O.map cA++A.map cA=zs/\(∀ys,ys∈zs->ys.length=172)/\(∀zs,zs∈B.map cA->zs.length=172)/\(zs.length+(B.map cA).length)*296<=140737488355328/\zs++B.map cA=m.map cA:=λA B h1 h2=>⟨iE,iE,by rw[ah,ah];omega,(O++A).map cA,by rw[aD],iE,iE,by rw[ah,ah,ay];omega,by rw[<-aD,bu,h1]⟩;cases A with
 |nil=>obtain⟨q1,q2,q3,zs,q4,q5,q6,q7,q8⟩:=last [] B (by rw[List.nil_merge]at hE;exact hE) hn;refine⟨none,?_⟩;refine aF (λh=>absurd (show(0:Int)>0 from h) dD) (λ_=>?_);refine⟨q1,q2,q3,zs,q4,?_⟩;refine⟨q5,q6,q7,_,q8,?_⟩;exact .inr rfl
 |cons x A=>
  cases B with
  |nil=>obtain⟨q1,q2,q3,zs,q4,q5,q6,q7,q8⟩:=last (x::A) [] (by simpa using hE) hn;refine⟨none,?_⟩;refine aF (λ_=>?_) (λh=>absurd (show(((x::A).map cA).length:Int)>0 by simp) h);refine aF (λh=>absurd (show(0:Int)>0 from h) dD) (λ_=>?_);refine⟨q1,q2,q3,zs,q4,?_⟩;refine⟨q5,q6,q7,_,q8,?_⟩;exact .inr rfl
  |cons y B=>rw[Ro]at hE;have hn2:O.length+(A.length+1+(B.length+1))<=2^30:=hn;refine⟨none,?_⟩;refine aF (λ_=>?_) (λh=>absurd (show(((x::A).map cA).length:Int)>0 by simp) h);refine aF (λ_=>?_) (λh=>absurd (show(((y::B).map cA).length:Int)>0 by simp) h);refine bW 9 kK ?_;refine⟨dD,_,rfl,rfl,?_⟩;refine⟨dD,_,rfl,rfl,?_⟩;refine⟨_,(XB x y).dz,?_⟩;refine aF (λh=>?_) (λh=>?_);rw[ag (show leA x y=true from an h)]at hE;refine⟨.plan ⟨[6,7],[5],[],[]⟩ (.one 0 (.one 1 (.one 2 (.one 3 (.one 4 (.one 6 (.one 7 (.alt 5 (.one 8 (.one 9 .fin)) .stop)))))))) none,kK,?_⟩;refine⟨_,rfl,?_⟩;refine⟨_,rfl,?_⟩;refine⟨.p (.imp (cA x)),⟨dD,_,rfl,rfl,rfl⟩,?_⟩;refine⟨_,rfl,?_⟩;refine⟨_,rfl,?_⟩;refine⟨_,rfl,rfl,?_⟩;refine⟨.p (.sl (A.map cA)),⟨1,rfl,by show 1<=((x::A).map cA).length;simp,aA _,iE,A.map cA,by rw[cU (aA _)];rfl,rfl⟩,rfl,?_⟩;refine⟨rfl,?_⟩;refine⟨iE,iE (l:=[x]),by show((O.map cA).length+1)*296<=_;rw[ah];omega,(O++[x]).map cA,by rw[aD];rfl,?_⟩;refine⟨_,rfl,?_⟩;refine⟨_,rfl,?_⟩;exact aQ (A,y::B,O++[x]) ⟨hE,by show(O++[x]).length+(A.length+(B.length+1))<=2^30;rw[ay,ic];omega⟩ (by show A.length+(B.length+1)<(A.length+1)+(B.length+1);omega) kK wS trivial;rw[af (by rw[show leA x y=false from ak h];decide)]at hE;refine⟨.plan ⟨[6,7],[5],[],[]⟩ (.one 0 (.one 1 (.one 2 (.one 3 (.one 4 (.one 6 (.one 7 (.alt 5 (.one 8 (.one 9 .fin)) .stop)))))))) none,kK,?_⟩;refine⟨_,rfl,?_⟩;refine⟨_,rfl,?_⟩;refine⟨.p (.imp (cA y)),⟨dD,_,rfl,rfl,rfl⟩,?_⟩;refine⟨_,rfl,?_⟩;refine⟨_,rfl,?_⟩;refine⟨_,rfl,rfl,?_⟩;refine⟨.p (.sl (B.map cA)),⟨1,rfl,by show 1<=((y::B).map cA).length;simp,aA _,iE,B.map cA,by rw[cU (aA _)];rfl,rfl⟩,rfl,?_⟩;refine⟨rfl,?_⟩;refine⟨iE,iE (l:=[y]),by show((O.map cA).length+1)*296<=_;rw[ah];omega,(O++[y]).map cA,by rw[aD];rfl,?_⟩;refine⟨_,rfl,?_⟩;refine⟨_,rfl,?_⟩;exact aQ (x::A,B,O++[y]) ⟨hE,by show(O++[y]).length+(A.length+1+B.length)<=2^30;rw[ay,ic];omega⟩ (by show(A.length+1)+B.length<(A.length+1)+(B.length+1);omega) kK wS trivial
structure OkT (p:cL):Prop where
 q:xw p.pat
 atoms:aq C 93 [.agg (cP p.pat)] (λr=>r=.val (.eW [.sl (iu (jE p.pat)),.int .i64 0]))
theorem BX {s:List cL}(h:vk s){x:cL}(hx:x∈s):OkT x:=⟨h.q x hx,(aeo h x hx).GU⟩
theorem Vu {p:gr}(h:xw p):(jE p).length<=100000:=by rw[zF h,ah];exact h.few
theorem Mc {x:vO}{p:cL}(h:OkT p)(h1:x.pats.length<=2^20)(h2:x.atoms.length<=2^28):aq C 47 [.agg (ov x),.agg (fU p)] (λr=>r=.val (.agg (ov (jy x p)))):=by
 have hl:=Vu h.q;have hn:aq C 45 [.agg (cP p.pat)] (λr=>r=.val (.sl (jW (bI p.pat)))):=by have :=uS h.q;rwa[DO h.q]at this
 refine aY qu [] Tryz.func47 rfl rfl rfl ?_;refine cl h.atoms.dz ?_;refine bW 15 kK ?_;refine⟨_,hn.dz,?_⟩;refine⟨_,rfl,?_⟩;refine⟨_,rfl,?_⟩;refine⟨_,(NY x.pats [⟨p.id,bI p.pat⟩] (by show x.pats.length+1<=2^30;omega)).dz,?_⟩;refine⟨_,(NZ x.atoms (jE p.pat) oO).dz,?_⟩;refine⟨_,rfl,?_⟩;exact rfl
theorem XC (x:vO)(p:cL):(jy x p).pats.length=x.pats.length+1:=by unfold jy Jq;simp
theorem TN (x:vO)(p:cL):(jy x p).atoms.length=x.atoms.length+(jE p.pat).length:=by unfold jy Jq;simp
theorem ug {s:List cL}(h:∀x,x∈s->OkT x)(hl:s.length<=2000):aq C 16 [.sl (eS s)] (λr=>r=.val (.agg (ov (abi s)))):=by
 have hb:∀k,k<=s.length->((s.take k).foldl jy jV).pats.length=k/\((s.take k).foldl jy jV).atoms.length<=100000*k:=by
  intro k;induction k with
  |zero=>intro _;exact⟨rfl,aA _⟩
  |succ k ih=>intro hk;obtain⟨i1,i2⟩:=ih oO;rw[dr hk,oq];have :=Vu (h s[k] (aO _)).q;refine⟨?_,?_⟩;show(jy _ _).pats.length=_;rw[XC,i1];show(jy _ _).atoms.length<=_;rw[TN];omega
 unfold eS;refine ai Tryz.func16 rfl rfl rfl ?_;refine bJ 17 (λk:Nat=>[(2,.ptr 2 0),(3,.ptr 3 0),(6,.p (.sl (s.map fU))),(7,.p (.int .i64 ((s.map fU).length:Int))),(8,.p (.int .i64 (k:Int)))]) (λk=>[(2,[.full [],.full []]),(3,aG (ov ((s.take k).foldl jy jV)))]) (λk=>k<=s.length) (λk=>s.length-k) 0 zL kK wS ⟨aH kK,zK kK (bh.yY []) (bh.yY []),trivial⟩ ?_;intro k hk;obtain⟨b1,b2⟩:=hb k hk;refine cg (λhlt=>?_) (λhge=>?_);have hx:=h s[k] (aO _);have hf:(s.take (k+1)).foldl jy jV=jy ((s.take k).foldl jy jV) s[k]:=by rw[dr hlt,oq];rfl
 refine ix hlt ?_;generalize s[k]=p at hx hf;generalize(s.take k).foldl jy jV=x at b1 b2 hf;refine cl (Mc hx oO oO) ?_;exact nx (k+1) (aQ (k+1) hlt (by show s.length-(k+1)<s.length-k;omega) kK wS (by rw[hf];exact oS));obtain rfl:k=s.length:=oO
 rw[aU];exact rfl
theorem Jx (D:List cL):DS (lR D)=D.map λy=>y.id:=by unfold DS lR Tt;rw[fL];rfl
theorem Jy {s D:List cL}(h:vk s)(hD:∀y,y∈D->y∈s)(hl:D.length<400){x:cL}(hx:x∈s)(hn:x.id∉D.map λy=>y.id):EY (lR D) x=if kH (D.map λy=>y.id) (bI x.pat)=true then(jy (lR D) x,0)else(jV,19):=by have hid:=h.idE hx;unfold EY;rw[Jx,af (by rw[hid];simp),af (by rw[hid];simp),af hn];by_cases ha:kH (D.map λy=>y.id) (bI x.pat)=true;rw[af (by rw[ha];decide),ag ha];have h0:=Xo h hD hx (λd hd=>by have :=bA.1 ha d hd;simpa using this);rw[af (λg=>g h0),af (by show¬400<=(D.map Tt).length;rw[ah];omega)];rw[af ha,ag (by simpa using ha)]
structure Part (s D R:List cL):Prop where
 uY:lu D
 sub:∀y,y∈D->y∈s
 aby:∀y,y∈R->y∈s
 all:∀y,y∈s->y∈D\/y∈R
 apart:∀y,y∈R->y.id∉D.map λz=>z.id
 nodup:R.Nodup
 len:D.length+R.length=s.length
theorem TE {s:List cL}(h:lu s):Part s [] s:=⟨.nil,λy hy=>(by cases hy),λy hy=>hy,λy hy=>.inr hy,λy _ hy=>(by cases hy),(List.Pairwise.imp (λ{a b} hab e=>by rw[e]at hab;exact gP _ hab) h),by simp⟩
theorem Xr {s D R:List cL}(h:vk s)(hp:Part s D R){k:Nat}(hk:k<R.length):jy (lR D) R[k]=lR (lW D R[k])/\Part s (lW D R[k]) (R.take k++R.drop (k+1)):=by
 have hm:R[k]∈R:=aO hk;have hs:=hp.aby _ hm;have hne:∀y,y∈D->y.id≠R[k].id:=λy hy e=>hp.apart _ hm (e▸aC.2 ⟨y,hy,rfl⟩);have hsplit:R=R.take k++R[k]::R.drop (k+1):=by rw[<-bZ hk,dI]
 have MN:(R.take k++R[k]::R.drop (k+1)).Nodup:=hsplit▸hp.nodup;refine⟨DQ (λa ha=>tj h _ hs a ha) hp.uY (λy hy=>tj h y (hp.sub y hy)) hne,DV hp.uY hne,λy hy=>?_,λy hy=>?_,λy hy=>?_,λy hy hm2=>?_,?_,?_⟩;rcases kP.1 hy with rfl|hy;exact hs;exact hp.sub y hy;refine hp.aby y ?_;rw[hsplit];simp only[aZ,aK]at hy⊢;exact hy.elim .inl λq=>.inr (.inr q);rcases hp.all y hy with q|q;exact .inl (kP.2 (.inr q));rw[hsplit]at q;simp only[aZ,aK]at q⊢;rcases q with q|rfl|q;exact .inr (.inl q);exact .inl (kP.2 (.inl rfl));exact .inr (.inr q);have hyR:y∈R:=by rw[hsplit];simp only[aZ,aK]at hy⊢;exact hy.elim .inl λq=>.inr (.inr q)
 obtain⟨z,hz,e⟩:=aC.1 hm2;rcases kP.1 hz with rfl|hz;have :y=R[k]:=Jn h.ok.uY (hp.aby y hyR) hs e.symm;subst this;have h2:=(kz.1 MN);rcases aZ.1 hy with q|q;exact h2.2.2 _ q _ (.head _) rfl;exact(mC.1 h2.2.1).1 q;exact hp.apart y hyR (e▸aC.2 ⟨z,hz,rfl⟩);rw[kz]at MN⊢;exact⟨MN.1,(mC.1 MN.2.1).2,λa ha b hb=>MN.2.2 a ha b (.tail _ hb)⟩;have :=hp.len;have e:(lW D R[k]).length=D.length+1:=DU _ _;rw[e,ay,aL,cQ];omega
theorem Xs {s D R:List cL}(h:vk s)(hp:Part s D R)(hR:R≠[]):∃k,∃hk:k<R.length,kH (D.map λy=>y.id) (bI R[k].pat)=true:=by obtain⟨r,hr⟩:=List.exists_mem_of_ne_nil R hR;have hd:r.id∈gH s:=(rB h.ok r.id).2 (aC.2 ⟨r,hp.aby r hr,rfl⟩);obtain⟨a,e,b,h1,h2,-,h4⟩:=Fe (P:=λ_=>True) hd (hp.apart r hr) trivial;have he:e∈dN s:=(rB h.ok e).1 (by rw[h1];simp);obtain⟨y,hy,rfl⟩:=aC.1 he;have hyR:y∈R:=(hp.all y hy).resolve_left λg=>h2 (aC.2 ⟨y,g,rfl⟩);obtain⟨k,hk,rfl⟩:=ig hyR;refine⟨k,hk,bA.2 λq hq=>an ?_⟩;have :=xH h.ok.uY a b R[k].id h1 R[k] hy rfl q hq;exact(h4 q this).resolve_right λg=>g trivial
theorem Rh:∀{a b:List cL},lu a->lu b->(∀y,y∈a↔y∈b)->a=b
 |[],[],_,_,_=>rfl
 |[],y::b,_,_,h=>by cases(h y).2 (.head _)
 |x::a,[],_,_,h=>by cases(h x).1 (.head _)
 |x::a,y::b,ha,hb,h=>by
  have ha':=dF.1 ha;have hb':=dF.1 hb;obtain rfl:x=y:=by rcases aK.1 ((h x).1 (.head _))with e|e;exact e;rcases aK.1 ((h y).2 (.head _))with e2|e2;exact e2.symm;exact absurd (ij (hb'.1 x e) (ha'.1 y e2)) (gP _)
  rw[Rh ha'.2 hb'.2 λz=>⟨λhz=>((aK.1 ((h z).1 (.tail _ hz))).resolve_left λe=>by rw[e]at hz;exact gP _ (ha'.1 _ hz)),λhz=>((aK.1 ((h z).2 (.tail _ hz))).resolve_left λe=>by rw[e]at hz;exact gP _ (hb'.1 _ hz))⟩]
theorem abz {s D:List cL}(h:lu s)(hp:Part s D []):D=s:=Rh hp.uY h λy=>⟨hp.sub y,λhy=>(hp.all y hy).resolve_right λg=>nomatch g⟩
theorem vQ {s D:List cL}(h:vk s)(ha:lu D)(hD:∀y,y∈D->y∈s)(hl:D.length<=400):agT (lR D):=by
 have hlen:∀D:List cL,(∀y,y∈D->y∈s)->(D.flatMap λx=>jE x.pat).length<=100000*D.length:=λD=>by
  induction D with
  |nil=>intro _;exact aA _
  |cons y D ih=>
   intro hD;rw[ow,ay,aR];have h1:=ih λz hz=>hD z (.tail _ hz);have hq:=h.q y (hD y (.head _));have h2:(jE y.pat).length<=100000:=by rw[zF hq,ah];exact hq.few
   omega
 refine⟨?_,?_,by show(D.map Tt).length<=_;rw[ah];omega,by have :=hlen D hD;show(D.flatMap λx=>jE x.pat).length<=_;omega⟩;have :(lR D).pats.map (λk=>k.id)=D.map λy=>y.id:=Jx D;rw[this];exact NN ha;have hpw:(D.flatMap λx=>jE x.pat).Pairwise λa b=>gV a.id b.id<0:=by rw[List.pairwise_flatMap];refine⟨λx hx=>?_,List.Pairwise.imp_of_mem (λ{x y} hx hy hxy=>?_) ha⟩;rw[mI];intro i j hi hj hij;rw[BR h (hD x hx) i hi,BR h (hD x hx) j hj];exact Xi oO;intro a ha b hb;obtain⟨i,hi,rfl⟩:=ig ha;obtain⟨j,hj,rfl⟩:=ig hb;rw[BR h (hD x hx) i hi,BR h (hD y hy) j hj];exact Xj hxy
 show((D.flatMap λx=>jE x.pat).map λa=>a.id).Nodup;rw[List.nodup_iff_pairwise_ne,List.pairwise_map];exact hpw.imp λ{a b} hab e=>by rw[e]at hab;have :=pO b.id b.id;omega
def TT (s:List cL)(d:Dg):Nat:=(s.filter λx=>decide (ee x.id d<0)).length
theorem aeJ {s:List cL}{d:Dg}{k:Nat}(hk:k<=s.length)(h1:∀j (h:j<s.length),j<k->ee s[j].id d<0)(h2:∀j (h:j<s.length),k<=j->¬ee s[j].id d<0):TT s d=k:=by
 unfold TT;have e:s.filter (λx=>decide (ee x.id d<0))=s.take k:=by
  conv=>lhs;rw[<-dI k s]
  rw[qv,DZ.2 (λx hx=>?_),List.filter_eq_nil_iff.2 (λx hx=>?_),aW];obtain⟨j,hj,rfl⟩:=ig hx;rw[List.getElem_drop];rw[cQ]at hj;simpa using h2 (k+j) oO oO;obtain⟨j,hj,rfl⟩:=ig hx;rw[DH];rw[aL]at hj;exact an (h1 j oO oO)
 rw[e,aL];omega
theorem ai8 {n:Nat}(h:n<=9223372036854775807):IntKind.u64.wrap ((n:Nat):Int)=(n:Int):=by
 have h1:(0:Int)<=(n:Int):=oO
 have h2:((n:Nat):Int)<=9223372036854775807:=oO
 generalize((n:Nat):Int)=m at h1 h2;unfold IntKind.wrap;simp[IntKind.bits,IntKind.signed];omega
theorem abP (n:Nat):((n:Nat):Int).fdiv (2^(min (1:Int).toNat IntKind.u64.bits))=((n/2:Nat):Int):=by show((n:Nat):Int).fdiv 2=_;rw[Dl _ dD];omega
theorem Mf (x:cL)(d:Dg):aq C 157 [.agg (fU x),.agg (cD d)] (λr=>r=.val (.int .i64 (ee x.id d))):=by refine ai Tryz.func157 rfl rfl rfl ?_;refine cl (Dq x.id d) ?_;exact rfl
theorem abQ {s:List cL}(hA:lu s)(hl:s.length<=2^40)(d:Dg):aq C 156 [.sl (eS s),.agg (cD d),.fn (.func 157) [] []] (λr=>r=.val (.eW [.int .i64 (TT s d:Int),.bool (decide (d∈dN s))])):=by
 unfold eS;refine aY qu [] Tryz.func156 rfl rfl rfl ?_;refine bJ 49 (λx:Nat×Nat=>[(0,.p (.sl (s.map fU))),(2,.p (.fn (.func 157) [] [])),(4,.ptr 4 0),(8,.p (.int .i64 ((s.map fU).length:Int))),(9,.p (.int .i64 (x.1:Int))),(10,.p (.int .i64 (x.2:Int)))]) (λ_=>[(4,aG (cD d))]) (λx=>x.1<=x.2/\x.2<=s.length/\(∀j (h:j<s.length),j<x.1->ee s[j].id d<0)/\(∀j (h:j<s.length),x.2<=j->¬ee s[j].id d<0)) (λx=>x.2-x.1) (0,s.length) ⟨zL,aA _,λj h g=>absurd g (jm _),λj h g=>absurd h (by have g:s.length<=j:=g;omega)⟩ kK (by rw[show(s.length:Int)=((s.map fU).length:Int)by rw[ah]];exact wS) oS ?_;rintro⟨a,b⟩ ⟨h1,h2,h3,h4⟩;have h1:a<=b:=h1;have h2:b<=s.length:=h2;refine aF (λhlt=>?_) (λhge=>?_);have hlt:a<b:=by have hlt:(a:Int)<(b:Int):=hlt;omega
 refine nx (a+b) ?_;refine⟨((a+b:Nat):Int),ai8 oO,?_⟩;refine⟨dD,(((a+b)/2:Nat):Int),abP _,?_⟩;refine⟨_,wrap64 oO oO,?_⟩;obtain⟨m,hm⟩:∃m,(a+b)/2=m:=⟨_,rfl⟩;have hma:a<=m/\m<b:=oO
 rw[hm];have xR:m<s.length:=oO
 have jD:(s.map fU)[((m:Nat):Int).toNat]?=some (fU s[m]):=dL rfl xR;refine bW 7 kK ?_;refine⟨oO,_,jD,rfl,?_⟩;refine⟨_,(Mf s[m] d).dz,?_⟩;have hlo:∀j (h:j<s.length),j<=m->ee s[j].id s[m].id<=0:=λj h g=>by by_cases e:j=m;subst e;rw[rj];exact Int.le_refl _;exact Int.le_of_lt (mI.1 hA j m h xR oO)
 refine aF (λhc=>?_) (λhc=>?_);have hc:ee s[m].id d<0:=hc;refine nx (m+1) ?_;refine aQ (m+1,b) ⟨hma.2,h2,λj h g=>?_,h4⟩ (by show b-(m+1)<b-a;omega) kK wS oS;by_cases e:j=m;subst e;exact hc;exact ij (mI.1 hA j m h xR (by have g:j<m+1:=g;omega)) hc;have hc:¬ee s[m].id d<0:=hc;refine aQ (a,m) ⟨hma.1,by show m<=s.length;omega,h3,λj h g q=>?_⟩ (by show m-a<b-a;omega) kK wS oS;by_cases e:j=m;subst e;exact hc q;exact hc (ij (mI.1 hA m j xR h (by have g:m<=j:=g;omega)) q);obtain rfl:a=b:=by have hge:¬(a:Int)<(b:Int):=hge;omega
 have alh:=aeJ h2 h3 h4;rw[alh];refine bW 15 kK ?_;refine aF (λhlt=>?_) (λhge=>?_);have hlt:a<s.length:=by have hlt:(a:Int)<((s.map fU).length:Int):=hlt;rw[ah]at hlt;omega
 have jD:(s.map fU)[((a:Nat):Int).toNat]?=some (fU s[a]):=dL rfl hlt;refine⟨oO,_,jD,rfl,?_⟩;refine⟨_,(Mf s[a] d).dz,?_⟩;refine aB (λe=>?_) (λe=>?_);have e:ee s[a].id d=0:=e;rw[an (show d∈dN s from aC.2 ⟨s[a],aO _,kf e⟩)];exact rfl;have e:¬ee s[a].id d=0:=e;rw[ak (show d∉dN s fromλhm=>?_)];exact rfl;obtain⟨x,hx,rfl⟩:=aC.1 hm;obtain⟨j,hj,rfl⟩:=ig hx;rcases Nat.lt_trichotomy j a with g|g|g;have :=h3 j hj g;rw[rj]at this;exact absurd this dD;subst g;exact e (rj _);exact h4 a hlt (aA _) (mI.1 hA a j hlt hj g);have hge:s.length<=a:=by have hge:¬(a:Int)<((s.map fU).length:Int):=hge;rw[ah]at hge;omega
 rw[ak (show d∉dN s fromλhm=>?_)];exact rfl;obtain⟨x,hx,rfl⟩:=aC.1 hm;obtain⟨j,hj,rfl⟩:=ig hx;have :=h3 j hj oO;rw[rj]at this;exact absurd this dD
theorem zN {s:List cL}(hA:lu s)(hl:s.length<=2^40)(d:Dg):aq C 82 [.sl (eS s),.agg (cD d)] (λr=>r=.val (.eW [.int .i64 (TT s d:Int),.bool (decide (d∈dN s))])):=by refine ai Tryz.func82 rfl rfl rfl ?_;refine cl (abQ hA hl d) ?_;exact rfl
theorem Rq {s:List cL}(hA:lu s)(hl:s.length<=2^40)(d:Dg):aq C 147 [.agg (cD d),.imp [.sl (eS s)]] (λr=>r=.val (.bool (!decide (d∈dN s)))):=by refine ai Tryz.func147 rfl rfl rfl ?_;refine cl (zN hA hl d) ?_;refine bH ?_;exact rfl
theorem Cb {s:List cL}(hA:lu s)(hl:s.length<=2^40){p:gr}(h:xw p):aq C 76 [.sl (eS s),.agg (cP p)] (λr=>r=.val (.bool (!kH (dN s) (bI p)))):=by
 have hn:aq C 45 [.agg (cP p)] (λr=>r=.val (.sl (jW (bI p)))):=by have :=uS h;rwa[DO h]at this
 have hnl:=qX p;refine ai Tryz.func76 rfl rfl rfl ?_;refine cl hn ?_;refine⟨[2],dy (cells:=[.p (.sl (eS s))]) (ys:=[.sl (eS s)]) rfl rfl rfl ?_⟩;refine cl (Jm (bI p) 147 (.imp [.sl (eS s)]) (λd=>!decide (d∈dN s)) (λd _=>Rq hA hl d) oO) ?_;rw[show((bI p).any λd=>!decide (d∈dN s))=!kH (dN s) (bI p)from by unfold kH;rw[List.not_all_eq_any_not]];exact rfl
theorem aeK (x:cL)(y:AV)(h:y∈fU x):y.one=true:=bA.1 (show(fU x).all AV.one=true from rfl) y h
theorem zO (l:List cL):∀ys,ys∈l.map fU->ys.length=37/\∀y,y∈ys->y.one=true:=by intro ys h;obtain⟨x,-,rfl⟩:=aC.1 h;exact⟨rfl,λy hy=>aeK x y hy⟩
theorem Rr:aq C 12 [.sl []] (λr=>r=.val (.sl [])):=by refine ai Tryz.func12 rfl rfl rfl ?_;refine GQ (xs:=[]) (λ_=>?_) ?_;exact .inr rfl;refine⟨λ_ h=>(by cases h),λ_ h=>(by cases h),dD,_,rfl,?_⟩;exact .inr rfl
theorem Cc {s:List cL}(h:s≠[])(hl:s.length<=2^30):aq C 12 [.sl (eS s)] (λr=>r=.own none 39 37 (eS s)):=by have hne:eS s≠[]:=λe=>h (List.map_eq_nil_iff.1 e);refine aY {qu with opens:=[5]} [] Tryz.func12 rfl rfl rfl ?_;refine GQ (xs:=eS s) (λg=>absurd g hne) ?_;refine⟨0,rfl,GL,by show(0+(s.map fU).length)*120<=_;rw[ah];omega,gR fU s,agS s _,?_⟩;exact⟨eS s,zO s,bC _,rfl⟩
def iU (s:List cL)(d:Dg):List cL:=s.filter λx=>!decide (x.id=d)
def ng (t:List cL):Bool:=t.all λx=>kH (dN t) (bI x.pat)
def Au (x:vO)(d:Dg):vO×Int:=if d∉DS x then(jV,7)else if x.pats.any (λk=>decide (d∈k.jU))=true then(jV,19)else(⟨x.pats.filter λk=>!decide (k.id=d),x.atoms.filter λa=>!decide (a.id.p=d)⟩,0)
theorem Cd {t:List cL}:ng t=true↔∀x,x∈t->∀d,d∈bI x.pat->d∈dN t:=by unfold ng kH;simp only[bA,decide_eq_true_eq]
theorem abR {s t:List cL}(hs:lu s)(ht:lu t)(hsub:∀y,y∈t->y∈s){d:Dg}(hd:d∈dN t):nk t d=nk s d:=by obtain⟨y,hy,rfl⟩:=aC.1 hd;rw[oT ht hy,oT hs (hsub y hy)]
theorem XG {s t:List cL}(hs:lu s)(ht:lu t)(hsub:∀y,y∈t->y∈s){i:bV}(hd:i.p∈dN t):kQ t i=kQ s i:=by unfold kQ gm;rw[abR hs ht hsub hd]
theorem aeL {s t:List cL}(h:vk s)(ht:lu t)(hsub:∀y,y∈t->y∈s)(hl:t.length<=s.length)(hc:ng t=true):vk t:=by
 have hc:=Cd.1 hc;refine⟨⟨ck hl h.fit.len,λx hx=>h.fit.each x (hsub x hx)⟩,⟨ck hl h.ok.few,ht,λx hx=>h.ok.id x (hsub x hx),hc,?_,λx hx=>?_⟩,λx hx=>h.q x (hsub x hx)⟩;exact Ju ht hc (λa b e hab y hy Vm q hq=>xH h.ok.uY a b e hab y (hsub y hy) Vm q hq) λd hd=>by obtain⟨y,hy,rfl⟩:=aC.1 hd;exact(rB h.ok _).2 (aC.2 ⟨y,hsub y hy,rfl⟩)
 have hr:=h.ok.refs x (hsub x hx);unfold nH at hr⊢;rw[aW]at hr⊢;rw[<-hr];congr 1;refine dZ λc hcx=>?_;rw[NR,NR];exact LU (λi hi hz=>XG h.ok.uY ht hsub (hc x hx _ (vP (h.q x (hsub x hx)).ok hcx hi hz))) _
theorem abS {s:List cL}(h:lu s)(d:Dg):lu (iU s d):=h.filter _
theorem rZ {s:List cL}{d:Dg}:∀y,y∈iU s d->y∈s:=λy hy=>(jl.1 hy).1
theorem Rs (s:List cL)(d:Dg):(iU s d).length<=s.length:=mA _ _
theorem XH {s:List cL}{d:Dg}(h:d∉dN s):iU s d=s:=DZ.2 λx hx=>by have :x.id≠d:=λe=>h (aC.2 ⟨x,hx,e⟩);simpa using this
theorem XI {s:List cL}{d:Dg}(h:d∈dN s):(iU s d).length<s.length:=by obtain⟨x,hx,rfl⟩:=aC.1 h;exact List.length_filter_lt_length_iff_exists.2 ⟨x,hx,by simp⟩
theorem Ea {s:List cL}{d q:Dg}:q∈dN (iU s d)↔q∈dN s/\q≠d:=by unfold dN iU;simp only[aC,jl,dY,decide_eq_false_iff_not];constructor;rintro⟨x,⟨h1,h2⟩,rfl⟩;exact⟨⟨x,h1,rfl⟩,h2⟩;rintro⟨⟨x,h1,rfl⟩,h2⟩;exact⟨x,⟨h1,h2⟩,rfl⟩
theorem Rt {s:List cL}(h:vk s)(d:Dg):((lR s).pats.any λk=>decide (d∈k.jU))=!ng (iU s d):=by
 cases hc:ng (iU s d)with
 |true=>have hc:=Cd.1 hc;refine qw.2 λk hk hm=>?_;obtain⟨x,hx,rfl⟩:=aC.1 hk;have hm:d∈bI x.pat:=kM hm;by_cases e:x.id=d;subst e;exact GV h.ok hx hm;have :=hc x (jl.2 ⟨hx,by simpa using e⟩) d hm;exact(Ea.1 this).2 rfl
 |false=>
  refine fc.2 (ia λg=>?_);have :ng (iU s d)=true:=Cd.2 λx hx q hq=>by refine Ea.2 ⟨h.ok.jU x (rZ x hx) q hq,λe=>g ⟨Tt x,aC.2 ⟨x,rZ x hx,rfl⟩,?_⟩⟩;subst e;exact an hq
  rw[this]at hc;cases hc
theorem XJ {s:List cL}(h:vk s)(d:Dg):(s.flatMap λx=>jE x.pat).filter (λa=>!decide (a.id.p=d))=(iU s d).flatMap λx=>jE x.pat:=by
 have ho:=tj h;clear h;induction s with
 |nil=>rfl
 |cons x s ih=>have ih:=ih λy hy=>ho y (.tail _ hy);rw[ow,qv,ih];unfold iU;by_cases e:x.id=d;rw[List.filter_cons_of_neg (by simpa using e),List.filter_eq_nil_iff.2 λa ha=>by rw[ho x (.head _) a ha,e];simp,gx];rw[List.filter_cons_of_pos (by simpa using e),DZ.2 λa ha=>by rw[ho x (.head _) a ha];simpa using e,ow]
theorem XK (s:List cL)(d:Dg):(s.map Tt).filter (λk=>!decide (k.id=d))=(iU s d).map Tt:=by unfold iU;rw[List.filter_map];rfl
theorem TV {s:List cL}(h:vk s)(d:Dg):Au (lR s) d=if d∉dN s then(jV,7)else if ng (iU s d)=true then(lR (iU s d),0)else(jV,19):=by
 unfold Au;rw[show DS (lR s)=dN s from Jx s,Rt h d];by_cases h1:d∉dN s;rw[ag h1,ag h1];rw[af h1,af h1];cases ng (iU s d)with
 |true=>rw[af dD,ag rfl];show((⟨(s.map Tt).filter _,(s.flatMap _).filter _⟩:vO),(0:Int))=_;rw[XK,XJ h];rfl
 |false=>rfl
def cF1:dn:=⟨1,aS,1,aS,[],0,[],aS,aS,[],[]⟩
def cF2:dn:=⟨5,aS,0,aS,[],0,[],aS,aS,[[120]],[]⟩
def pP:gr:=⟨[97,110,110],[],0,[],[cF1,cF2]⟩
def dP:Dg:=⟨[23,180,41,195,250,231,133,240,108,104,101,57,105,245,227,40,114,220,151,71,250,157,134,243,99,120,231,116,28,188,111,232],rfl⟩
def cR1:dn:=⟨7,aS,0,aS,[],0,[],aS,aS,[],[⟨dP,1⟩]⟩
def pQ:gr:=⟨[97,110,110],[],0,[],[cR1]⟩
def dQ:Dg:=⟨[155,127,202,92,215,55,3,234,44,4,128,9,133,60,1,125,99,3,124,77,133,249,216,159,23,223,165,91,1,144,194,85],rfl⟩
def sP:List cL:=[⟨dP,pP⟩]
def sQ:List cL:=[⟨dP,pP⟩,⟨dQ,pQ⟩]
theorem abA {p:gr}{e:Bytes}{d:Dg}(h:oP p=(e,0))(hs:aiN e=d.1):lV p=(d,0):=by unfold lV;rw[h,af (λg=>g rfl)];exact bg (λz:Dg=>(z,(0:Int))) (Subtype.ext ((aiO e).trans hs))
theorem Vq {p:gr}(h:(oP p).2=0):oP p=((oP p).1,0):=by rw[<-h]
theorem idP:lV pP=(dP,0):=abA (Vq kK) kK
theorem idQ:lV pQ=(dQ,0):=abA (Vq kK) kK
theorem abB:(lK pP).1=(dM pP).1.map (fO dP):=by unfold lK;rw[idP,af (λg=>g rfl)]
def lP:List cq:=(dM pP).1.map (fO dP)
theorem Vr {s:List cL}{p:gr}{d:Dg}(hi:lV p=(d,0))(hg:(nk s d).2=false)(hn:kH (dN s) (bI p)=true)(hr:nH s p d=0)(hl:s.length<400):Ko s p=(lW s ⟨d,p⟩,d,0):=by unfold Ko;rw[hi,af (λg=>g rfl),hg,af dD,hn,af dD,hr,af (λg=>g rfl),af oO]
theorem aiU:nH sP pQ dQ=0:=by
 have h1:gm sP ⟨dP,1⟩=(lP.getD 1 iA,true):=by unfold gm;rw[show(nk sP dP).1=pP from kK,abB];exact af dD
 have ho:WE sP cR1 dQ ⟨dP,1⟩=0:=by unfold WE;rw[h1];kernel_rfl
 show bz ([RE sP cR1 dQ]++[])=0;have hc:RE sP cR1 dQ=0:=by show bz (0::0::0::0::([WE sP cR1 dQ ⟨dP,1⟩]++[]))=0;rw[ho];rfl
 rw[hc];rfl
theorem aiV:Ko [] pP=(sP,dP,0):=(Vr idP rfl kK kK dD).trans rfl
theorem aiW:Ko sP pQ=(sQ,dQ,0):=(Vr idQ kK kK aiU dD).trans (bg (λz:List cL=>(z,dQ,(0:Int))) kK)
theorem TF (c:dn)(h1:c.name=[])(h2:c.data=[])(h3:SzS c.lines)(h4:c.over.length<=1):SzC c:=⟨by rw[h1];exact zL,by rw[h2];exact zL,h3,oO⟩
theorem aiX:IS pP:=Nu ⟨dD,dD,dD,dD,λc hc=>by rcases aK.1 hc with rfl|hc;exact TF _ rfl rfl ⟨zL,λx h=>by cases h⟩ dD;obtain rfl:=aP.1 hc;exact TF _ rfl rfl ⟨dD,λx h=>by rw[aP.1 h];decide⟩ dD⟩ (SP kK)
theorem aiY:IS pQ:=Nu ⟨dD,dD,dD,dD,λc hc=>by obtain rfl:=aP.1 hc;exact TF _ rfl rfl ⟨zL,λx h=>by cases h⟩ dD⟩ (SP kK)
theorem agU:vk []:=⟨⟨zL,λx h=>by cases h⟩,abe kK,λx h=>by cases h⟩
theorem Jz:vk sP:=by have :=(Vn agU aiX (ck (NS kK) dD) (by rw[aiV])).1;rwa[aiV]at this
theorem aeF:vk sQ:=by have :=(Vn Jz aiY (ck (NS kK) dD) (by rw[aiW])).1;rwa[aiW]at this
def lQ:List cq:=(dM pQ).1.map (fO dQ)
theorem aiZ:(lK pQ).1=lQ:=by unfold lK;rw[idQ,af (λg=>g rfl)];rfl
theorem afz:lR sP=⟨[⟨dP,bI pP⟩],lP⟩:=by show(⟨[Tt ⟨dP,pP⟩],jE pP++[]⟩:vO)=_;rw[aW,show jE pP=lP from abB];rfl
theorem ai0:lR sQ=⟨[⟨dP,bI pP⟩,⟨dQ,bI pQ⟩],lP++lQ⟩:=by show(⟨[Tt ⟨dP,pP⟩,Tt ⟨dQ,pQ⟩],jE pP++(jE pQ++[])⟩:vO)=_;rw[aW,show jE pP=lP from abB,show jE pQ=lQ from aiZ];rfl
theorem Vt:lP.length=4:=kK
theorem abE:lQ.length=1:=kK
theorem Fg:∀a,a∈lP->a.over=[]:=λa ha=>by have h:(lP.all λa=>decide (a.over=[]))=true:=kK;exact kM (bA.1 h a ha)
theorem q_Q:∀a,a∈lQ->a.over=[⟨dP,1⟩]/\a.kind=7/\a.id=⟨dQ,0⟩:=λa ha=>by have h:(lQ.all λa=>decide (a.over=[⟨dP,1⟩])&&(decide (a.kind=7)&&decide (a.id=⟨dQ,0⟩)))=true:=kK;have :=bA.1 h a ha;simpa using this
theorem ai1:(⟨dQ,0⟩:bV)≠⟨dP,1⟩:=λh=>by have :decide ((⟨dQ,0⟩:bV)=⟨dP,1⟩)=false:=kK;rw[an h]at this;cases this
def e1 (_:bV):Bool:=true
def e2 (i:bV):Bool:=!decide (i=⟨dP,1⟩)
def rk2 (i:bV):Nat:=if i=⟨dP,1⟩then 1 else 0
theorem ai2:LY lP e1 (λ_=>0):=by
 refine⟨λi=>?_,λa ha _ i hi=>by rw[Fg a ha]at hi;cases hi⟩;have :(lP.any λa=>decide (i∈a.over)&&(decide (a.kind=7)&&e1 a.id))=false:=qw.2 λa ha=>by rw[Fg a ha];simp
 rw[this];rfl
theorem ai3:LY (lP++lQ) e2 rk2:=by
 refine⟨λi=>?_,λa ha _ i hi=>?_⟩;rw[List.any_append,show(lP.any λa=>decide (i∈a.over)&&(decide (a.kind=7)&&e2 a.id))=false from qw.2 λa ha=>by rw[Fg a ha];simp,od];have :(lQ.any λa=>decide (i∈a.over)&&(decide (a.kind=7)&&e2 a.id))=decide (i=⟨dP,1⟩):=by rw[om,fc,decide_eq_true_eq];constructor;rintro⟨a,ha,h⟩;rw[(q_Q a ha).1]at h;simp at h;exact h.1;rintro rfl;have h1:=abE;have hm:lQ[0]' oO∈lQ:=aO _;generalize lQ[0]' oO=a at hm;obtain⟨g1,g2,g3⟩:=q_Q a hm;refine⟨a,hm,?_⟩;rw[g1,g2,g3];unfold e2;rw[ak ai1];simp
 rw[this];rfl;rcases aZ.1 ha with ha|ha;rw[Fg a ha]at hi;cases hi;obtain⟨g1,-,g3⟩:=q_Q a ha;rw[g1]at hi;rw[aP.1 hi,g3];unfold rk2;rw[af ai1,ag rfl];decide
theorem ai4:(Ky lP e1).length=4:=kK
theorem afA:Ky (lP++lQ) e2=[⟨dP,0⟩,⟨dP,2⟩,⟨dP,3⟩,⟨dQ,0⟩]:=kK
theorem ai5:¬(⟨dP,1⟩:bV)∈Ky (lP++lQ) e2:=λh=>by have :decide ((⟨dP,1⟩:bV)∈Ky (lP++lQ) e2)=false:=kK;rw[an h]at this;cases this
theorem NX:kH (dN sP) (bI pQ)=true:=kK
theorem ai6:kH (dN []) (bI pP)=true:=kK
structure SzX (x:vO):Prop where
 pats:x.pats.length<=2^40
 jU:∀k,k∈x.pats->k.jU.length<=2^40
 atoms:SzA x.atoms
theorem JI {a b:vO}(ha:SzX a)(hb:SzX b):aq C 15 [.agg (ov a),.agg (ov b)] (λr=>r=.val (.bool (decide (a=b)))):=by
 obtain⟨ap,aa⟩:=a;obtain⟨bp,ba⟩:=b;obtain⟨a1,a2,a3⟩:=ha;obtain⟨b1,b2,b3⟩:=hb;simp only at a1 a2 a3 b1 b2 b3;have no:¬(ap=bp/\aa=ba)->decide ((⟨ap,aa⟩:vO)=⟨bp,ba⟩)=false:=λh=>ak λe=>h (by injection e with e1 e2;exact⟨e1,e2⟩);unfold ov;refine ai Tryz.func15 rfl rfl rfl ?_;refine⟨none,?_⟩;refine cu (λh=>?_) (λh=>?_);rw[no λg=>h (by rw[g.1])];exact rfl;have hl:ap.length=bp.length:=by have h:((ap.map mM).length:Int)=((bp.map mM).length:Int):=h;rw[ah,ah]at h;omega
 refine cl (Wp aa ba a3 b3) ?_;refine bH ?_;by_cases hA:aa=ba;rotate_left;rw[ak hA,no λg=>hA g.2];exact rfl;rw[an hA];refine bJ 57 (λk:Nat=>[(2,.ptr 2 0),(3,.ptr 3 0),(5,.p (.int .i64 (k:Int)))]) (λ_=>[(2,[.p (.sl (ap.map mM)),.p (.sl (iu aa))]),(3,[.p (.sl (bp.map mM)),.p (.sl (iu ba))])]) (λk=>k<=ap.length/\ap.take k=bp.take k) (λk=>ap.length-k) 0 ⟨zL,rfl⟩ kK wS oS ?_;rintro k ⟨hk,he⟩;refine cg (λhlt=>?_) (λhge=>?_);rotate_left;obtain rfl:k=ap.length:=oO
 rw[aU,hl,aU]at he;rw[an (show(⟨ap,aa⟩:vO)=⟨bp,ba⟩by rw[he,hA])];exact rfl;have ef:k<bp.length:=oO
 have n1:=a2 ap[k] (aO _);have n2:=b2 bp[k] (aO _);have t1:=dr hlt;have t2:=dr ef;have x1:(ap.map mM)[((k:Nat):Int).toNat]?=some (mM ap[k]):=dL rfl hlt;have x2:(bp.map mM)[((k:Nat):Int).toNat]?=some (mM bp[k]):=dL rfl ef;have ne:ap[k]≠bp[k]->decide ((⟨ap,aa⟩:vO)=⟨bp,ba⟩)=false:=λh=>no λg=>h (by simp only[g.1]);generalize ap[k]=p at n1 t1 x1 ne;generalize bp[k]=q at n2 t2 x2 ne;refine bW 28 kK ?_;refine⟨oO,_,x1,rfl,?_⟩;refine⟨oO,_,x2,rfl,?_⟩;refine⟨qC,bY,rfl,rfl,rfl,?_⟩;refine nE (a:=p.id) (b:=q.id) ?_;by_cases hi:p.id=q.id;rotate_left;rw[ak hi,ne λg=>hi (by rw[g])];exact rfl;rw[an hi];refine⟨oO,_,x1,rfl,?_⟩;refine⟨oO,_,x2,rfl,?_⟩;refine⟨_,(ZM p.jU q.jU oO oO),?_⟩;refine bH ?_;by_cases hN:p.jU=q.jU;rotate_left;rw[ak hN,ne λg=>hN (by rw[g])];exact rfl;rw[an hN];obtain rfl:p=q:=by cases p;cases q;simp only at hi hN;rw[hi,hN]
 exact nx (k+1) (aQ (k+1) ⟨hlt,by rw[t1,t2,he]⟩ (by show ap.length-(k+1)<ap.length-k;omega) kK wS oS)
end Qv
