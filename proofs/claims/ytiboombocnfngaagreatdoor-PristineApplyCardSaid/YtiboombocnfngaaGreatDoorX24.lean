/- Part 30 of the proof: its lemmas. No condition. -/
import Derived.Test.YtiboombocnfngaaGreatDoorX19
import Derived.Test.YtiboombocnfngaaGreatDoorX21
import Derived.Test.YtiboombocnfngaaGreatDoorX22
set_option maxRecDepth 10000
set_option maxHeartbeats 80000000
set_option linter.all false
open Go Go.Proofs Go.RowKit
namespace Qv
def Au (L:bQ->Option bR)(r:jO):Int:=match L r.id with|none=>7|some b=>if r.sem b=true then 0 else 8
theorem uJ (L:bQ->Option bR)(r:jO)(rest:List Int):bf ((cE r).map (Au L)++rest)=bf (iy L r.id r.sem::rest):=by unfold cE iy;by_cases h:r.id.p=aZ;rw[ag h,ag h,dz rfl];rfl;rw[af h,af h];rfl
theorem Nc (L:bQ->Option bR){α:Type}(g:α->jO):∀l:List α,bf ((l.flatMap λi=>cE (g i)).map (Au L))=bf (l.map λi=>iy L (g i).id (g i).sem)|[]=>rfl|x::l=>by have ih:=Nc L g l;rw[mQ,aD,uJ,bB,bf,bf,ih]
theorem acO {L:bQ->Option bR}{c:dw}{d:Dg}(h:RX L c d):bf ((BH c d).map (Au L))=chL L c d:=by
 have hc:=h.clean;have hf:ri c d=aS c.file d:=by unfold ri aS;by_cases hz:c.file.p=aZ;rw[ag hz,ag ⟨hz,h.own _ (by simp) hz⟩];rw[af hz,af λg=>hz g.1]
 unfold BH chL;rw[hf,aD,aD,aD];have eF:∀rest,bf ((if c.kind≠1/\c.kind≠7 then cE ⟨c.file,214,[.imp (cC c)],bg c.kind⟩else[]).map (Au L)++rest)=bf (iy L c.file (bg c.kind)::rest):=λrest=>by by_cases g:c.kind≠1/\c.kind≠7;rw[ag g,uJ];rw[af g,hc.file oO,dz (show iy L aP (bg c.kind)=0 from rfl)];rfl
 have eP:∀rest,bf ((if c.kind=2 then cE ⟨c.parent,216,[],jg⟩else[]).map (Au L)++rest)=bf (iy L c.parent jg::rest):=λrest=>by by_cases g:c.kind=2;rw[ag g,uJ];rw[af g,hc.par g,dz (show iy L aP jg=0 from rfl)];rfl
 have eO:bf ((c.over.flatMap λi=>cE (mc c (aS c.file d) i)).map (Au L))=bf (c.over.map λi=>iy L i (dR c.kind (aS c.file d))):=by
  rw[Nc];by_cases g:c.kind=1\/c.kind=5;rw[hc.over g];rfl;have h1:=hc.lo;have h7:=hc.hi;have e:(mc c (aS c.file d) default).sem=dR c.kind (aS c.file d):=by
   funext b;show(decide (sO c.kind=0)||_)=_;unfold dR;have :sO c.kind=zT c.kind:=by
    unfold sO zT;have :c.kind=2\/c.kind=3\/c.kind=4\/c.kind=6\/c.kind=7:=oO
    rcases this with e|e|e|e|e<;>rw[e]<;>decide
   rw[this]
  rw[<-e];rfl
 rw[eF];by_cases hF:iy L c.file (bg c.kind)=0;rotate_left;rw[ee hF,ee hF];rw[dz hF,dz hF,eP];by_cases hP:iy L c.parent jg=0;rotate_left;rw[ee hP,ee hP];rw[dz hP,dz hP];have eE:∀x,x∈refsOf c->iy L (qP c (aS c.file d) x).id (qP c (aS c.file d) x).sem=Ao L x c.file d:=λx hx=>by
  show iy L x (λb=>decide (x=c.file)||fk (aS c.file d) b)=_;unfold Ao;by_cases e:x=c.file;rw[ag e];subst e;unfold iy at hF⊢;by_cases g:c.file.p=aZ;exact ag g;rw[af g]at hF⊢;cases hL:L c.file with
  |none=>rw[hL]at hF;exact absurd (show(7:Int)=0 from hF) dD
  |some b=>simp
  rw[af e];congr 1;funext b;rw[ai e,gA]
 have m3:c.cQ∈refsOf c:=by unfold refsOf;simp
 have m4:c.dc∈refsOf c:=by unfold refsOf;simp
 by_cases g:c.kind=5\/c.kind=6
 ·rw[ag g,aD,bq,uJ,eE _ m3];by_cases hA:Ao L c.cQ c.file d=0;rotate_left;rw[ee hA,ee hA];rw[dz hA,dz hA,uJ,eE _ m4];by_cases hB:Ao L c.dc c.file d=0;rotate_left;rw[ee hB,ee hB];rw[dz hB,dz hB,eO]
 have z:Ao L aP c.file d=0:=by unfold Ao;split<;>rfl
 rw[af g,(hc.ends g).1,(hc.ends g).2,dz z,dz z];exact eO
def lQ:List bR:=(di pQ).1.map (cM dQ)
theorem ajX:(nL pQ).1=lQ:=by unfold nL;rw[idQ,af (λg=>g rfl)];rfl
theorem agj:sM sP=⟨[⟨dP,bC pP⟩],lP⟩:=by show(⟨[knF ⟨dP,pP⟩],iB pP++[]⟩:jj)=_;rw[bh,show iB pP=lP from acW];rfl
theorem ajY:sM sQ=⟨[⟨dP,bC pP⟩,⟨dQ,bC pQ⟩],lP++lQ⟩:=by show(⟨[knF ⟨dP,pP⟩,knF ⟨dQ,pQ⟩],iB pP++(iB pQ++[])⟩:jj)=_;rw[bh,show iB pP=lP from acW,show iB pQ=lQ from ajX];rfl
theorem Wz:lP.length=4:=kK
theorem acZ:lQ.length=1:=kK
theorem FK:∀a,a∈lP->a.over=[]:=λa ha=>by have h:(lP.all λa=>decide (a.over=[]))=true:=kK;exact dn (bD.1 h a ha)
theorem q_Q:∀a,a∈lQ->a.over=[⟨dP,1⟩]/\a.kind=7/\a.id=⟨dQ,0⟩:=λa ha=>by have h:(lQ.all λa=>decide (a.over=[⟨dP,1⟩])&&(decide (a.kind=7)&&decide (a.id=⟨dQ,0⟩)))=true:=kK;have :=bD.1 h a ha;simpa using this
theorem ajZ:(⟨dQ,0⟩:bQ)≠⟨dP,1⟩:=λh=>by have :decide ((⟨dQ,0⟩:bQ)=⟨dP,1⟩)=false:=kK;rw[ah h]at this;cases this
def e1 (_:bQ):Bool:=true
def e2 (i:bQ):Bool:=!decide (i=⟨dP,1⟩)
def rk2 (i:bQ):Nat:=if i=⟨dP,1⟩then 1 else 0
theorem aj0:Nf lP e1 (λ_=>0):=by
 refine⟨λi=>?_,λa ha _ i hi=>by rw[FK a ha]at hi;cases hi⟩;have :(lP.any λa=>decide (i∈a.over)&&(decide (a.kind=7)&&e1 a.id))=false:=ox.2 λa ha=>by rw[FK a ha];simp
 rw[this];rfl
theorem aj1:Nf (lP++lQ) e2 rk2:=by
 refine⟨λi=>?_,λa ha _ i hi=>?_⟩;rw[xJ,show(lP.any λa=>decide (i∈a.over)&&(decide (a.kind=7)&&e2 a.id))=false from ox.2 λa ha=>by rw[FK a ha];simp,gA];have :(lQ.any λa=>decide (i∈a.over)&&(decide (a.kind=7)&&e2 a.id))=decide (i=⟨dP,1⟩):=by rw[ot,eA,decide_eq_true_eq];constructor;rintro⟨a,ha,h⟩;rw[(q_Q a ha).1]at h;simp at h;exact h.1;rintro rfl;have h1:=acZ;have hm:lQ[0]' oO∈lQ:=aQ _;generalize lQ[0]' oO=a at hm;obtain⟨g1,g2,g3⟩:=q_Q a hm;refine⟨a,hm,?_⟩;rw[g1,g2,g3];unfold e2;rw[ai ajZ];simp
 rw[this];rfl;rcases bk.1 ha with ha|ha;rw[FK a ha]at hi;cases hi;obtain⟨g1,-,g3⟩:=q_Q a ha;rw[g1]at hi;rw[aO.1 hi,g3];unfold rk2;rw[af ajZ,ag rfl];decide
theorem aj2:(Lp lP e1).length=4:=kK
theorem agk:Lp (lP++lQ) e2=[⟨dP,0⟩,⟨dP,2⟩,⟨dP,3⟩,⟨dQ,0⟩]:=kK
theorem aj3:¬(⟨dP,1⟩:bQ)∈Lp (lP++lQ) e2:=λh=>by have :decide ((⟨dP,1⟩:bQ)∈Lp (lP++lQ) e2)=false:=kK;rw[ah h]at this;cases this
theorem Ph:mV (iz sP) (bC pQ)=true:=kK
theorem aj4:mV (iz []) (bC pP)=true:=kK
end Qv
