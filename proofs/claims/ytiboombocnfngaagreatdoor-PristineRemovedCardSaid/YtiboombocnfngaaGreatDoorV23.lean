/- Part 29 of the proof: its lemmas. No condition. -/
import Derived.Test.YtiboombocnfngaaGreatDoorV16
import Derived.Test.YtiboombocnfngaaGreatDoorV18
set_option maxRecDepth 10000
set_option maxHeartbeats 80000000
set_option linter.all false
open Go Go.Proofs Go.RowKit
namespace Qv
def zM (L:bV->Option cq)(r:jr):Int:=match L r.id with|none=>7|some b=>if r.sem b=true then 0 else 8
theorem uh (L:bV->Option cq)(r:jr)(rest:List Int):bz ((ct r).map (zM L)++rest)=bz (iG L r.id r.sem::rest):=by unfold ct iG;by_cases h:r.id.p=aV;rw[ag h,ag h,cn rfl];rfl;rw[af h,af h];rfl
theorem Me (L:bV->Option cq){α:Type}(g:α->jr):∀l:List α,bz ((l.flatMap λi=>ct (g i)).map (zM L))=bz (l.map λi=>iG L (g i).id (g i).sem)|[]=>rfl|x::l=>by have ih:=Me L g l;rw[ow,aD,uh,bR,bz,bz,ih]
theorem abM {L:bV->Option cq}{c:dn}{d:Dg}(h:Rb L c d):bz ((Bc c d).map (zM L))=chL L c d:=by
 have hc:=h.clean;have hf:qJ c d=bl c.file d:=by unfold qJ bl;by_cases hz:c.file.p=aV;rw[ag hz,ag ⟨hz,h.own _ (by simp) hz⟩];rw[af hz,af λg=>hz g.1]
 unfold Bc chL;rw[hf,aD,aD,aD];have eF:∀rest,bz ((if c.kind≠1/\c.kind≠7 then ct ⟨c.file,214,[.imp (cC c)],bF c.kind⟩else[]).map (zM L)++rest)=bz (iG L c.file (bF c.kind)::rest):=λrest=>by by_cases g:c.kind≠1/\c.kind≠7;rw[ag g,uh];rw[af g,hc.file oO,cn (show iG L aS (bF c.kind)=0 from rfl)];rfl
 have eP:∀rest,bz ((if c.kind=2 then ct ⟨c.parent,216,[],lq⟩else[]).map (zM L)++rest)=bz (iG L c.parent lq::rest):=λrest=>by by_cases g:c.kind=2;rw[ag g,uh];rw[af g,hc.par g,cn (show iG L aS lq=0 from rfl)];rfl
 have eO:bz ((c.over.flatMap λi=>ct (lS c (bl c.file d) i)).map (zM L))=bz (c.over.map λi=>iG L i (dU c.kind (bl c.file d))):=by
  rw[Me];by_cases g:c.kind=1\/c.kind=5;rw[hc.over g];rfl;have h1:=hc.lo;have h7:=hc.hi;have e:(lS c (bl c.file d) default).sem=dU c.kind (bl c.file d):=by
   funext b;show(decide (sv c.kind=0)||_)=_;unfold dU;have :sv c.kind=AT c.kind:=by
    unfold sv AT;have :c.kind=2\/c.kind=3\/c.kind=4\/c.kind=6\/c.kind=7:=oO
    rcases this with e|e|e|e|e<;>rw[e]<;>decide
   rw[this]
  rw[<-e];rfl
 rw[eF];by_cases hF:iG L c.file (bF c.kind)=0;rotate_left;rw[cE hF,cE hF];rw[cn hF,cn hF,eP];by_cases hP:iG L c.parent lq=0;rotate_left;rw[cE hP,cE hP];rw[cn hP,cn hP];have eE:∀x,x∈refsOf c->iG L (qA c (bl c.file d) x).id (qA c (bl c.file d) x).sem=zI L x c.file d:=λx hx=>by
  show iG L x (λb=>decide (x=c.file)||gj (bl c.file d) b)=_;unfold zI;by_cases e:x=c.file;rw[ag e];subst e;unfold iG at hF⊢;by_cases g:c.file.p=aV;exact ag g;rw[af g]at hF⊢;cases hL:L c.file with
  |none=>rw[hL]at hF;exact absurd (show(7:Int)=0 from hF) dD
  |some b=>simp
  rw[af e];congr 1;funext b;rw[ak e,od]
 have m3:c.cS∈refsOf c:=by unfold refsOf;simp
 have m4:c.cZ∈refsOf c:=by unfold refsOf;simp
 by_cases g:c.kind=5\/c.kind=6
 ·rw[ag g,aD,bu,uh,eE _ m3];by_cases hA:zI L c.cS c.file d=0;rotate_left;rw[cE hA,cE hA];rw[cn hA,cn hA,uh,eE _ m4];by_cases hB:zI L c.cZ c.file d=0;rotate_left;rw[cE hB,cE hB];rw[cn hB,cn hB,eO]
 have z:zI L aS c.file d=0:=by unfold zI;split<;>rfl
 rw[af g,(hc.ends g).1,(hc.ends g).2,cn z,cn z];exact eO
end Qv
