/- Part 31 of the proof: its lemmas. No condition. -/
import Derived.Test.YtiboombocnfngaaGreatDoorZ20
import Derived.Test.YtiboombocnfngaaGreatDoorZ21
set_option maxRecDepth 10000
set_option maxHeartbeats 80000000
set_option linter.all false
open Go Go.Proofs Go.RowKit
namespace Qv
def zk (L:bB->Option bO)(r:jt):Int:=match L r.id with|none=>7|some b=>if r.sem b=true then 0 else 8
theorem tI (L:bB->Option bO)(r:jt)(rest:List Int):bk ((bZ r).map (zk L)++rest)=bk (iJ L r.id r.sem::rest):=by unfold bZ iJ;by_cases h:r.id.p=bg;rw[af h,af h,ef rfl];rfl;rw[aa h,aa h];rfl
theorem Mb (L:bB->Option bO){α:Type}(g:α->jt):∀l:List α,bk ((l.flatMap λi=>bZ (g i)).map (zk L))=bk (l.map λi=>iJ L (g i).id (g i).sem)|[]=>rfl|x::l=>by have ih:=Mb L g l;rw[pR,aF,tI,bw,bk,bk,ih]
theorem abJ {L:bB->Option bO}{c:dH}{d:Dg}(h:QL L c d):bk ((AP c d).map (zk L))=chL L c d:=by
 have hc:=h.clean;have hf:qi c d=bz c.file d:=by unfold qi bz;by_cases hz:c.file.p=bg;rw[af hz,af ⟨hz,h.own _ (by simp) hz⟩];rw[aa hz,aa λg=>hz g.1]
 unfold AP chL;rw[hf,aF,aF,aF];have eF:∀rest,bk ((if c.kind≠1/\c.kind≠7 then bZ ⟨c.file,214,[.imp (cC c)],bH c.kind⟩else[]).map (zk L)++rest)=bk (iJ L c.file (bH c.kind)::rest):=λrest=>by by_cases g:c.kind≠1/\c.kind≠7;rw[af g,tI];rw[aa g,hc.file oO,ef (show iJ L aM (bH c.kind)=0 from rfl)];rfl
 have eP:∀rest,bk ((if c.kind=2 then bZ ⟨c.parent,216,[],lJ⟩else[]).map (zk L)++rest)=bk (iJ L c.parent lJ::rest):=λrest=>by by_cases g:c.kind=2;rw[af g,tI];rw[aa g,hc.par g,ef (show iJ L aM lJ=0 from rfl)];rfl
 have eO:bk ((c.over.flatMap λi=>bZ (lH c (bz c.file d) i)).map (zk L))=bk (c.over.map λi=>iJ L i (gj c.kind (bz c.file d))):=by
  rw[Mb];by_cases g:c.kind=1\/c.kind=5;rw[hc.over g];rfl;have h1:=hc.lo;have h7:=hc.hi;have e:(lH c (bz c.file d) default).sem=gj c.kind (bz c.file d):=by
   funext b;show(decide (rK c.kind=0)||_)=_;unfold gj;have :rK c.kind=Ir c.kind:=by
    unfold rK Ir;have :c.kind=2\/c.kind=3\/c.kind=4\/c.kind=6\/c.kind=7:=oO
    rcases this with e|e|e|e|e<;>rw[e]<;>decide
   rw[this]
  rw[<-e];rfl
 rw[eF];by_cases hF:iJ L c.file (bH c.kind)=0;rotate_left;rw[fW hF,fW hF];rw[ef hF,ef hF,eP];by_cases hP:iJ L c.parent lJ=0;rotate_left;rw[fW hP,fW hP];rw[ef hP,ef hP];have eE:∀x,x∈refsOf c->iJ L (pW c (bz c.file d) x).id (pW c (bz c.file d) x).sem=zb L x c.file d:=λx hx=>by
  show iJ L x (λb=>decide (x=c.file)||gH (bz c.file d) b)=_;unfold zb;by_cases e:x=c.file;rw[af e];subst e;unfold iJ at hF⊢;by_cases g:c.file.p=bg;exact af g;rw[aa g]at hF⊢;cases hL:L c.file with
  |none=>rw[hL]at hF;exact absurd (show(7:Int)=0 from hF) dD
  |some b=>simp
  rw[aa e];congr 1;funext b;rw[ah e,iP]
 have m3:c.eH∈refsOf c:=by unfold refsOf;simp
 have m4:c.eY∈refsOf c:=by unfold refsOf;simp
 by_cases g:c.kind=5\/c.kind=6
 ·rw[af g,aF,bl,tI,eE _ m3];by_cases hA:zb L c.eH c.file d=0;rotate_left;rw[fW hA,fW hA];rw[ef hA,ef hA,tI,eE _ m4];by_cases hB:zb L c.eY c.file d=0;rotate_left;rw[fW hB,fW hB];rw[ef hB,ef hB,eO]
 have z:zb L aM c.file d=0:=by unfold zb;split<;>rfl
 rw[aa g,(hc.ends g).1,(hc.ends g).2,ef z,ef z];exact eO
end Qv
