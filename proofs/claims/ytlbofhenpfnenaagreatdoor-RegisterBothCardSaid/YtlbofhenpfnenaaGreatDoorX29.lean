/- Part 36 of the proof: its lemmas. No condition. -/
import Derived.Test.YtlbofhenpfnenaaGreatDoorX14
import Derived.Test.YtlbofhenpfnenaaGreatDoorX26
set_option maxRecDepth 10000
set_option maxHeartbeats 80000000
set_option linter.all false
open Go Go.Proofs Go.RowKit
namespace Qv
theorem JF {p:fW}(h:iD p=false):(cn p).1.length<=80020:=by
 have hc:p.changes.length<=20:=by unfold iD at h;simp only[jj,decide_eq_false_iff_not]at h;omega
 have hb:=(zx p.changes [] λa h=>by cases h).1;rw[bk]at hb;unfold cn;repeat' split
 all_goals first|exact zL|omega
theorem afv {p:fW}(h:iD p=false):(dx p).1.length<=80020:=by unfold dx;split;exact zL;rw[ai];exact JF h
theorem Sr {Q:fW->Prop}(h0:Q Dn):∀{s:List bK},(∀x,x∈s->Q x.pat)->∀d,Q (gh s d).1|[],_,_=>h0|x::s,h,d=>by unfold gh;split;exact h x (by simp);exact Sr h0 (λy hy=>h y (bh _ hy)) d
theorem Ss {s:List bK}(h:∀x,x∈s->iD x.pat=false):∀ids:List Dg,(fu s ids).length<=80020*ids.length|[]=>ay _|d::l=>by have h1:=Ss h l;have h2:(dx (gh s d).1).1.length<=80020:=afv (Sr (Q:=λp=>iD p=false) dD h d);show((dx (gh s d).1).1++fu s l).length<=_;rw[au,aI];omega
theorem UO {s:List bK}(h:oq s=false):∀x,x∈s->iD x.pat=false:=λx hx=>by
 unfold oq uM at h;simp only[jj,decide_eq_false_iff_not]at h;obtain⟨h1,h2,-⟩:=h;rw[cF oO]at h1;cases hq:iD x.pat with
 |false=>rfl
 |true=>rw[fS.2 ⟨x,hx,hq⟩]at h1;exact absurd h1 dD
theorem ahM {p:fW}(hf:zy p)(hg:iD p=false)(h:(mL p).2=0):JQ p:=by refine⟨hf,?_,by have :=JF hg;omega⟩;unfold mL at h;by_cases g:(mP p).2≠0;rw[af g]at h;exact absurd h g;exact ee.1 g
theorem acX {s:List bK}(hz:SzT s)(h:Dr s=true):jM s/\s.length<=8/\(pL s).length<=2^20/\∀x,x∈s->iD x.pat=false:=by
 unfold Dr at h;rw[aY,decide_eq_true_eq]at h;obtain⟨h1,h2⟩:=h;have h1:oq s=false:=by
  cases hq:oq s with
  |false=>rfl
  |true=>rw[hq]at h1;cases h1
 have hg:=UO h1;have hS:=ab6 h2;obtain⟨hF,hl⟩:=VO hz h1;refine⟨⟨hF,hS,λx hx=>ahM (hF.each x hx) (hg x hx) (by rw[hS.id x hx])⟩,hl,?_,hg⟩;have h3:=EI (fu s (bB s));have h4:=Ss hg (bB s);have h5:=qR s;show(jr (fu s (bB s))).length<=_;omega
end Qv
