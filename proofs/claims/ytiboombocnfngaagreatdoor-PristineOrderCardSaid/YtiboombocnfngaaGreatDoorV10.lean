/- Part 16 of the proof: its lemmas. No condition. -/
import Derived.Test.YtiboombocnfngaaGreatDoorV1
import Derived.Test.YtiboombocnfngaaGreatDoorV2
import Derived.Test.YtiboombocnfngaaGreatDoorV3
import Derived.Test.YtiboombocnfngaaGreatDoorV4
import Derived.Test.YtiboombocnfngaaGreatDoorV5
import Derived.Test.YtiboombocnfngaaGreatDoorV6
import Derived.Test.YtiboombocnfngaaGreatDoorV7
import Derived.Test.YtiboombocnfngaaGreatDoorV9
set_option maxRecDepth 10000
set_option maxHeartbeats 80000000
set_option linter.all false
open Go Go.Proofs Go.RowKit
namespace Qv
structure Hid (T:Prop):Prop where
 out:T
theorem share {T G:Prop}(h:Hid T->G)(t:T):G:=h ⟨t⟩
def bz:List Int->Int|[]=>0|e::l=>if e≠0 then e else bz l
theorem cE {e:Int}{l:List Int}(h:e≠0):bz (e::l)=e:=ag h
theorem cn {e:Int}{l:List Int}(h:e=0):bz (e::l)=bz l:=af (λg=>g h)
theorem jY {p:Prop}[Decidable p]{e:Int}{l:List Int}(h:¬p):bz ((if p then e else 0)::l)=bz l:=by rw[af h];exact cn rfl
theorem qV {p:Prop}[Decidable p]{e:Int}{l:List Int}(h:p):bz ((if p then e else 0)::l)=bz (e::l):=by rw[ag h]
def lq (x:cq):Bool:=decide (x.kind=1)&&decide (x.type=4)
def Qc (c:dn)(own:List cq):List Int:=(if 2<=c.kind/\c.kind<=6 then ua c.file own.length (bF c.kind (nj own c.file))else 0)::(if c.kind=2/\c.parent≠kX then ua c.parent own.length (lq (nj own c.parent))else 0)::(if fS c.kind=true then ua c.cS own.length (decide (c.cS=c.file)||gj c.file (nj own c.cS))else 0)::(if fS c.kind=true then ua c.cZ own.length (decide (c.cZ=c.file)||gj c.file (nj own c.cZ))else 0)::((c.over.map λx=>ua x own.length (dU c.kind c.file (nj own x)))++[if c.kind=2/\c.parent=c.file then 20 else 0,if fS c.kind=true/\c.cS=c.cZ/\(c.kind=6\/c.cS≠c.file)then 1 else 0])
def me (c:dn)(own:List cq):Int:=bz (Qc c own)
def IE (c:dn)(k:Nat):bV:=if k=0 then c.cS else c.cZ
def age (c:dn)(own:List cq):Nat->List Int|0=>[ua c.cS own.length (decide (c.cS=c.file)||gj c.file (nj own c.cS)),ua c.cZ own.length (decide (c.cZ=c.file)||gj c.file (nj own c.cZ))]|1=>[ua c.cZ own.length (decide (c.cZ=c.file)||gj c.file (nj own c.cZ))]|_=>[]
theorem Wy (c:dn)(own:List cq){k:Nat}(h:k<2):age c own k=ua (IE c k) own.length (decide (IE c k=c.file)||gj c.file (nj own (IE c k)))::age c own (k+1):=by
 match k,h with
  |0,_=>rfl
  |1,_=>rfl
theorem agf (c:dn){k:Nat}(h:k<2):[cI c.cS,cI c.cZ][((k:Nat):Int).toNat]?=some (cI (IE c k)):=by
 match k,h with
  |0,_=>rfl
  |1,_=>rfl
theorem oN {α β:Type}{g:α->β}{l:List α}{k:Nat}(h:k<l.length)(r:List β):(l.drop k).map g++r=g l[k]::((l.drop (k+1)).map g++r):=by rw[bZ h,bR,dm]
theorem adG (c:dn)(own:List cq)(hl:own.length<=2^47)(ho:c.over.length<=2^47):aq C 273 [.agg (cC c),.sl (iu own)] (λr=>r=.val (.int .i64 (me c own))):=by
 have hE:me c own=bz (Qc c own):=rfl;unfold Qc at hE;refine ej [5,10,18,24,26] Tryz.func273 rfl rfl rfl ?_;refine⟨none,?_⟩;refine share (T:=?T1) (λH1=>?m1) ?r1;case m1=>refine aF (λh1=>aF (λh2=>?_) (λh2=>?_)) (λh1=>?_);rw[qV (show 2<=c.kind/\c.kind<=6 from⟨h1,h2⟩)]at hE;refine bW 10 kK ?_;refine⟨_,(Nd own c.file hl).cut,?_⟩;refine⟨_,(FN c.kind (nj own c.file)).cut,?_⟩;refine cl (BD c.file own (bF c.kind (nj own c.file))).cut ?_;refine cu (λh=>?_) (λh=>?_);rw[hE,cE h];exact rfl;rw[cn h]at hE;refine dc 163 [(1,.p (.sl (iu own))),(2,.ptr 2 0)] [(2,aG (cC c))] rfl wS oS ?_;revert hE;exact H1.out;rw[jY (show¬(2<=c.kind/\c.kind<=6)fromλh=>h2 h.2)]at hE;refine dc 163 [(1,.p (.sl (iu own))),(2,.ptr 2 0)] [(2,aG (cC c))] rfl wS oS ?_;revert hE;exact H1.out;rw[jY (show¬(2<=c.kind/\c.kind<=6)fromλh=>h1 h.1)]at hE;refine dc 163 [(1,.p (.sl (iu own))),(2,.ptr 2 0)] [(2,aG (cC c))] rfl wS oS ?_;revert hE;exact H1.out
 case r1=>
  intro hE;refine share (T:=?T2) (λH2=>?m2) ?r2;case m2=>
   refine bW 9 kK ?_;refine aB (λh1=>?_) (λh1=>?_);rotate_left;rw[jY (show¬(c.kind=2/\c.parent≠kX)fromλh=>h1 h.1)]at hE;refine dc 163 [(1,.p (.sl (iu own))),(2,.ptr 2 0)] [(2,aG (cC c))] rfl wS oS ?_;revert hE;exact H2.out;refine⟨_,GK.cut,?_⟩;refine qT ?_;refine Iu (a:=c.parent) (b:=kX) ?_;by_cases hp:c.parent=kX;rw[an hp];rw[jY (show¬(c.kind=2/\c.parent≠kX)fromλh=>h.2 hp)]at hE;refine dc 163 [(1,.p (.sl (iu own))),(2,.ptr 2 0)] [(2,aG (cC c))] rfl wS oS ?_;revert hE;exact H2.out;rw[ak hp];rw[qV (show c.kind=2/\c.parent≠kX from⟨h1,hp⟩)]at hE;refine cl (Nd own c.parent hl).cut ?_;refine⟨none,?_⟩;refine aB (λh2=>aB (λh3=>?_) (λh3=>?_)) (λh2=>?_);have e:lq (nj own c.parent)=true:=by have h2:(nj own c.parent).kind=1:=h2;have h3:(nj own c.parent).type=4:=h3;simp[lq,h2,h3]
   rw[e]at hE;refine cl (BD c.parent own true).cut ?_;refine cu (λh=>?_) (λh=>?_);rw[hE,cE h];exact rfl;rw[cn h]at hE;refine dc 163 [(1,.p (.sl (iu own))),(2,.ptr 2 0)] [(2,aG (cC c))] rfl wS oS ?_;revert hE;exact H2.out;have e:lq (nj own c.parent)=false:=by have h3:¬(nj own c.parent).type=4:=h3;simp[lq,h3]
   rw[e]at hE;refine cl (BD c.parent own false).cut ?_;refine cu (λh=>?_) (λh=>?_);rw[hE,cE h];exact rfl;rw[cn h]at hE;refine dc 163 [(1,.p (.sl (iu own))),(2,.ptr 2 0)] [(2,aG (cC c))] rfl wS oS ?_;revert hE;exact H2.out;have e:lq (nj own c.parent)=false:=by have h2:¬(nj own c.parent).kind=1:=h2;simp[lq,h2]
   rw[e]at hE;refine cl (BD c.parent own false).cut ?_;refine cu (λh=>?_) (λh=>?_);rw[hE,cE h];exact rfl;rw[cn h]at hE;refine dc 163 [(1,.p (.sl (iu own))),(2,.ptr 2 0)] [(2,aG (cC c))] rfl wS oS ?_;revert hE;exact H2.out
  case r2=>
   intro hE;refine share (T:=?T3) (λH3=>?m3) ?r3;case m3=>
    refine cl (Nc c.kind).cut ?_;cases ht:fS c.kind with
    |false=>rw[ht,jY dD,jY dD]at hE;rw[<-ht]at hE;refine dc 163 [(1,.p (.sl (iu own))),(2,.ptr 2 0)] [(2,aG (cC c))] rfl wS oS ?_;revert hE;exact H3.out
    |true=>
     refine bJ 163 (λk:Nat=>[(1,.p (.sl (iu own))),(2,.ptr 2 0),(8,.fM 70 54 33 [cI c.cS,cI c.cZ]),(9,.p (.int .i64 k))]) (λ_=>[(2,aG (cC c))]) (λk=>k<=2/\me c own=bz (age c own k++(c.over.map (λx=>ua x own.length (dU c.kind c.file (nj own x)))++[if c.kind=2/\c.parent=c.file then 20 else 0,if fS c.kind=true/\c.cS=c.cZ/\(c.kind=6\/c.cS≠c.file)then 1 else 0]))) (λk=>2-k) 0 ⟨zL,by rw[hE,ag ht,ag ht];rfl⟩ rfl wS oS ?_;rintro k ⟨hk2,hE⟩;have hk2:k<=2:=hk2;refine aF (λhlt=>?_) (λhge=>?_);have hlt:k<2:=by have :(k:Int)<2:=hlt;omega
     rw[Wy c own hlt,dm]at hE;refine bW 23 kK ?_;refine⟨oO,_,agf c hlt,rfl,?_⟩;refine⟨oO,_,agf c hlt,rfl,?_⟩;refine qT ?_;refine jC (a:=IE c k) (b:=c.file) ?_;by_cases hf:IE c k=c.file;rw[an hf];rw[an hf,Bool.true_or]at hE;refine cl (BD (IE c k) own true).cut ?_;refine cu (λh=>?_) (λh=>?_);rw[hE,cE h];exact rfl;rw[cn h]at hE;exact nx (k+1) (aQ (k+1) ⟨hlt,hE⟩ oO rfl wS oS);rw[ak hf];rw[ak hf,od]at hE;refine⟨oO,_,agf c hlt,rfl,?_⟩;refine⟨_,(Nd own (IE c k) hl).cut,?_⟩;refine⟨_,(IB c.file (nj own (IE c k))).cut,?_⟩;refine cl (BD (IE c k) own (gj c.file (nj own (IE c k)))).cut ?_;refine cu (λh=>?_) (λh=>?_);rw[hE,cE h];exact rfl;rw[cn h]at hE;exact nx (k+1) (aQ (k+1) ⟨hlt,hE⟩ oO rfl wS oS);obtain rfl:k=2:=by have :¬(k:Int)<2:=hge;omega
     have hE:me c own=bz (c.over.map (λx=>ua x own.length (dU c.kind c.file (nj own x)))++[if c.kind=2/\c.parent=c.file then 20 else 0,if fS c.kind=true/\c.cS=c.cZ/\(c.kind=6\/c.cS≠c.file)then 1 else 0]):=hE;refine dc 163 [(1,.p (.sl (iu own))),(2,.ptr 2 0)] [(2,aG (cC c))] rfl wS oS ?_;revert hE;exact H3.out
   case r3=>
    intro hE;refine bJ 163 (λk:Nat=>[(1,.p (.sl (iu own))),(2,.ptr 2 0),(11,.p (.int .i64 k))]) (λ_=>[(2,aG (cC c))]) (λk=>k<=c.over.length/\me c own=bz ((c.over.drop k).map (λx=>ua x own.length (dU c.kind c.file (nj own x)))++[if c.kind=2/\c.parent=c.file then 20 else 0,if fS c.kind=true/\c.cS=c.cZ/\(c.kind=6\/c.cS≠c.file)then 1 else 0])) (λk=>c.over.length-k) 0 ⟨zL,hE⟩ rfl wS oS ?_;rintro k ⟨hk,hE⟩;refine cg (l:=c.over) (f:=cI) (λhlt=>?_) (λhge=>?_);rw[oN hlt]at hE;refine bW 18 kK ?_;refine ix hlt ?_;refine ix hlt ?_;refine⟨_,(Nd own c.over[k] hl).cut,?_⟩;refine⟨_,(FM c.kind c.file (nj own c.over[k])).cut,?_⟩;refine cl (BD c.over[k] own (dU c.kind c.file (nj own c.over[k]))).cut ?_;refine cu (λh=>?_) (λh=>?_);rw[hE,cE h];exact rfl;rw[cn h]at hE;exact nx (k+1) (aQ (k+1) ⟨hlt,hE⟩ oO rfl wS oS);rw[cV oO,fW,gx]at hE;refine dc 163 [(1,.p (.sl (iu own))),(2,.ptr 2 0)] [(2,aG (cC c))] rfl wS oS ?_;refine⟨none,?_⟩;refine share (T:=?T4) (λH4=>?m4) ?r4;case m4=>refine aB (λh1=>?_) (λh1=>?_);rotate_left;rw[jY (show¬(c.kind=2/\c.parent=c.file)fromλh=>h1 h.1)]at hE;refine dc 163 [(1,.p (.sl (iu own))),(2,.ptr 2 0)] [(2,aG (cC c))] rfl wS oS ?_;revert hE;exact H4.out;refine qT ?_;refine jC (a:=c.parent) (b:=c.file) ?_;by_cases hp:c.parent=c.file;rw[an hp];rw[qV (show c.kind=2/\c.parent=c.file from⟨h1,hp⟩),cE dD]at hE;rw[hE];exact rfl;rw[ak hp];rw[jY (show¬(c.kind=2/\c.parent=c.file)fromλh=>hp h.2)]at hE;refine dc 163 [(1,.p (.sl (iu own))),(2,.ptr 2 0)] [(2,aG (cC c))] rfl wS oS ?_;revert hE;exact H4.out
    case r4=>
     intro hE;refine⟨none,?_⟩;refine cl (Nc c.kind).cut ?_;have no:¬(fS c.kind=true/\c.cS=c.cZ/\(c.kind=6\/c.cS≠c.file))->dx.val (.int .i64 0)=dx.val (.int .i64 (me c own)):=λh=>by rw[hE,jY h];rfl
     have yes:(fS c.kind=true/\c.cS=c.cZ/\(c.kind=6\/c.cS≠c.file))->dx.val (.int .i64 1)=dx.val (.int .i64 (me c own)):=λh=>by rw[hE,qV h,cE dD]
     cases ht:fS c.kind with
     |false=>exact no λh=>by rw[ht]at h;exact absurd h.1 dD
     |true=>refine qT ?_;refine jC (a:=c.cS) (b:=c.cZ) ?_;by_cases hab:c.cS=c.cZ;rw[an hab];refine aB (λh6=>?_) (λh6=>?_);exact yes ⟨ht,hab,.inl h6⟩;refine qT ?_;refine Iu (a:=c.cS) (b:=c.file) ?_;by_cases haf:c.cS=c.file;rw[an haf];exact no λh=>h.2.2.elim h6 λg=>g haf;rw[ak haf];exact yes ⟨ht,hab,.inr haf⟩;rw[ak hab];exact no λh=>hab h.2.1
def zg (l:List Bytes):Int:=if l.length=0 then 1 else if 2000<l.length then 4 else if l.all qi=true then 0 else 3
theorem rJ {α:Type}{f:α->Bool}{l:List α}{k:Nat}(hk:k<l.length)(h:(l.take k).all f=true)(h2:f l[k]=true):(l.take (k+1)).all f=true:=by rw[<-gb hk,List.all_append,h];simp[h2]
theorem Nj {α:Type}{f:α->Bool}{l:List α}{k:Nat}(hk:k<l.length)(h2:f l[k]=false):l.all f=false:=List.all_eq_false.2 ⟨_,aO hk,by rw[h2];decide⟩
theorem Wz (l:List Bytes)(hl:SzS l):aq C 307 [PI l] (λr=>r=.val (.int .i64 (zg l))):=by
 have hlen:=hl.len;have he:(((l.map mT).length:Nat):Int)=(l.length:Int):=by rw[ah]
 refine ai Tryz.func307 rfl rfl rfl ?_;refine aB (λh=>?_) (λh=>?_);have :l.length=0:=by have :(((l.map mT).length:Nat):Int)=0:=h;omega
 show dx.val _=_;rw[zg,ag this];have h0:¬l.length=0:=λe=>h (by rw[he,e];rfl);refine aF (λh=>?_) (λh=>?_);have :2000<l.length:=by have :(((l.map mT).length:Nat):Int)>2000:=h;omega
 show dx.val _=_;rw[zg,af h0,ag this];have h1:¬2000<l.length:=by have :¬(((l.map mT).length:Nat):Int)>2000:=h;omega
 refine bJ 22 (λk:Nat=>[(0,.p (PI l)),(3,.p (.int .i64 k))]) (λ_=>[]) (λk=>k<=l.length/\(l.take k).all qi=true) (λk=>l.length-k) 0 ⟨zL,rfl⟩ rfl wS trivial ?_;rintro k ⟨hk,hall⟩;refine cg (λhlt=>?_) (λhge=>?_);refine ix hlt ?_;refine cl (Wq l[k] (hl.each _ (aO _))) ?_;refine bH ?_;cases hv:qi l[k]with
 |false=>have :l.all qi=false:=Nj hlt hv;show dx.val _=_;rw[zg,af h0,af h1,af (by rw[this];decide)]
 |true=>exact nx (k+1) (aQ (k+1) ⟨hlt,rJ hlt hall hv⟩ oO rfl wS trivial)
 have :l.all qi=true:=by rw[cU oO]at hall;exact hall
 show dx.val _=_;rw[zg,af h0,af h1,ag this]
def zh (l:List Dg)(i:Nat):Int:=if l.getD i aV=aV then 1 else if 0<i/\0<=ee (l.getD (i-1) aV) (l.getD i aV)then 9 else 0
def mY (l:List Dg):Int:=if 100<l.length then 4 else bz ((List.range l.length).map (zh l))
theorem wZ (g:Nat->Int)(n k:Nat)(hk:k<n)(h:∀i,i<k->g i=0)(h2:g k≠0):bz ((List.range n).map g)=g k:=by
 have e:List.range n=List.range k++(k::(List.range (n-k-1)).map (·+(k+1))):=by apply List.ext_getElem;simp;omega;intro i h1 h3;simp only[Dt,List.getElem_append,mw,List.getElem_cons,qm];split;rfl;split;omega;omega
 rw[e,aD,bR];have :∀(l:List Nat)(r:List Int),(∀i,i∈l->g i=0)->bz (l.map g++r)=bz r:=by
  intro l;induction l with
  |nil=>intro r _;rfl
  |cons a l ih=>intro r hr;rw[bR,dm,cn (hr a (by simp))];exact ih r λi hi=>hr i (by simp[hi])
 rw[this _ _ λi hi=>h i (hU.1 hi),cE h2]
theorem uW (g:Nat->Int)(n:Nat)(h:∀i,i<n->g i=0):bz ((List.range n).map g)=0:=by
 have :∀(l:List Nat),(∀i,i∈l->g i=0)->bz (l.map g)=0:=by
  intro l;induction l with
  |nil=>intro _;rfl
  |cons a l ih=>intro hr;rw[bR,cn (hr a (by simp))];exact ih λi hi=>hr i (by simp[hi])
 exact this _ λi hi=>h i (hU.1 hi)
theorem Nk {l:List Dg}{k:Nat}(h:k<l.length):zh l k=if l[k]=aV then 1 else if 0<k/\0<=ee (l.getD (k-1) aV) l[k]then 9 else 0:=by
 have :l.getD k aV=l[k]:=by simp[List.getD,h]
 unfold zh;rw[this]
theorem adH (l:List Dg)(hl:l.length<=2^47):aq C 199 [.sl (jW l)] (λr=>r=.val (.int .i64 (mY l))):=by
 unfold jW;have he:(((l.map cD).length:Nat):Int)=(l.length:Int):=by rw[ah]
 refine ai Tryz.func199 rfl rfl rfl ?_;refine aF (λh=>?_) (λh=>?_);have :100<l.length:=by have :(((l.map cD).length:Nat):Int)>100:=h;omega
 show dx.val _=_;rw[mY,ag this];have h1:¬100<l.length:=by have :¬(((l.map cD).length:Nat):Int)>100:=h;omega
 refine bJ 33 (λk:Nat=>[(0,.p (.sl (l.map cD))),(3,.p (.int .i64 k))]) (λ_=>[]) (λk=>k<=l.length/\∀i,i<k->zh l i=0) (λk=>l.length-k) 0 ⟨zL,λi h=>absurd h (jm _)⟩ rfl wS trivial ?_;rintro k ⟨hk,hall⟩;refine cg (λhlt=>?_) (λhge=>?_)
 ·have hb:=Nk hlt;have bad:zh l k≠0->dx.val (.int .i64 (zh l k))=dx.val (.int .i64 (mY l)):=λh=>by rw[mY,af h1,wZ (zh l) l.length k hlt hall h]
  have next:zh l k=0->k+1<=l.length/\∀i,i<k+1->zh l i=0:=λh=>⟨hlt,λi hi=>by by_cases hik:i=k;rw[hik];exact h;exact hall i oO⟩;refine ix hlt ?_;refine cl (wT l[k]) ?_;by_cases hz:l[k]=aV;rw[an hz];rw[ag hz]at hb;have :=bad (by rw[hb];decide);rw[hb]at this;exact this;rw[ak hz];rw[af hz]at hb;refine bW 12 kK ?_;refine aF (λh0=>?_) (λh0=>?_)
  ·have h0:0<k:=by have :(k:Int)>0:=h0;omega
   have hlt':k-1<l.length:=oO
   have hg:l.getD (k-1) aV=l[k-1]:=by simp[List.getD,hlt']
   rw[hg]at hb;refine nx (k-1) ?_;refine ix hlt' ?_;refine ix hlt ?_;refine cl (rT l[k-1] l[k]) ?_;refine aF (λh2=>?_) (λh2=>?_);rw[ag ⟨h0,h2⟩]at hb;have :=bad (by rw[hb];decide);rw[hb]at this;exact this;rw[af λh=>h2 h.2]at hb;exact nx (k+1) (aQ (k+1) (next hb) oO rfl wS trivial)
  have h0:¬0<k:=by have :¬(k:Int)>0:=h0;omega
  rw[af λh=>h0 h.1]at hb;exact nx (k+1) (aQ (k+1) (next hb) oO rfl wS trivial)
 have :mY l=0:=by rw[mY,af h1];exact uW _ _ λi hi=>hall i oO
 rw[this];exact rfl
def cO (c:dn):Int:=if c.kind<1\/7<c.kind then 8 else if bB (eC c)=false then 1 else if c.kind=1/\(c.type<1\/4<c.type)then 8 else if c.kind=2/\iz c.name=false then 5 else if c.kind=3/\(c.mode<0\/511<c.mode)then 2 else if 65536<c.data.length then 4 else if c.kind=5 then zg c.lines else if c.kind=7/\c.over.length=0 then 1 else if 400<c.over.length then 4 else if ye c.over=false then 9 else 0
theorem SJ (c:dn)(hz:SzC c):aq C 272 [.agg (cC c)] (λr=>r=.val (.int .i64 (cO c))):=by
 obtain⟨E,hE⟩:∃E,cO c=E:=⟨_,rfl⟩;rw[hE];have hE:E=cO c:=hE.symm;unfold cO at hE;have WA:(((oF c.over).length:Nat):Int)=(c.over.length:Int):=by simp[oF]
 refine ej [7,9,11,17] Tryz.func272 rfl rfl rfl ?_;refine⟨none,?_⟩;refine aF (λh=>?_) (λh1=>aF (λh=>?_) (λh2=>?_));rw[ag (show c.kind<1\/7<c.kind from .inl h)]at hE;rw[hE];exact rfl;rw[ag (show c.kind<1\/7<c.kind from .inr h)]at hE;rw[hE];exact rfl;have h1:¬c.kind<1:=h1;have h2:¬7<c.kind:=h2;rw[af (show¬(c.kind<1\/7<c.kind)fromλh=>h.elim h1 h2)]at hE;refine cl (adF c oO oO).cut ?_;refine cl (aac (eC c)).cut ?_;refine bH ?_;cases he:bB (eC c)with
 |false=>rw[he,ag rfl]at hE;rw[hE];exact rfl
 |true=>
  rw[he,af dD]at hE;refine⟨none,?_⟩;refine share (T:=?T1) (λH1=>?m1) ?r1;case m1=>refine aB (λh1=>aF (λh2=>?_) (λh2=>aF (λh3=>?_) (λh3=>?_))) (λh1=>?_);rw[ag (show(c.kind=1/\(c.type<1\/4<c.type))from⟨h1,.inl h2⟩)]at hE;rw[hE];exact rfl;rw[ag (show(c.kind=1/\(c.type<1\/4<c.type))from⟨h1,.inr h3⟩)]at hE;rw[hE];exact rfl;rw[af (show¬(c.kind=1/\(c.type<1\/4<c.type))fromλh=>h.2.elim h2 h3)]at hE;refine dc 77 [(1,.ptr 1 0)] [(1,aG (cC c))] rfl wS oS ?_;revert hE;exact H1.out;rw[af (show¬(c.kind=1/\(c.type<1\/4<c.type))fromλh=>h1 h.1)]at hE;refine dc 77 [(1,.ptr 1 0)] [(1,aG (cC c))] rfl wS oS ?_;revert hE;exact H1.out
  case r1=>
   intro hE;refine⟨none,?_⟩;refine share (T:=?T2) (λH2=>?m2) ?r2;case m2=>
    refine aB (λh1=>?_) (λh1=>?_);refine cl (Iy c.name (by have :=hz.name;omega)).cut ?_;refine bH ?_;cases hn:iz c.name with
    |false=>rw[ag (show c.kind=2/\iz c.name=false from⟨h1,hn⟩)]at hE;rw[hE];exact rfl
    |true=>rw[af (show¬(c.kind=2/\iz c.name=false)fromλh=>by rw[hn]at h;exact absurd h.2 dD)]at hE;refine dc 77 [(1,.ptr 1 0)] [(1,aG (cC c))] rfl wS oS ?_;revert hE;exact H2.out
    rw[af (show¬(c.kind=2/\iz c.name=false)fromλh=>h1 h.1)]at hE;refine dc 77 [(1,.ptr 1 0)] [(1,aG (cC c))] rfl wS oS ?_;revert hE;exact H2.out
   case r2=>
    intro hE;refine⟨none,?_⟩;refine share (T:=?T3) (λH3=>?m3) ?r3;case m3=>refine aB (λh1=>aF (λh2=>?_) (λh2=>aF (λh3=>?_) (λh3=>?_))) (λh1=>?_);rw[ag (show(c.kind=3/\(c.mode<0\/511<c.mode))from⟨h1,.inl h2⟩)]at hE;rw[hE];exact rfl;rw[ag (show(c.kind=3/\(c.mode<0\/511<c.mode))from⟨h1,.inr h3⟩)]at hE;rw[hE];exact rfl;rw[af (show¬(c.kind=3/\(c.mode<0\/511<c.mode))fromλh=>h.2.elim h2 h3)]at hE;refine dc 77 [(1,.ptr 1 0)] [(1,aG (cC c))] rfl wS oS ?_;revert hE;exact H3.out;rw[af (show¬(c.kind=3/\(c.mode<0\/511<c.mode))fromλh=>h1 h.1)]at hE;refine dc 77 [(1,.ptr 1 0)] [(1,aG (cC c))] rfl wS oS ?_;revert hE;exact H3.out
    case r3=>
     intro hE;refine aF (λh=>?_) (λh=>?_);rw[ag (show 65536<c.data.length by have :(c.data.length:Int)>65536:=h;omega)]at hE;rw[hE];exact rfl;rw[af (show¬65536<c.data.length by have :¬(c.data.length:Int)>65536:=h;omega)]at hE;refine aB (λh5=>?_) (λh5=>?_);rw[ag (show c.kind=5 from h5)]at hE;refine cl (Wz c.lines hz.lines).cut ?_;rw[hE];exact rfl;rw[af (show¬c.kind=5 from h5)]at hE;refine⟨none,?_⟩;refine share (T:=?T4) (λH4=>?m4) ?r4;case m4=>refine aB (λh1=>?_) (λh1=>?_);refine aB (λh=>?_) (λh=>?_);have h:(((oF c.over).length:Nat):Int)=0:=h;rw[ag (show c.kind=7/\c.over.length=0 from⟨h1,oO⟩)]at hE;rw[hE];exact rfl;have h:¬(((oF c.over).length:Nat):Int)=0:=h;rw[af (show¬(c.kind=7/\c.over.length=0)fromλg=>h oO)]at hE;refine dc 77 [(1,.ptr 1 0)] [(1,aG (cC c))] rfl wS oS ?_;revert hE;exact H4.out;rw[af (show¬(c.kind=7/\c.over.length=0)fromλh=>h1 h.1)]at hE;refine dc 77 [(1,.ptr 1 0)] [(1,aG (cC c))] rfl wS oS ?_;revert hE;exact H4.out
     case r4=>
      intro hE;refine aF (λh=>?_) (λh=>?_);rw[ag (show 400<c.over.length by have :(((oF c.over).length:Nat):Int)>400:=h;omega)]at hE;rw[hE];exact rfl;rw[af (show¬400<c.over.length by have :¬(((oF c.over).length:Nat):Int)>400:=h;omega)]at hE;refine cl (ado c.over hz.over).cut ?_;refine bH ?_;cases ha:ye c.over with
      |false=>rw[ha,ag rfl]at hE;rw[hE];exact rfl
      |true=>rw[ha,af dD]at hE;rw[hE];exact rfl
theorem fu {c:dn}(h:cO c=0):1<=c.kind/\c.kind<=7/\(c.kind=5->c.lines.length<=2000/\c.lines.all qi=true)/\(c.kind≠5->c.over.length<=400)/\bB (eC c)=true/\c.data.length<=65536:=by
 unfold cO at h;by_cases h1:c.kind<1\/7<c.kind;rw[ag h1]at h;exact absurd h dD;rw[af h1]at h;by_cases h2:bB (eC c)=false;rw[ag h2]at h;exact absurd h dD;rw[af h2]at h;by_cases h3:c.kind=1/\(c.type<1\/4<c.type);rw[ag h3]at h;exact absurd h dD;rw[af h3]at h;by_cases h4:c.kind=2/\iz c.name=false;rw[ag h4]at h;exact absurd h dD;rw[af h4]at h;by_cases h5:c.kind=3/\(c.mode<0\/511<c.mode);rw[ag h5]at h;exact absurd h dD;rw[af h5]at h;by_cases h6:65536<c.data.length;rw[ag h6]at h;exact absurd h dD;rw[af h6]at h;have he:bB (eC c)=true:=by simpa using h2
 by_cases h7:c.kind=5;rw[ag h7]at h;refine⟨oO,oO,λ_=>?_,λg=>absurd h7 g,he,oO⟩;unfold zg at h;by_cases g1:c.lines.length=0;rw[ag g1]at h;exact absurd h dD;rw[af g1]at h;by_cases g2:2000<c.lines.length;rw[ag g2]at h;exact absurd h dD;rw[af g2]at h;by_cases g3:c.lines.all qi=true;exact⟨oO,g3⟩;rw[af g3]at h;exact absurd h dD;rw[af h7]at h;by_cases h8:c.kind=7/\c.over.length=0;rw[ag h8]at h;exact absurd h dD;rw[af h8]at h;by_cases h9:400<c.over.length;rw[ag h9]at h;exact absurd h dD;exact⟨oO,oO,λg=>absurd g h7,λ_=>oO,he,oO⟩
theorem vJ (c:dn)(f:Nat):(dw c f).length=if c.kind=5 then 2*c.lines.length+1 else 1:=by unfold dw;by_cases h:c.kind=5;rw[ag h,ag h];simp;omega;rw[af h,af h];rfl
theorem zi {c:dn}(h:cO c=0)(f:Nat):(dw c f).length<=4001:=by rw[vJ];obtain⟨-,-,h5,-⟩:=fu h;by_cases hk:c.kind=5;have :=(h5 hk).1;rw[ag hk];omega;rw[af hk];omega
theorem aar (c:dn)(f:Nat)(h1:1<=c.kind)(h7:c.kind<=7)(hf:f<=2^30)(hl:c.kind=5->c.lines.length<=2^30):aq C 57 [.agg (cC c),.int .i64 (f:Int)] (λr=>r=.val (.sl (iu (dw c f)))):=by by_cases e5:c.kind=5;exact aaq c f e5 hf (hl e5);by_cases e1:c.kind=1;exact aae c f e1;by_cases e2:c.kind=2;exact aag c f e2;by_cases e3:c.kind=3;exact aai c f e3;by_cases e4:c.kind=4;exact aak c f e4;by_cases e6:c.kind=6;exact aam c f e6;exact aao c f oO
def iF:List dn->List cq->List cq×Int|[],own=>(own,0)|c::l,own=>if cO c≠0 then([],cO c)else if me c own≠0 then([],me c own)else iF l (own++dw c own.length)
theorem jM (c:dn)(l:List dn)(own:List cq):iF (c::l) own=if cO c≠0 then([],cO c)else if me c own≠0 then([],me c own)else iF l (own++dw c own.length):=rfl
def UE (x:List cq×Int):AV:=.eW [.sl (iu x.1),.int .i64 x.2]
theorem adI (l:List dn)(hl:l.length<=400)(hz:∀c,c∈l->SzC c):aq C 200 [.sl (Ah l)] (λr=>r=.val (UE (iF l []))):=by
 unfold Ah;refine ai Tryz.func200 rfl rfl rfl ?_;refine bJ 42 (λx:Nat×List cq=>[(0,.p (.sl (l.map cC))),(4,.fM 8 109 172 (x.2.map cA)),(5,.p (.int .i64 x.1))]) (λ_=>[]) (λx=>x.1<=l.length/\x.2.length<=4001*x.1/\iF l []=iF (l.drop x.1) x.2) (λx=>l.length-x.1) (0,[]) ⟨zL,zL,rfl⟩ rfl wS trivial ?_;rintro⟨k,own⟩ ⟨hk,hn,hE⟩;have hk:k<=l.length:=hk;have hn:own.length<=4001*k:=hn;have hE:iF l []=iF (l.drop k) own:=hE;refine cg (λhlt=>?_) (λhge=>?_);have hc:=hz l[k] (aO _);rw[bZ hlt]at hE;rw[jM]at hE;refine ix hlt ?_;refine cl (SJ l[k] hc) ?_;refine cu (λh=>?_) (λh=>?_);rw[ag h]at hE;rw[show iF l []=([],cO l[k])from hE];exact rfl;rw[af λg=>g h]at hE;refine ix hlt ?_;refine cl (adG l[k] own oO hc.over) ?_;refine cu (λh2=>?_) (λh2=>?_);rw[ag h2]at hE;rw[show iF l []=([],me l[k] own)from hE];exact rfl;rw[af λg=>g h2]at hE;obtain⟨g1,g2,g3,-,-,-⟩:=fu h;have hm:=zi h own.length;refine ix hlt ?_;have hml:(((own.map cA).length:Nat):Int)=(own.length:Int):=by rw[ah]
 refine cl (by rw[hml];exact aar l[k] own.length g1 g2 oO (λg=>by have :=(g3 g).1;omega)) ?_;refine⟨iE,iE,by show((own.map cA).length+((dw l[k] own.length).map cA).length)*296<=_;rw[ah,ah];omega,(own++dw l[k] own.length).map cA,by rw[aD];rfl,?_⟩;refine nx (k+1) (aQ (k+1,own++dw l[k] own.length) ⟨hlt,by show(own++dw l[k] own.length).length<=4001*(k+1);rw[ay];omega,hE⟩ (by show l.length-(k+1)<l.length-k;omega) rfl wS trivial);rw[cV oO]at hE;rw[hE];exact rfl
def dM (p:gr):List cq×Int:=if iz p.fq=false then([],5)else if 1000<p.message.length then([],4)else if p.time<0\/1099511627776<p.time then([],2)else if mY p.deps≠0 then([],mY p.deps)else if p.changes.length=0 then([],1)else if 400<p.changes.length then([],4)else iF p.changes []
theorem Qd (p:gr)(hz:RC p):aq C 129 [.agg (cP p)] (λr=>r=.val (UE (dM p))):=by
 obtain⟨E,hE⟩:∃E,dM p=E:=⟨_,rfl⟩;rw[hE];have hE:E=dM p:=hE.symm;unfold dM at hE;have lU:(((Ah p.changes).length:Nat):Int)=(p.changes.length:Int):=by simp[Ah]
 refine ai Tryz.func129 rfl rfl rfl ?_;refine cl (Iy p.fq (by have :=hz.fq;omega)) ?_;refine bH ?_;cases hn:iz p.fq with
 |false=>rw[hn,ag rfl]at hE;rw[hE];exact rfl
 |true=>rw[hn,af dD]at hE;refine aF (λh=>?_) (λh=>?_);rw[ag (show 1000<p.message.length by have :(p.message.length:Int)>1000:=h;omega)]at hE;rw[hE];exact rfl;rw[af (show¬1000<p.message.length by have :¬(p.message.length:Int)>1000:=h;omega)]at hE;refine⟨none,?_⟩;refine aF (λh=>?_) (λh=>aF (λh2=>?_) (λh2=>?_));rw[ag (show p.time<0\/1099511627776<p.time from .inl h)]at hE;rw[hE];exact rfl;rw[ag (show p.time<0\/1099511627776<p.time from .inr h2)]at hE;rw[hE];exact rfl;rw[af (show¬(p.time<0\/1099511627776<p.time)fromλg=>g.elim h h2)]at hE;refine cl (adH p.deps hz.deps) ?_;refine cu (λh=>?_) (λh=>?_);rw[ag h]at hE;rw[hE];exact rfl;rw[af λg=>g h]at hE;refine aB (λh=>?_) (λh=>?_);have h:(((Ah p.changes).length:Nat):Int)=0:=h;rw[ag (show p.changes.length=0 by omega)]at hE;rw[hE];exact rfl;have h:¬(((Ah p.changes).length:Nat):Int)=0:=h;rw[af (show¬p.changes.length=0 by omega)]at hE;refine aF (λh4=>?_) (λh4=>?_);have h4:(((Ah p.changes).length:Nat):Int)>400:=h4;rw[ag (show 400<p.changes.length by omega)]at hE;rw[hE];exact rfl;have h4:¬(((Ah p.changes).length:Nat):Int)>400:=h4;rw[af (show¬400<p.changes.length by omega)]at hE;refine cl (adI p.changes oO hz.each) ?_;rw[hE];exact rfl
theorem IF:∀(l:List dn)(own:List cq),(iF l own).2=0->∀c,c∈l->cO c=0
 |[],_,_=>λc h=>by cases h
 |c::l,own,h=>by rw[jM]at h;by_cases h1:cO c≠0;rw[ag h1]at h;exact absurd h h1;rw[af h1]at h;by_cases h2:me c own≠0;rw[ag h2]at h;exact absurd h h2;rw[af h2]at h;intro x hx;rcases aK.1 hx with rfl|hx;simpa using h1;exact IF l _ h x hx
structure SK (p:gr):Prop where
 name:iz p.fq=true
 message:p.message.length<=1000
 time:0<=p.time/\p.time<=1099511627776
 deps:mY p.deps=0
 changes:1<=p.changes.length/\p.changes.length<=400
 each:∀c,c∈p.changes->cO c=0
 all:dM p=iF p.changes []
theorem uQ {p:gr}(h:(dM p).2=0):SK p:=by
 have hE:dM p=dM p:=rfl;conv at hE=>rhs;unfold dM
 rw[hE]at h;by_cases h1:iz p.fq=false;rw[ag h1]at h;exact absurd h dD;rw[af h1]at h hE;by_cases h2:1000<p.message.length;rw[ag h2]at h;exact absurd h dD;rw[af h2]at h hE;by_cases h3:p.time<0\/1099511627776<p.time;rw[ag h3]at h;exact absurd h dD;rw[af h3]at h hE;by_cases h4:mY p.deps≠0;rw[ag h4]at h;exact absurd h h4;rw[af h4]at h hE;by_cases h5:p.changes.length=0;rw[ag h5]at h;exact absurd h dD;rw[af h5]at h hE;by_cases h6:400<p.changes.length;rw[ag h6]at h;exact absurd h dD;rw[af h6]at h hE;exact⟨by simpa using h1,oO,oO,by simpa using h4,oO,IF _ _ h,hE⟩
theorem qW {c:dn}(h:bB (eC c)=true)(h1:1<=c.kind)(h7:c.kind<=7):(c.kind=5->c.over=[])/\(c.kind≠5->c.lines=[]):=by simp only[bB,br,decide_eq_true_eq]at h;obtain⟨-,-,-,-,-,-,-,-,hl,ho⟩:=h;refine⟨λe=>?_,λe=>?_⟩;rw[Nh c e]at ho;exact ho;by_cases e1:c.kind=1;rw[BE c e1]at hl;exact hl;by_cases e2:c.kind=2;rw[Nf c e2]at hl;exact hl;by_cases e3:c.kind=3;rw[Ng c e3]at hl;exact hl;by_cases e4:c.kind=4;rw[IC c e4]at hl;exact hl;by_cases e6:c.kind=6;rw[Ni c e6]at hl;exact hl;rw[EL c oO]at hl;exact hl
def oP (p:gr):Bytes×Int:=if(dM p).2≠0 then([],(dM p).2)else if(eX (kD p)).length<=65536 then(eX (kD p),0)else([],4)
def ah7 (x:Bytes×Int):AV:=.eW [.str x.1,.int .i64 x.2]
theorem Lj (p:gr)(hz:RC p)(hx:SK p->ZT (kD p)):aq C 80 [.agg (cP p)] (λr=>r=.val (ah7 (oP p))):=by
 refine ai Tryz.func80 rfl rfl rfl ?_;refine cl (Qd p hz) ?_;unfold oP;refine cu (λh=>?_) (λh=>?_);rw[ag h];exact rfl;have h:(dM p).2=0:=h;rw[af λg=>g h];have ho:=uQ h;have hd:p.deps.length<=2^40:=by have :=ho.deps;unfold mY at this;by_cases g:100<p.deps.length;rw[ag g]at this;exact absurd this dD;omega
 refine⟨_,adE p (hx ho) hd (by have :=ho.changes;omega) (λc hc=>?_),λr hr=>?_⟩;obtain⟨g1,g2,g3,g4,g5,-⟩:=fu (ho.each c hc);obtain⟨k1,k2⟩:=qW g5 g1 g2;refine⟨g1,g2,?_,?_⟩;by_cases h5:c.kind=5;have :=(g3 h5).1;omega;rw[k2 h5];exact zL;by_cases h5:c.kind=5;rw[k1 h5];exact zL;have :=g4 h5;omega;subst hr;unfold adD;by_cases hl:(eX (kD p)).length<=65536;rw[ag hl,ag hl];exact rfl;rw[af hl,af hl];exact rfl
def lV (p:gr):Dg×Int:=if(oP p).2≠0 then(aV,(oP p).2)else(PT (oP p).1,0)
def idR (x:Dg×Int):AV:=.eW [.agg (cD x.1),.int .i64 x.2]
theorem aas (p:gr):(oP p).1.length<=65536:=by unfold oP;by_cases h:(dM p).2≠0;rw[ag h];exact zL;rw[af h];by_cases h2:(eX (kD p)).length<=65536;rw[ag h2];exact h2;rw[af h2];exact zL
theorem aat (p:gr)(hz:RC p)(hx:SK p->ZT (kD p)):aq C 30 [.agg (cP p)] (λr=>r=.val (idR (lV p))):=by have hlen:=aas p;refine ai Tryz.func30 rfl rfl rfl ?_;refine cl (Lj p hz hx) ?_;unfold lV;refine cu (λh=>?_) (λh=>?_);rw[ag h];exact rfl;rw[af λg=>g h];refine cl (adh (oP p).1 oO) ?_;exact rfl
theorem WB (p:gr)(hz:RC p)(hx:SK p->ZT (kD p)):aq C 126 [.agg (cP p)] (λr=>r=.val (.int .i64 (oP p).2)):=by refine ai Tryz.func126 rfl rfl rfl ?_;refine cl (Lj p hz hx) ?_;exact rfl
theorem lJ {l:List Dg}:∀zs,zs∈l.map cD->zs.length=32:=by intro zs h;obtain⟨x,-,rfl⟩:=aC.1 h;rfl
def pq:List Dg->Dg->List Dg|[],x=>[x]|y::l,x=>if ee y x<0 then y::pq l x else if y=x then y::l else x::y::l
theorem IG:∀(a b:List Dg)(x:Dg),(∀y,y∈a->ee y x<0)->pq (a++b) x=a++pq b x|[],b,x,_=>rfl|y::a,b,x,h=>by rw[dm,pq,ag (h y (by simp)),IG a b x λz hz=>h z (by simp[hz])];rfl
theorem adJ {l:List Dg}{k:Nat}{x:Dg}(hk:k<l.length)(h:∀y,y∈l.take k->ee y x<0)(h2:¬ee l[k] x<0):pq l x=if l[k]=x then l else l.take k++[x]++l.drop k:=by
 have e:l=l.take k++(l[k]::l.drop (k+1)):=by rw[<-bZ hk,dI]
 have e2:l.drop k=l[k]::l.drop (k+1):=bZ hk;rw[e2];generalize l[k]=y at*;rw[show pq l x=pq (l.take k++(y::l.drop (k+1))) x from by rw[<-e],IG _ _ _ h,pq,af h2];by_cases hy:y=x;rw[ag hy,ag hy];exact e.symm;rw[af hy,af hy];simp
theorem aau {l:List Dg}{x:Dg}(h:∀y,y∈l->ee y x<0):pq l x=l++[x]:=by have :=IG l [] x h;rw[aW]at this;exact this
theorem Km {l:List Dg}{k:Nat}{x:Dg}(hk:k<l.length)(h:∀y,y∈l.take k->ee y x<0)(h2:ee l[k] x<0):∀y,y∈l.take (k+1)->ee y x<0:=by intro y hy;rw[<-gb hk,aZ,aP]at hy;rcases hy with hy|rfl;exact h y hy;exact h2
theorem Qe (l:List Dg)(x:Dg)(hl:l.length<=2^20):aq C 127 [.sl (jW l),.agg (cD x)] (λr=>r=.val (.sl (jW (pq l x)))):=by
 unfold jW;refine ai Tryz.func127 rfl rfl rfl ?_;refine bJ 49 (λk:Nat=>[(0,.p (.sl (l.map cD))),(3,.ptr 3 0),(5,.p (.int .i64 k))]) (λ_=>[(3,aG (cD x))]) (λk=>k<=l.length/\∀y,y∈l.take k->ee y x<0) (λk=>l.length-k) 0 ⟨zL,by simp⟩ rfl wS oS ?_;rintro k ⟨hk,hn⟩;refine bW 10 kK ?_;refine cg (λhlt=>?_) (λhge=>?_);refine ix hlt ?_;refine cl (rT l[k] x) ?_;refine aF (λh=>?_) (λh=>?_);exact nx (k+1) (aQ (k+1) ⟨hlt,Km hlt hn h⟩ oO rfl wS oS);have hI:=adJ hlt hn h;refine bW 10 kK ?_;refine cg (λhlt=>?_) (λhge=>absurd hlt hge);refine ix hlt ?_;refine⟨qC,bY,lC,rfl,rfl,?_⟩;refine By (a:=l[k]) (b:=x) ?_;by_cases hx:l[k]=x;rw[an hx];rw[ag hx]at hI;rw[hI];exact rfl;rw[ak hx];rw[af hx]at hI;rw[hI];refine⟨k,rfl,zL,by rw[ah];exact hk,lJ,(l.take k).map cD,by simp[mz],?_⟩;refine⟨(λzs h=>nomatch h),lJ,by show(0+((l.take k).map cD).length)*32<=_;rw[ah,aL];omega,(l.take k).map cD,rfl,?_⟩;refine⟨lJ,lJ (l:=[x]),by show(((l.take k).map cD).length+1)*32<=_;rw[ah,aL];omega,(l.take k++[x]).map cD,by rw[aD];rfl,?_⟩;refine⟨k,rfl,by rw[ah];exact hk,aA _,lJ,(l.drop k).map cD,by rw[cU (aA _),qh],?_⟩;refine⟨lJ,lJ,by show(((l.take k++[x]).map cD).length+((l.drop k).map cD).length)*32<=_;simp only[ah,ay,aL,cQ,aR,bn];omega,(l.take k++[x]++l.drop k).map cD,by rw[<-aD],?_⟩;exact .inr rfl;have hkl:k=l.length:=oO
 have hI:pq l x=l.take k++[x]++l.drop k:=by rw[cU oO]at hn⊢;rw[cV oO,aW];exact aau hn
 refine bW 10 kK ?_;refine cg (λhlt=>absurd hlt hge) (λhge=>?_);rw[hI];refine⟨k,rfl,zL,by rw[ah];exact hk,lJ,(l.take k).map cD,by simp[mz],?_⟩;refine⟨(λzs h=>nomatch h),lJ,by show(0+((l.take k).map cD).length)*32<=_;rw[ah,aL];omega,(l.take k).map cD,rfl,?_⟩;refine⟨lJ,lJ (l:=[x]),by show(((l.take k).map cD).length+1)*32<=_;rw[ah,aL];omega,(l.take k++[x]).map cD,by rw[aD];rfl,?_⟩;refine⟨k,rfl,by rw[ah];exact hk,aA _,lJ,(l.drop k).map cD,by rw[cU (aA _),qh],?_⟩;refine⟨lJ,lJ,by show(((l.take k++[x]).map cD).length+((l.drop k).map cD).length)*32<=_;simp only[ah,ay,aL,cQ,aR,bn];omega,(l.take k++[x]++l.drop k).map cD,by rw[<-aD],?_⟩;exact .inr rfl
def bl (x:bV)(d:Dg):bV:=if x.p=aV/\0<=x.n then⟨d,x.n⟩else x
theorem zj (x:bV)(d:Dg):aq C 130 [.agg (cI x),.agg (cD d)] (λr=>r=.val (.agg (cI (bl x d)))):=by refine ai Tryz.func130 rfl rfl rfl ?_;refine⟨none,?_⟩;refine cl (wT x.p) ?_;unfold bl;by_cases h:x.p=aV;rw[an h];refine aF (λh2=>?_) (λh2=>?_);rw[ag ⟨h,h2⟩];exact rfl;rw[af λg=>h2 g.2];exact rfl;rw[ak h,af λg=>h g.1];exact rfl
def st1 (d:Dg)(a:cq):cq:={a with id:=⟨d,a.id.n⟩}
def st2 (d:Dg)(a:cq):cq:=if a.kind≠7 then{a with file:=bl a.file d}else a
def II (d:Dg)(a:cq):cq:=if a.kind=2 then{a with parent:=bl a.parent d}else a
def IJ (d:Dg)(a:cq):cq:=if a.kind=6 then{a with fr:=bl a.fr d,to:=bl a.to d}else a
def JO (d:Dg)(l:List bV):List bV:=(l.map λx=>bl x d).foldl qU []
def UF (d:Dg)(a:cq):cq:={a with over:=JO d a.over}
def fO (d:Dg)(a:cq):cq:=UF d (IJ d (II d (st2 d (st1 d a))))
theorem IK (d:Dg)(a:cq):(st2 d a).over=a.over:=by unfold st2;split<;>rfl
theorem IL (d:Dg)(a:cq):(II d a).over=a.over:=by unfold II;split<;>rfl
theorem IM (d:Dg)(a:cq):(IJ d a).over=a.over:=by unfold IJ;split<;>rfl
theorem aav (l:List bV)(x:bV):(qU l x).length<=l.length+1:=by
 induction l with
 |nil=>simp[qU]
 |cons y l ih=>unfold qU;split;simp only[aR];omega;split<;>simp
theorem zk:∀(l acc:List bV),(l.foldl qU acc).length<=acc.length+l.length
 |[],acc=>by simp
 |x::l,acc=>by have h1:=zk l (qU acc x);have h2:=aav acc x;simp only[fI,aR];omega
theorem UG (d:Dg)(l:List bV):(JO d l).length<=l.length:=by have :=zk (l.map λx=>bl x d) [];simpa[JO]using this
theorem aaw (d:Dg){l:List bV}{k:Nat}(h:k<l.length):JO d (l.take (k+1))=qU (JO d (l.take k)) (bl l[k] d):=by unfold JO;rw[cm h,oq];rfl
def lK (p:gr):List cq×Int:=if(lV p).2≠0 then([],(lV p).2)else((dM p).1.map (fO (lV p).1),0)
theorem aax (p:gr)(hz:RC p)(hx:SK p->ZT (kD p))(hL:(dM p).1.length<=2^30)(hO:∀a,a∈(dM p).1->a.over.length<=2^20):aq C 54 [.agg (cP p)] (λr=>r=.val (UE (lK p))):=by
 refine ej [13,15,17] Tryz.func54 rfl rfl rfl ?_;refine cl (aat p hz hx).cut ?_;unfold lK;generalize lV p=i;refine cu (λh=>?_) (λh=>?_);rw[ag h];exact rfl;rw[af λg=>g h];refine cl (Qd p hz).cut ?_;generalize dM p=X at hL hO⊢;obtain⟨L,e0⟩:=X;obtain⟨d,e1⟩:=i;have hL:L.length<=2^30:=hL;have hO:∀a,a∈L->a.over.length<=2^20:=hO;show _;refine bJ 94 (λk:Nat=>[(4,.ptr 4 0),(6,.p (.sl (L.map cA))),(8,.fM 27 109 172 (((L.take k).map (fO d)).map cA)),(9,.p (.int .i64 k))]) (λ_=>[(4,aG (cD d))]) (λk=>k<=L.length) (λk=>L.length-k) 0 (zL) rfl wS oS ?_;intro k hk;refine cg (l:=L) (f:=cA) (λhlt=>?_) (λhge=>?_);rotate_left;obtain rfl:k=L.length:=oO
 rw[aU];exact rfl;obtain⟨a,hq⟩:∃a,L[k]=a:=⟨_,rfl⟩;have ho:a.over.length<=2^20:=by rw[<-hq];exact hO _ (aO _)
 have jD:(L.map cA)[((k:Nat):Int).toNat]?=some (cA a):=by rw[<-hq];exact dL rfl hlt
 have alU:(fO d a).over=JO d a.over:=by unfold fO UF;show JO d (IJ d (II d (st2 d (st1 d a)))).over=_;rw[IM,IL,IK];rfl
 refine⟨oO,_,jD,rfl,?_⟩;have hfull:fO d a=UF d (IJ d (II d (st2 d {a with id:=⟨d,a.id.n⟩}))):=rfl;have Du:({a with id:=⟨d,a.id.n⟩}:cq).over=a.over:=rfl;refine share (T:=?T2) (λH2=>?m2) ?r2;case m2=>refine cu (λh7=>?_) (λh7=>?_);refine cl (zj a.file d).cut ?_;have e2:st2 d {a with id:=⟨d,a.id.n⟩}={a with id:=⟨d,a.id.n⟩,file:=bl a.file d}:=ag h7;have Og:=hfull;rw[e2]at Og;refine dc 94 [(4,.ptr 4 0),(6,.p (.sl (L.map cA))),(8,.fM 27 109 172 (((L.take k).map (fO d)).map cA)),(9,.p (.int .i64 (k:Int))),(10,.ptr 10 0)] [(4,aG (cD d)),(10,aG (cA ({a with id:=⟨d,a.id.n⟩,file:=bl a.file d})))] rfl wS oS ?_;have Kn:({a with id:=⟨d,a.id.n⟩,file:=bl a.file d}:cq).over=a.over:=Du;generalize hb:({a with id:=⟨d,a.id.n⟩,file:=bl a.file d}:cq)=a2 at Og Kn⊢;clear hb;revert a2;exact H2.out;have e2:st2 d {a with id:=⟨d,a.id.n⟩}={a with id:=⟨d,a.id.n⟩}:=af (λg=>g h7);have Og:=hfull;rw[e2]at Og;refine dc 94 [(4,.ptr 4 0),(6,.p (.sl (L.map cA))),(8,.fM 27 109 172 (((L.take k).map (fO d)).map cA)),(9,.p (.int .i64 (k:Int))),(10,.ptr 10 0)] [(4,aG (cD d)),(10,aG (cA ({a with id:=⟨d,a.id.n⟩})))] rfl wS oS ?_;have Kn:({a with id:=⟨d,a.id.n⟩}:cq).over=a.over:=Du;generalize hb:({a with id:=⟨d,a.id.n⟩}:cq)=a2 at Og Kn⊢;clear hb;revert a2;exact H2.out
 case r2=>
  intro a2 hfull Du;refine share (T:=?T3) (λH3=>?m3) ?r3;case m3=>refine aB (λh7=>?_) (λh7=>?_);refine cl (zj a2.parent d).cut ?_;have e2:II d a2={a2 with parent:=bl a2.parent d}:=ag h7;have Og:=hfull;rw[e2]at Og;refine dc 94 [(4,.ptr 4 0),(6,.p (.sl (L.map cA))),(8,.fM 27 109 172 (((L.take k).map (fO d)).map cA)),(9,.p (.int .i64 (k:Int))),(10,.ptr 10 0)] [(4,aG (cD d)),(10,aG (cA ({a2 with parent:=bl a2.parent d})))] rfl wS oS ?_;have Kn:({a2 with parent:=bl a2.parent d}:cq).over=a.over:=Du;generalize hb:({a2 with parent:=bl a2.parent d}:cq)=a3 at Og Kn⊢;clear hb;revert a3;exact H3.out;have e2:II d a2=a2:=af h7;have Og:=hfull;rw[e2]at Og;refine dc 94 [(4,.ptr 4 0),(6,.p (.sl (L.map cA))),(8,.fM 27 109 172 (((L.take k).map (fO d)).map cA)),(9,.p (.int .i64 (k:Int))),(10,.ptr 10 0)] [(4,aG (cD d)),(10,aG (cA (a2)))] rfl wS oS ?_;have Kn:(a2:cq).over=a.over:=Du;generalize hb:(a2:cq)=a3 at Og Kn⊢;clear hb;revert a3;exact H3.out
  case r3=>
   intro a3 hfull Du;refine share (T:=?T4) (λH4=>?m4) ?r4;case m4=>refine aB (λh7=>?_) (λh7=>?_);refine bW 9 kK ?_;refine⟨_,(zj a3.fr d).cut,?_⟩;refine⟨_,(zj a3.to d).cut,?_⟩;have e2:IJ d a3={a3 with fr:=bl a3.fr d,to:=bl a3.to d}:=ag h7;have Og:=hfull;rw[e2]at Og;refine dc 94 [(4,.ptr 4 0),(6,.p (.sl (L.map cA))),(8,.fM 27 109 172 (((L.take k).map (fO d)).map cA)),(9,.p (.int .i64 (k:Int))),(10,.ptr 10 0)] [(4,aG (cD d)),(10,aG (cA ({a3 with fr:=bl a3.fr d,to:=bl a3.to d})))] rfl wS oS ?_;have Kn:({a3 with fr:=bl a3.fr d,to:=bl a3.to d}:cq).over=a.over:=Du;generalize hb:({a3 with fr:=bl a3.fr d,to:=bl a3.to d}:cq)=a4 at Og Kn⊢;clear hb;revert a4;exact H4.out;have e2:IJ d a3=a3:=af h7;have Og:=hfull;rw[e2]at Og;refine dc 94 [(4,.ptr 4 0),(6,.p (.sl (L.map cA))),(8,.fM 27 109 172 (((L.take k).map (fO d)).map cA)),(9,.p (.int .i64 (k:Int))),(10,.ptr 10 0)] [(4,aG (cD d)),(10,aG (cA (a3)))] rfl wS oS ?_;have Kn:(a3:cq).over=a.over:=Du;generalize hb:(a3:cq)=a4 at Og Kn⊢;clear hb;revert a4;exact H4.out
   case r4=>
    intro a4 hfull Du;refine bJ 94 (λj:Nat=>[(4,.ptr 4 0),(6,.p (.sl (L.map cA))),(8,.fM 27 109 172 (((L.take k).map (fO d)).map cA)),(9,.p (.int .i64 (k:Int))),(10,.ptr 10 0),(11,.p (.sl (oF (JO d (a4.over.take j))))),(12,.p (.int .i64 (j:Int)))]) (λ_=>[(4,aG (cD d)),(10,aG (cA a4))]) (λj=>j<=a4.over.length) (λj=>a4.over.length-j) 0 (zL) rfl ⟨bh.refl _,bh.refl _,bh.refl _,bh.refl _,bh.refl _,bh.PJ _ _ _ _,bh.refl _,trivial⟩ oS ?_;intro j hj;have WA:a4.over.length<=2^20:=by rw[Du];exact ho
    refine cg (l:=a4.over) (f:=cI) (λef=>?_) (λsq=>?_);have hsn:=aaw d ef;have hln:(JO d (a4.over.take j)).length<=2^20:=by have :=UG d (a4.over.take j);rw[aL]at this;omega
    refine bW 8 kK ?_;refine ix ef ?_;refine⟨_,(zj a4.over[j] d).cut,?_⟩;refine⟨_,(adq (JO d (a4.over.take j)) (bl a4.over[j] d) hln).cut,λr hr=>?_⟩;rw[<-hsn]at hr;subst hr;exact nx (j+1) (aQ (j+1) ef oO rfl wS oS);obtain rfl:j=a4.over.length:=oO
    rw[aU];refine⟨iE,iE (l:=[UF d a4]),by show((((L.take k).map (fO d)).map cA).length+1)*296<=_;rw[ah,ah,aL];omega,((L.take (k+1)).map (fO d)).map cA,by rw[cm hlt,hq,hfull,<-SI];rfl,?_⟩;exact nx (k+1) (aQ (k+1) hlt oO rfl wS oS)
def xb (out:List Dg)(x:bV):List Dg:=if x.p=aV then out else pq out x.p
def refsOf (c:dn):List bV:=[c.file,c.parent,c.cS,c.cZ]++c.over
def bI (p:gr):List Dg:=if(oP p).2≠0 then[]else(p.changes.flatMap refsOf).foldl xb (p.deps.foldl pq [])
theorem Qf (l:List Dg)(x:Dg):(pq l x).length<=l.length+1:=by
 induction l with
 |nil=>simp[pq]
 |cons y l ih=>unfold pq;split;simp only[aR];omega;split<;>simp
theorem qn:∀(l acc:List Dg),(l.foldl pq acc).length<=acc.length+l.length
 |[],acc=>by simp
 |x::l,acc=>by have h1:=qn l (pq acc x);have h2:=Qf acc x;simp only[fI,aR];omega
theorem aay (l:List Dg)(x:bV):(xb l x).length<=l.length+1:=by unfold xb;split;omega;exact Qf l x.p
theorem qp:∀(l:List bV)(acc:List Dg),(l.foldl xb acc).length<=acc.length+l.length
 |[],acc=>by simp
 |x::l,acc=>by have h1:=qp l (xb acc x);have h2:=aay acc x;simp only[fI,aR];omega
theorem xV {α β:Type}{f:β->α->β}{l:List α}{k:Nat}(h:k<l.length)(acc:β):(l.take (k+1)).foldl f acc=f ((l.take k).foldl f acc) l[k]:=by rw[<-gb h,oq];rfl
theorem zl {α β:Type}{f:α->List β}{l:List α}{k:Nat}(h:k<l.length):(l.take (k+1)).flatMap f=(l.take k).flatMap f++f l[k]:=by rw[<-gb h,kC];simp
theorem Nl {p:gr}(h:(oP p).2=0):SK p/\oP p=(eX (kD p),0):=by unfold oP at h⊢;by_cases h1:(dM p).2≠0;rw[ag h1]at h;exact absurd h h1;rw[af h1]at h⊢;refine⟨uQ (by simpa using h1),?_⟩;by_cases h2:(eX (kD p)).length<=65536;rw[ag h2];rw[af h2]at h;exact absurd h dD
theorem zm {p:gr}(h:SK p):p.deps.length<=100:=by have :=h.deps;unfold mY at this;by_cases g:100<p.deps.length;rw[ag g]at this;exact absurd this dD;omega
theorem IN {p:gr}(h:SK p){c:dn}(hc:c∈p.changes):c.over.length<=400:=by obtain⟨g1,g2,-,g4,g5,-⟩:=fu (h.each c hc);by_cases e:c.kind=5;rw[(qW g5 g1 g2).1 e];exact zL;exact g4 e
theorem IP {p:gr}(h:SK p){c:dn}(hc:c∈p.changes):(refsOf c).length<=404:=by have :=IN h hc;simp only[refsOf,ay,aR,bn];omega
theorem IQ {p:gr}(h:SK p):∀k,k<=p.changes.length->((p.changes.take k).flatMap refsOf).length<=404*k|0,_=>aA _|k+1,hk=>by rw[zl hk,ay];have h1:=IQ h k oO;have h2:=IP h (aO hk);omega
theorem Qg (p:gr)(hz:RC p)(hx:SK p->ZT (kD p)):aq C 53 [.agg (cP p)] (λr=>r=.val (.sl (jW (bI p)))):=by
 refine ai Tryz.func53 rfl rfl rfl ?_;refine cl (WB p hz hx) ?_;unfold bI;refine cu (λh=>?_) (λh=>?_);rw[ag h];exact .inr rfl;have h:(oP p).2=0:=h;rw[af λg=>g h];have ho:=(Nl h).1;have hdl:=zm ho;have lU:=ho.changes.2;refine bJ 73 (λk:Nat=>[(1,.ptr 1 0),(3,.p (.sl (jW ((p.deps.take k).foldl pq [])))),(4,.p (.int .i64 (k:Int)))]) (λ_=>[(1,aG (cP p))]) (λk=>k<=p.deps.length) (λk=>p.deps.length-k) 0 (zL) rfl ⟨bh.refl _,bh.PJ _ _ _ _,bh.refl _,trivial⟩ oS ?_;intro k hk;refine cg (l:=p.deps) (f:=cD) (λhlt=>?_) (λhge=>?_);have hb:((p.deps.take k).foldl pq []).length<=2^20:=by have :=qn (p.deps.take k) [];rw[aL]at this;simp only[bn]at this;omega
 refine ix hlt ?_;refine⟨_,Qe _ p.deps[k] hb,λr hr=>?_⟩;rw[<-xV (f:=pq) hlt []]at hr;subst hr;exact nx (k+1) (aQ (k+1) hlt oO rfl wS oS);obtain rfl:k=p.deps.length:=oO
 rw[aU];have hbase:=qn p.deps [];simp only[bn]at hbase;generalize p.deps.foldl pq []=base at hbase⊢;refine bJ 73 (λk:Nat=>[(1,.ptr 1 0),(3,.p (.sl (jW (((p.changes.take k).flatMap refsOf).foldl xb base)))),(5,.p (.int .i64 (k:Int)))]) (λ_=>[(1,aG (cP p))]) (λk=>k<=p.changes.length) (λk=>p.changes.length-k) 0 (zL) rfl wS oS ?_;intro k hk2;refine cg (l:=p.changes) (f:=cC) (λhlt=>?_) (λhge=>?_);rotate_left;obtain rfl:k=p.changes.length:=oO
 rw[aU];exact rfl;have hm:=aO hlt;have Du:=IN ho hm;have hfl:=IQ ho k oO;have hrl:=IP ho hm;have hout:=qp ((p.changes.take k).flatMap refsOf) base;have hnext:((p.changes.take (k+1)).flatMap refsOf).foldl xb base=(refsOf p.changes[k]).foldl xb (((p.changes.take k).flatMap refsOf).foldl xb base):=by rw[zl hlt,oq]
 refine ix hlt ?_;generalize hc:p.changes[k]=c at*;generalize((p.changes.take k).flatMap refsOf).foldl xb base=out at*;refine⟨mU (l:=[c.file,c.parent,c.cS,c.cZ]),mU,by show(4+(c.over.map cI).length)*40<=_;rw[ah];omega,(refsOf c).map cI,rfl,?_⟩;refine bJ 73 (λj:Nat=>[(1,.ptr 1 0),(3,.p (.sl (jW (((refsOf c).take j).foldl xb out)))),(5,.p (.int .i64 (k:Int))),(7,.fM 48 54 33 ((refsOf c).map cI)),(8,.p (.int .i64 (j:Int)))]) (λ_=>[(1,aG (cP p))]) (λj=>j<=(refsOf c).length) (λj=>(refsOf c).length-j) 0 (zL) rfl wS oS ?_;intro j hj;refine cg (l:=refsOf c) (f:=cI) (λef=>?_) (λsq=>?_);have WA:=qp ((refsOf c).take j) out;rw[aL]at WA;have hs:=xV (f:=xb) ef out;refine ix ef ?_;refine cl (wT (refsOf c)[j].p) ?_;refine bH ?_;by_cases hz0:(refsOf c)[j].p=aV;rw[an hz0];rw[xb,ag hz0]at hs;exact nx (j+1) (aQ (j+1) ef oO rfl ⟨bh.refl _,bh.eq (by rw[hs];rfl),bh.refl _,bh.refl _,bh.refl _,trivial⟩ oS);rw[ak hz0];rw[xb,af hz0]at hs;refine ix ef ?_;refine⟨_,Qe _ (refsOf c)[j].p oO,λr hr=>?_⟩;rw[<-hs]at hr;subst hr;exact nx (j+1) (aQ (j+1) ef oO rfl wS oS);obtain rfl:j=(refsOf c).length:=oO
 rw[aU];exact nx (k+1) (aQ (k+1) hlt oO rfl ⟨bh.refl _,bh.eq (by rw[hnext];rfl),bh.refl _,trivial⟩ oS)
theorem SL {c:dn}(h:cO c=0)(f:Nat):∀a,a∈dw c f->a.over.length<=400:=by
 obtain⟨g1,g2,-,g4,g5,-⟩:=fu h;have Du:c.over.length<=400:=by by_cases e:c.kind=5;rw[(qW g5 g1 g2).1 e];exact zL;exact g4 e
 intro a ha;unfold dw at ha;by_cases e:c.kind=5;rw[ag e]at ha;rcases aZ.1 ha with ha|ha;obtain⟨i,-,rfl⟩:=aC.1 ha;exact zL;obtain⟨i,-,rfl⟩:=aC.1 ha;exact zL;rw[af e]at ha;obtain rfl:=aP.1 ha;unfold kG;repeat' split
 all_goals first|exact Du|exact zL
theorem zo:∀(l:List dn)(own:List cq),(∀a,a∈own->a.over.length<=400)->(iF l own).1.length<=own.length+4001*l.length/\∀a,a∈(iF l own).1->a.over.length<=400
 |[],own,h=>⟨aA _,h⟩
 |c::l,own,h=>by
  rw[jM];by_cases h1:cO c≠0;rw[ag h1];exact⟨zL,λa ha=>by cases ha⟩;rw[af h1];by_cases h2:me c own≠0;rw[ag h2];exact⟨zL,λa ha=>by cases ha⟩;rw[af h2];have h1:cO c=0:=by simpa using h1
  obtain⟨g1,g2⟩:=zo l (own++dw c own.length) λa ha=>by rcases aZ.1 ha with ha|ha;exact h a ha;exact SL h1 _ a ha
  refine⟨?_,g2⟩;have :=zi h1 own.length;simp only[ay,aR]at g1⊢;omega
theorem Ll:∀(l:List dn)(own:List cq),(iF l own).2≠0->(iF l own).1=[]|[],own,h=>absurd rfl h|c::l,own,h=>by rw[jM]at h⊢;by_cases h1:cO c≠0;rw[ag h1];rw[af h1]at h⊢;by_cases h2:me c own≠0;rw[ag h2];rw[af h2]at h⊢;exact Ll l _ h
theorem SM {p:gr}(h:(dM p).2≠0):(dM p).1=[]:=by unfold dM at h⊢;by_cases h1:iz p.fq=false;rw[ag h1];rw[af h1]at h⊢;by_cases h2:1000<p.message.length;rw[ag h2];rw[af h2]at h⊢;by_cases h3:p.time<0\/1099511627776<p.time;rw[ag h3];rw[af h3]at h⊢;by_cases h4:mY p.deps≠0;rw[ag h4];rw[af h4]at h⊢;by_cases h5:p.changes.length=0;rw[ag h5];rw[af h5]at h⊢;by_cases h6:400<p.changes.length;rw[ag h6];rw[af h6]at h⊢;exact Ll _ _ h
theorem qq (p:gr):(dM p).1.length<=2^22/\∀a,a∈(dM p).1->a.over.length<=400:=by
 by_cases h:(dM p).2=0;have ho:=uQ h;rw[ho.all];obtain⟨g1,g2⟩:=zo p.changes [] λa ha=>by cases ha
 refine⟨?_,g2⟩;have :=ho.changes.2;simp only[bn]at g1;omega;have :(dM p).1=[]:=SM h;rw[this];exact⟨zL,λa ha=>by cases ha⟩
structure IS (p:gr):Prop where
 sz:RC p
 enc:SK p->ZT (kD p)
theorem WC (p:gr)(h:IS p):aq C 54 [.agg (cP p)] (λr=>r=.val (UE (lK p))):=aax p h.sz h.enc (by have :=(qq p).1;omega) λa ha=>by have :=(qq p).2 a ha;omega
structure Nn (s:List cL):Prop where
 len:s.length<=2^47
 each:∀x,x∈s->IS x.pat
def Lm:gr:=⟨[],[],0,[],[]⟩
theorem aaz:IS Lm:=⟨⟨zL,zL,zL,zL,λc h=>by cases h⟩,λh=>absurd h.name dD⟩
theorem aaA (l:List Dg)(x:Dg)(hl:l.length<=2^47):aq C 63 [.sl (jW l),.agg (cD x)] (λr=>r=.val (.bool (decide (x∈l)))):=by
 unfold jW;refine ai Tryz.func63 rfl rfl rfl ?_;refine bJ 18 (λk:Nat=>[(0,.p (.sl (l.map cD))),(3,.ptr 3 0),(5,.p (.int .i64 k))]) (λ_=>[(3,aG (cD x))]) (λk=>k<=l.length/\x∉l.take k) (λk=>l.length-k) 0 ⟨zL,by simp⟩ rfl wS oS ?_;rintro k ⟨hk,hn⟩;refine cg (λhlt=>?_) (λhge=>?_);refine bW 5 kK ?_;refine ix hlt ?_;refine⟨qC,bY,lC,rfl,rfl,?_⟩;refine By (a:=l[k]) (b:=x) ?_;by_cases h:l[k]=x;rw[an h];have :x∈l:=h▸aO hlt;show dx.val (.bool true)=_;simp[this];rw[ak h];exact nx (k+1) (aQ (k+1) ⟨hlt,wW hlt hn h⟩ oO rfl wS oS);have :x∉l:=by rw[cU oO]at hn;exact hn
 show dx.val (.bool false)=_;simp[this]
def nk:List cL->Dg->gr×Bool|[],_=>(Lm,false)|x::s,d=>if x.id=d then(x.pat,true)else nk s d
def akE (x:gr×Bool):AV:=.eW [.agg (cP x.1),.bool x.2]
theorem WD {s:List cL}{k:Nat}(h:k<s.length)(d:Dg):nk (s.drop k) d=if s[k].id=d then(s[k].pat,true)else nk (s.drop (k+1)) d:=by rw[bZ h];rfl
theorem Qh:∀{s:List cL}(h:∀x,x∈s->IS x.pat)(d:Dg),IS (nk s d).1|[],_,_=>aaz|x::s,h,d=>by unfold nk;split;exact h x (by simp);exact Qh (λy hy=>h y (by simp[hy])) d
theorem aaB (s:List cL)(d:Dg)(hl:s.length<=2^47):aq C 291 [.sl (eS s),.agg (cD d)] (λr=>r=.val (akE (nk s d))):=by unfold eS;refine ai Tryz.func291 rfl rfl rfl ?_;refine bJ 26 (λk:Nat=>[(0,.p (.sl (s.map fU))),(3,.ptr 3 0),(4,.ptr 4 0),(6,.p (.int .i64 k))]) (λ_=>[(3,aG (cD d)),(4,[.p (.str []),.p (.str []),.p (.int .i64 0),.full [],.full []])]) (λk=>k<=s.length/\nk s d=nk (s.drop k) d) (λk=>s.length-k) 0 ⟨zL,rfl⟩ rfl wS oS ?_;rintro k ⟨hk,hE⟩;refine cg (λhlt=>?_) (λhge=>?_);rw[WD hlt]at hE;refine bW 6 kK ?_;refine ix hlt ?_;refine⟨qC,bY,lC,rfl,rfl,?_⟩;refine By (a:=s[k].id) (b:=d) ?_;by_cases h:s[k].id=d;rw[an h];rw[ag h]at hE;refine ix hlt ?_;rw[hE];exact rfl;rw[ak h];rw[af h]at hE;exact nx (k+1) (aQ (k+1) ⟨hlt,hE⟩ oO rfl wS oS);rw[cV oO]at hE;rw[hE];exact rfl
def dN (s:List cL):List Dg:=s.map λx=>x.id
theorem agh (s:List cL)(hl:s.length<=2^40):aq C 100 [.sl (eS s)] (λr=>r=.val (.sl (jW (dN s)))):=by
 unfold eS jW dN;refine ai Tryz.func100 rfl rfl rfl ?_;refine bJ 21 (λk:Nat=>[(0,.p (.sl (s.map fU))),(3,.fM 5 33 32 (((s.take k).map λx=>x.id).map cD)),(4,.p (.int .i64 k))]) (λ_=>[]) (λk=>k<=s.length) (λk=>s.length-k) 0 (zL) rfl wS trivial ?_;intro k hk;refine cg (λhlt=>?_) (λhge=>?_);refine ix hlt ?_;refine⟨lJ,lJ (l:=[s[k].id]),by show((((s.take k).map λx=>x.id).map cD).length+1)*32<=_;rw[ah,ah,aL];omega,((s.take (k+1)).map λx=>x.id).map cD,by rw[cm hlt,aD];rfl,?_⟩;exact nx (k+1) (aQ (k+1) hlt oO rfl wS trivial);obtain rfl:k=s.length:=oO
 rw[aU];exact .inr rfl
def kH (l some:List Dg):Bool:=some.all λx=>decide (x∈l)
theorem aaC (l some:List Dg)(hl:l.length<=2^47)(hs:some.length<=2^47):aq C 101 [.sl (jW l),.sl (jW some)] (λr=>r=.val (.bool (kH l some))):=by
 refine ai Tryz.func101 rfl rfl rfl ?_;refine bJ 19 (λk:Nat=>[(0,.p (.sl (jW l))),(1,.p (.sl (some.map cD))),(5,.p (.int .i64 k))]) (λ_=>[]) (λk=>k<=some.length/\(some.take k).all (λx=>decide (x∈l))=true) (λk=>some.length-k) 0 ⟨zL,rfl⟩ rfl wS trivial ?_;rintro k ⟨hk,hall⟩;refine cg (λhlt=>?_) (λhge=>?_);refine ix hlt ?_;refine cl (aaA l some[k] hl) ?_;refine bH ?_;cases hv:decide (some[k]∈l)with
 |false=>have :some.all (λx=>decide (x∈l))=false:=Nj hlt hv;show dx.val _=_;rw[kH,this]
 |true=>exact nx (k+1) (aQ (k+1) ⟨hlt,rJ hlt hall hv⟩ oO rfl wS trivial)
 have :some.all (λx=>decide (x∈l))=true:=by rw[cU oO]at hall;exact hall
 show dx.val _=_;rw[kH,this]
theorem FO (x:bV)(d:Dg):aq C 248 [.agg (cI x),.agg (cD d)] (λr=>r=.val (.agg (cI (bl x d)))):=by refine ai Tryz.func248 rfl rfl rfl ?_;refine⟨none,?_⟩;unfold bl;refine aF (λh2=>?_) (λh2=>?_);refine⟨qC,bY,lC,rfl,rfl,?_⟩;refine By (a:=x.p) (b:=aV) ?_;by_cases h:x.p=aV;rw[an h,ag ⟨h,h2⟩];exact rfl;rw[ak h,af λg=>h g.1];exact rfl;rw[af λg=>h2 g.2];exact rfl
theorem Dv (x:bV):aq C 242 [.agg (cI x)] (λr=>r=.val (.bool (!decide (x.p=aV)))):=by refine ai Tryz.func242 rfl rfl rfl ?_;refine⟨qC,bY,lC,rfl,rfl,?_⟩;refine nE (a:=x.p) (b:=aV) ?_;exact rfl
theorem adK (x:cq):aq C 245 [.agg (cA x)] (λr=>r=.val (.bool (lq x))):=by refine ai Tryz.func245 rfl rfl rfl ?_;refine⟨none,?_⟩;refine aB (λh=>?_) (λh=>?_);refine aB (λh2=>?_) (λh2=>?_);have h:x.kind=1:=h;have h2:x.type=4:=h2;show dx.val (.bool true)=_;simp[lq,h,h2];have h2:¬x.type=4:=h2;show dx.val (.bool false)=_;simp[lq,h2];have h:¬x.kind=1:=h;show dx.val (.bool false)=_;simp[lq,h]
def gm (s:List cL)(x:bV):cq×Bool:=if x.n<0\/((lK (nk s x.p).1).1.length:Int)<=x.n then(iA,false)else((lK (nk s x.p).1).1.getD x.n.toNat iA,true)
def atR (x:cq×Bool):AV:=.eW [.agg (cA x.1),.bool x.2]
theorem SN (p:gr):(lK p).1.length<=2^22:=by unfold lK;by_cases h:(lV p).2≠0;rw[ag h];exact zL;rw[af h];show((dM p).1.map _).length<=_;rw[ah];exact(qq p).1
theorem Dw (s:List cL)(x:bV)(hs:Nn s):aq C 243 [.sl (eS s),.agg (cI x)] (λr=>r=.val (atR (gm s x))):=by
 have hfit:=Qh hs.each x.p;refine ai Tryz.func243 rfl rfl rfl ?_;refine cl (aaB s x.p hs.len) ?_;refine cl (WC _ hfit) ?_;unfold gm;have hlen:=SN (nk s x.p).1;generalize lK (nk s x.p).1=X at hlen⊢;obtain⟨L,e⟩:=X;have hlen:L.length<=2^22:=hlen;refine⟨none,?_⟩;refine aF (λh1=>?_) (λh1=>aF (λh2=>?_) (λh2=>?_));rw[ag (show x.n<0\/(L.length:Int)<=x.n from .inl h1)];exact rfl;have h2:x.n≥(((iu L).length:Nat):Int):=h2;simp only[iu,ah]at h2;rw[ag (show x.n<0\/(L.length:Int)<=x.n from .inr h2)];exact rfl;have h2:¬x.n≥(((iu L).length:Nat):Int):=h2;have h1:¬x.n<0:=h1;simp only[iu,ah]at h2;rw[af (show¬(x.n<0\/(L.length:Int)<=x.n)by omega)];obtain⟨n,hn⟩:=jo (show 0<=x.n by omega);have hlt:n<L.length:=oO
 have hg:L.getD x.n.toNat iA=L[n]:=by rw[hn];simp[List.getD,hlt]
 show _;refine⟨oO,_,by rw[hn];exact dL (l:=L) (f:=cA) rfl hlt,rfl,?_⟩;rw[hg];exact rfl
def No (s:List cL)(x file:bV)(d:Dg):Int:=if x.p=aV\/x=file then 0 else if(gm s x).2=false then 7 else if gj (bl file d) (gm s x).1=false then 8 else 0
theorem UH (s:List cL)(x file:bV)(d:Dg)(hs:Nn s):aq C 246 [.sl (eS s),.agg (cI x),.agg (cI file),.agg (cD d)] (λr=>r=.val (.int .i64 (No s x file d))):=by
 refine ej [3] Tryz.func246 rfl rfl rfl ?_;refine⟨none,?_⟩;refine cl (Dv x).cut ?_;unfold No;refine bH ?_;by_cases hz:x.p=aV;rw[ag (.inl hz),an hz];exact rfl;rw[ak hz];refine qT ?_;refine jC (a:=x) (b:=file) ?_;by_cases hf:x=file;rw[ag (.inr hf),an hf];exact rfl;rw[af (show¬(x.p=aV\/x=file)fromλg=>g.elim hz hf),ak hf];refine dc 33 [(0,.p (.sl (eS s))),(5,.ptr 5 0),(6,.ptr 6 0),(7,.ptr 7 0)] [(5,aG (cI x)),(6,aG (cI file)),(7,aG (cD d))] rfl wS oS ?_;refine cl (Dw s x hs).cut ?_;generalize gm s x=X;obtain⟨a,is⟩:=X;refine bH ?_;cases is with
 |false=>exact rfl
 |true=>
  rw[af (show¬true=false by decide)];refine bW 4 kK ?_;refine⟨_,(FO file d).cut,?_⟩;refine cl (IB (bl file d) a).cut ?_;refine bH ?_;cases hq:gj (bl file d) a with
  |false=>rw[ag rfl];exact rfl
  |true=>rw[af (show¬true=false by decide)];exact rfl
def WE (s:List cL)(c:dn)(d:Dg)(x:bV):Int:=if x.p=aV then 0 else if(gm s x).2=false then 7 else if dU c.kind (bl c.file d) (gm s x).1=false then 8 else 0
def RE (s:List cL)(c:dn)(d:Dg):Int:=bz ((if c.file.p=aV then 0 else if(gm s c.file).2=false then 7 else if bF c.kind (gm s c.file).1=false then 8 else 0)::(if c.parent.p=aV then 0 else if(gm s c.parent).2=false then 7 else if lq (gm s c.parent).1=false then 8 else 0)::No s c.cS c.file d::No s c.cZ c.file d::(c.over.map (WE s c d)++[]))
theorem agi (s:List cL)(c:dn)(d:Dg)(hs:Nn s)(ho:c.over.length<=2^47):aq C 175 [.sl (eS s),.agg (cC c),.agg (cD d)] (λr=>r=.val (.int .i64 (RE s c d))):=by
 obtain⟨E,hE⟩:∃E,RE s c d=E:=⟨_,rfl⟩;rw[hE];have hE:E=RE s c d:=hE.symm;unfold RE at hE;refine ej [7,13] Tryz.func175 rfl rfl rfl ?_;refine cl (Dv c.file).cut ?_;refine share (T:=?T1) (λH1=>?m1) ?r1;case m1=>
  by_cases hz:c.file.p=aV;rw[ag hz,cn rfl]at hE;rw[an hz];refine dc 103 [(0,.p (.sl (eS s))),(4,.ptr 4 0),(5,.ptr 5 0)] [(4,aG (cC c)),(5,aG (cD d))] rfl wS oS ?_;revert hE;exact H1.out;rw[af hz]at hE;rw[ak hz];refine cl (Dw s c.file hs).cut ?_;generalize gm s c.file=X at hE⊢;obtain⟨x,is⟩:=X;refine bH ?_;cases is with
  |false=>rw[ag rfl,cE dD]at hE;rw[hE];exact rfl
  |true=>
   rw[af (show¬true=false by decide)]at hE;refine cl (FN c.kind x).cut ?_;refine bH ?_;cases hf:bF c.kind x with
   |false=>rw[ag hf,cE dD]at hE;rw[hE];exact rfl
   |true=>rw[af (by rw[hf];decide),cn rfl]at hE;refine dc 103 [(0,.p (.sl (eS s))),(4,.ptr 4 0),(5,.ptr 5 0)] [(4,aG (cC c)),(5,aG (cD d))] rfl wS oS ?_;revert hE;exact H1.out
 case r1=>
  intro hE;refine cl (Dv c.parent).cut ?_;refine share (T:=?T2) (λH2=>?m2) ?r2;case m2=>
   by_cases hz:c.parent.p=aV;rw[ag hz,cn rfl]at hE;rw[an hz];refine dc 103 [(0,.p (.sl (eS s))),(4,.ptr 4 0),(5,.ptr 5 0)] [(4,aG (cC c)),(5,aG (cD d))] rfl wS oS ?_;revert hE;exact H2.out;rw[af hz]at hE;rw[ak hz];refine cl (Dw s c.parent hs).cut ?_;generalize gm s c.parent=X at hE⊢;obtain⟨x,is⟩:=X;refine bH ?_;cases is with
   |false=>rw[ag rfl,cE dD]at hE;rw[hE];exact rfl
   |true=>
    rw[af (show¬true=false by decide)]at hE;refine cl (adK x).cut ?_;refine bH ?_;cases hf:lq x with
    |false=>rw[ag hf,cE dD]at hE;rw[hE];exact rfl
    |true=>rw[af (by rw[hf];decide),cn rfl]at hE;refine dc 103 [(0,.p (.sl (eS s))),(4,.ptr 4 0),(5,.ptr 5 0)] [(4,aG (cC c)),(5,aG (cD d))] rfl wS oS ?_;revert hE;exact H2.out
  case r2=>
   intro hE;refine cl (UH s c.cS c.file d hs).cut ?_;refine cu (λh=>?_) (λh=>?_);rw[hE,cE h];exact rfl;rw[cn h]at hE;refine cl (UH s c.cZ c.file d hs).cut ?_;refine cu (λh=>?_) (λh=>?_);rw[hE,cE h];exact rfl;rw[cn h]at hE;refine bJ 103 (λk:Nat=>[(0,.p (.sl (eS s))),(4,.ptr 4 0),(5,.ptr 5 0),(13,.p (.int .i64 k))]) (λ_=>[(4,aG (cC c)),(5,aG (cD d))]) (λk=>k<=c.over.length/\E=bz ((c.over.drop k).map (WE s c d)++[])) (λk=>c.over.length-k) 0 ⟨zL,hE⟩ rfl wS oS ?_;rintro k ⟨hk,hE⟩;refine cg (l:=c.over) (f:=cI) (λhlt=>?_) (λhge=>?_);rotate_left;rw[cV oO]at hE;rw[hE];exact rfl;rw[oN hlt]at hE;have next:WE s c d c.over[k]=0->k+1<=c.over.length/\E=bz ((c.over.drop (k+1)).map (WE s c d)++[]):=λh=>⟨hlt,by rw[hE,cn h]⟩;refine ix hlt ?_;refine cl (Dv c.over[k]).cut ?_;refine bH ?_;by_cases hz:c.over[k].p=aV
   ·rw[an hz];exact nx (k+1) (aQ (k+1) (next (by rw[WE,ag hz])) oO rfl wS oS)
   rw[ak hz];have ev:WE s c d c.over[k]=if(gm s c.over[k]).2=false then 7 else if dU c.kind (bl c.file d) (gm s c.over[k]).1=false then 8 else 0:=by rw[WE,af hz]
   rw[ev]at hE next;refine ix hlt ?_;refine cl (Dw s c.over[k] hs).cut ?_;clear ev;generalize gm s c.over[k]=X at hE next⊢;obtain⟨x,is⟩:=X;refine bH ?_;cases is with
   |false=>rw[ag rfl,cE dD]at hE;rw[hE];exact rfl
   |true=>
    rw[af (show¬true=false by decide)]at hE next;refine bW 7 kK ?_;refine⟨_,(FO c.file d).cut,?_⟩;refine cl (FM c.kind (bl c.file d) x).cut ?_;refine bH ?_;cases hf:dU c.kind (bl c.file d) x with
    |false=>rw[ag hf,cE dD]at hE;rw[hE];exact rfl
    |true=>rw[af (by rw[hf];decide)]at next;exact nx (k+1) (aQ (k+1) (next rfl) oO rfl wS oS)
def nH (s:List cL)(p:gr)(d:Dg):Int:=bz (p.changes.map (λc=>RE s c d)++[])
theorem aaD (s:List cL)(p:gr)(d:Dg)(hs:Nn s)(hp:RC p):aq C 103 [.sl (eS s),.agg (cP p),.agg (cD d)] (λr=>r=.val (.int .i64 (nH s p d))):=by have hl:=hp.len;refine ai Tryz.func103 rfl rfl rfl ?_;refine bJ 27 (λk:Nat=>[(0,.p (.sl (eS s))),(4,.ptr 4 0),(5,.ptr 5 0),(7,.p (.int .i64 k))]) (λ_=>[(4,aG (cP p)),(5,aG (cD d))]) (λk=>k<=p.changes.length/\nH s p d=bz ((p.changes.drop k).map (λc=>RE s c d)++[])) (λk=>p.changes.length-k) 0 ⟨zL,rfl⟩ rfl wS oS ?_;rintro k ⟨hk,hE⟩;refine cg (l:=p.changes) (f:=cC) (λhlt=>?_) (λhge=>?_);rw[oN hlt]at hE;refine bW 7 kK ?_;refine ix hlt ?_;refine cl (agi s p.changes[k] d hs (hp.each _ (aO _)).over) ?_;refine cu (λh=>?_) (λh=>?_);rw[hE,cE h];exact rfl;rw[cn h]at hE;exact nx (k+1) (aQ (k+1) ⟨hlt,hE⟩ oO rfl wS oS);rw[cV oO]at hE;rw[hE];exact rfl
def lW:List cL->cL->List cL|[],x=>[x]|y::l,x=>if ee y.id x.id<0 then y::lW l x else x::y::l
theorem Qi:∀(a b:List cL)(x:cL),(∀y,y∈a->ee y.id x.id<0)->lW (a++b) x=a++lW b x|[],b,x,_=>rfl|y::a,b,x,h=>by rw[dm,lW,ag (h y (by simp)),Qi a b x λz hz=>h z (by simp[hz])];rfl
theorem GL {l:List cL}:∀zs,zs∈l.map fU->zs.length=37:=by intro zs h;obtain⟨x,-,rfl⟩:=aC.1 h;rfl
theorem qX (p:gr):(bI p).length<=2^20:=by unfold bI;by_cases h:(oP p).2≠0;rw[ag h];exact zL;rw[af h];have ho:=(Nl (by simpa using h)).1;have h1:=qp (p.changes.flatMap refsOf) (p.deps.foldl pq []);have h2:=qn p.deps [];have h3:=IQ ho p.changes.length (aA _);rw[aU]at h3;have h4:=zm ho;have h5:=ho.changes.2;simp only[bn]at h2;omega
def Ko (s:List cL)(p:gr):List cL×Dg×Int:=if(lV p).2≠0 then([],aV,(lV p).2)else if(nk s (lV p).1).2=true then(if p=(nk s (lV p).1).1 then([],aV,6)else([],aV,14))else if kH (dN s) (bI p)=false then([],aV,19)else if nH s p (lV p).1≠0 then([],aV,nH s p (lV p).1)else if 400<=s.length then([],aV,4)else(lW s ⟨(lV p).1,p⟩,(lV p).1,0)
def IT (out:List Dg)(x:cL):Option cL->Bool|none=>!decide (x.id∈out)&&kH out (bI x.pat)|some y=>!decide (x.id∈out)&&(kH out (bI x.pat)&&decide (ee x.id y.id<0))
def oQ (out:List Dg):List cL->Option cL->Option cL|[],b=>b|x::l,b=>if IT out x b=true then oQ out l (some x)else oQ out l b
def pe (s:List cL):Nat->List Dg->List Dg|0,out=>out|n+1,out=>match oQ out s none with|none=>out|some x=>pe s n (out++[x.id])
def gH (s:List cL):List Dg:=pe s s.length []
theorem SO {s:List cL}{k:Nat}(h:k<s.length)(out:List Dg)(b:Option cL):oQ out (s.drop k) b=if IT out s[k] b=true then oQ out (s.drop (k+1)) (some s[k])else oQ out (s.drop (k+1)) b:=by rw[bZ h];rfl
def kI:Option Nat->Int|none=>-1|some j=>(j:Int)
theorem aaE (s:List cL)(hs:Nn s)(hl:s.length<=2^20):aq C 102 [.sl (eS s)] (λr=>r=.val (.sl (jW (gH s)))):=by
 unfold eS jW;refine ai Tryz.func102 rfl rfl rfl ?_;refine bJ 67 (λout:List Dg=>[(0,.p (.sl (s.map fU))),(3,.fM 6 33 32 (out.map cD))]) (λ_=>[]) (λout=>out.length<=s.length/\gH s=pe s (s.length-out.length) out) (λout=>s.length-out.length) [] ⟨zL,rfl⟩ rfl wS trivial ?_;rintro out ⟨hout,hE⟩;have WA:(((out.map cD).length:Nat):Int)=(out.length:Int):=by rw[ah]
 have RX:(((s.map fU).length:Nat):Int)=(s.length:Int):=by rw[ah]
 refine aF (λhlt=>?_) (λhge=>?_);rotate_left;have hge:¬(((out.map cD).length:Nat):Int)<((s.map fU).length:Int):=hge;rw[show s.length-out.length=0 by omega]at hE;rw[hE];exact .inr rfl;have hlt:(((out.map cD).length:Nat):Int)<((s.map fU).length:Int):=hlt;obtain⟨n,hn⟩:∃n,s.length-out.length=n+1:=⟨s.length-out.length-1,oO⟩;rw[hn]at hE;have hE:gH s=match oQ out s none with|none=>out|some x=>pe s n (out++[x.id]):=hE;refine bJ 67 (λx:Nat×Option Nat=>[(0,.p (.sl (s.map fU))),(3,.fM 6 33 32 (out.map cD)),(4,.p (.int .i64 (kI x.2))),(5,.p (.int .i64 x.1))]) (λ_=>[]) (λx=>x.1<=s.length/\(∀j,x.2=some j->j<s.length)/\oQ out s none=oQ out (s.drop x.1) (x.2.bind λj=>s[j]?)) (λx=>s.length-x.1) (0,none) ⟨zL,(λj h=>by cases h),rfl⟩ rfl wS trivial ?_;rintro⟨k,b⟩ ⟨hk,hb,hP⟩;have hk:k<=s.length:=hk;have hb:∀j,b=some j->j<s.length:=hb;have hP:oQ out s none=oQ out (s.drop k) (b.bind λj=>s[j]?):=hP;refine cg (λef=>?_) (λsq=>?_);rw[SO ef]at hP;have w1:IntKind.i64.wrap ((k:Int)+1)=((k+1:Nat):Int):=by rw[wrap64 oO oO];omega
 have hfit:=hs.each s[k] (aO _);have stay:IT out s[k] (b.bind λj=>s[j]?)=false->k+1<=s.length/\(∀j,b=some j->j<s.length)/\oQ out s none=oQ out (s.drop (k+1)) (b.bind λj=>s[j]?):=λh=>⟨ef,hb,by rw[hP,h];rfl⟩;have take:IT out s[k] (b.bind λj=>s[j]?)=true->k+1<=s.length/\(∀j,some k=some j->j<s.length)/\oQ out s none=oQ out (s.drop (k+1)) ((some k).bind λj=>s[j]?):=λh=>⟨ef,λj hj=>by cases hj;exact ef,by rw[hP,h,ag rfl];show _=oQ out (s.drop (k+1)) s[k]?;rw[av ef]⟩;have hnl:=qX s[k].pat;refine bW 32 kK ?_;refine ix ef ?_;refine⟨_,aaA out s[k].id oO,?_⟩;refine bH ?_;by_cases hm:s[k].id∈out;rw[an hm];exact⟨_,w1,aQ (k+1,b) (stay (by cases b.bind (λj=>s[j]?)<;>simp[IT,hm])) (by show s.length-(k+1)<s.length-k;omega) rfl wS trivial⟩;rw[ak hm];refine ix ef ?_;refine⟨_,Qg s[k].pat hfit.sz hfit.enc,?_⟩;refine⟨_,aaC out (bI s[k].pat) oO oO,?_⟩;cases ha:kH out (bI s[k].pat)with
 |false=>exact⟨_,w1,aQ (k+1,b) (stay (by cases b.bind (λj=>s[j]?)<;>simp[IT,ha])) (by show s.length-(k+1)<s.length-k;omega) rfl wS trivial⟩
 |true=>
  cases b with
  |none=>refine aF (λ_=>?_) (λh=>absurd (show(-1:Int)<0 by decide) h);exact⟨_,w1,aQ (k+1,some k) (take (by simp[IT,hm,ha])) (by show s.length-(k+1)<s.length-k;omega) rfl wS trivial⟩
  |some j=>have hj:j<s.length:=hb j rfl;have hsj:((some j).bind λj=>s[j]?)=some s[j]:=av hj;refine aF (λh=>absurd (show(j:Int)<0 from h) oO) (λ_=>?_);refine ix ef ?_;refine⟨(by show(0:Int)<=(j:Int);omega),_,dL rfl hj,rfl,?_⟩;refine cl (rT s[k].id s[j].id) ?_;refine aF (λh=>?_) (λh=>?_);exact⟨_,w1,aQ (k+1,some k) (take (by rw[hsj];simp[IT,hm,ha,show ee s[k].id s[j].id<0 from h])) (by show s.length-(k+1)<s.length-k;omega) rfl wS trivial⟩;exact⟨_,w1,aQ (k+1,some j) (stay (by rw[hsj];simp[IT,show¬ee s[k].id s[j].id<0 from h])) (by show s.length-(k+1)<s.length-k;omega) rfl wS trivial⟩
 rw[cV oO]at hP;have hP:oQ out s none=b.bind λj=>s[j]?:=hP;rw[hP]at hE;cases b with
 |none=>refine aF (λ_=>?_) (λh=>absurd (show(-1:Int)<0 by decide) h);rw[show gH s=out from hE];exact .inr rfl
 |some j=>have hj:j<s.length:=hb j rfl;have hsj:((some j).bind λj=>s[j]?)=some s[j]:=av hj;rw[hsj]at hE;refine aF (λh=>absurd (show(j:Int)<0 from h) oO) (λ_=>?_);refine⟨(by show(0:Int)<=(j:Int);omega),_,dL rfl hj,rfl,?_⟩;refine⟨lJ,lJ (l:=[s[j].id]),by show((out.map cD).length+1)*32<=_;rw[ah];omega,(out++[s[j].id]).map cD,by rw[aD];rfl,?_⟩;refine aQ (out++[s[j].id]) ⟨by rw[ay];show out.length+1<=_;omega,by rw[ay,show s.length-(out.length+[s[j].id].length)=n by show s.length-(out.length+1)=n;omega];exact hE⟩ (by show s.length-(out++[s[j].id]).length<_;rw[ay];show s.length-(out.length+1)<_;omega) rfl wS trivial
def chW (c:dn):Nat:=1+c.lines.length+c.over.length
def Dx (l:List dn):Nat:=(l.map chW).sum
def BF (l:List cL):Nat:=(l.map λx=>Dx x.pat.changes).sum
def xd (s:List cL)(m:Nat):Bool:=(s.take (m+1)).any (λx=>iD x.pat)||(decide (m<s.length)||decide (300<BF (s.take (m+1))))
theorem WG {l:List dn}{k:Nat}(h:k<l.length):Dx (l.take (k+1))=Dx (l.take k)+chW l[k]:=by unfold Dx;rw[cm h,mE];simp
theorem Np (l:List dn)(k:Nat):Dx (l.take k)<=Dx l:=FK chW l k
theorem WH {l:List cL}{k:Nat}(h:k<l.length):BF (l.take (k+1))=BF (l.take k)+Dx l[k].pat.changes:=by unfold BF;rw[cm h,mE];simp
theorem UI {p:gr}(h:iD p=false):Dx p.changes<=1620/\p.changes.length<=20:=by
 unfold iD at h;simp only[kJ,decide_eq_false_iff_not]at h;obtain⟨⟨⟨h1,-⟩,-⟩,h4⟩:=h;refine⟨?_,oO⟩;have :=zc chW 81 p.changes λc hc=>by
  have hb:EJ c=false:=by
   cases hq:EJ c with
   |false=>rfl
   |true=>rw[fc.2 ⟨c,hc,hq⟩]at h1;exact absurd h1 dD
  unfold EJ zb at hb;simp only[kJ,decide_eq_false_iff_not]at hb;obtain⟨⟨g1,-⟩,g2⟩:=hb;unfold chW;omega
 have h2:p.changes.length*81<=20*81:=ew _ oO;unfold Dx;omega
theorem UJ:∀(l:List cL),l.any (λx=>iD x.pat)=false->BF l<=1620*l.length|[],_=>aA _|x::l,h=>by simp only[List.any_cons,kJ]at h;have h1:=(UI h.1).1;have h2:=UJ l h.2;show Dx x.pat.changes+BF l<=_;simp only[aR];omega
theorem aaF (s:List cL)(m:Nat)(hs:Wo s)(hm:m<=2^20):aq C 98 [.sl (eS s),.int .i64 (m:Int)] (λr=>r=.val (.bool (xd s m))):=by
 have hl:=hs.len;have RX:(((s.map fU).length:Nat):Int)=(s.length:Int):=by rw[ah]
 unfold eS;refine ai Tryz.func98 rfl rfl rfl ?_;refine bJ 70 (λk:Nat=>[(0,.p (.sl (s.map fU))),(1,.p (.int .i64 (m:Int))),(5,.p (.int .i64 (BF (s.take k):Int))),(6,.p (.int .i64 k))]) (λ_=>[]) (λk=>k<=s.length/\k<=m+1/\(s.take k).any (λx=>iD x.pat)=false) (λk=>s.length-k) 0 ⟨zL,zL,rfl⟩ rfl wS trivial ?_;rintro k ⟨hk,hkm,hn⟩;have hw:=UJ _ hn;have RZ:(s.take k).length<=k:=List.length_take_le _ _;refine⟨none,?_⟩;refine cg (λhlt=>aF (λhle=>?_) (λhgt=>?_)) (λhge=>?_);have hle:k<=m:=by have :(k:Int)<=(m:Int):=hle;omega
 refine ix hlt ?_;refine cl (Wr s[k].pat (hs.each _ (aO _))) ?_;cases hg:iD s[k].pat with
 |true=>
  have h1:s[k]∈s.take (m+1):=by rw[List.mem_take_iff_getElem];exact⟨k,oO,rfl⟩
  have :(s.take (m+1)).any (λx=>iD x.pat)=true:=fc.2 ⟨_,h1,hg⟩;show dx.val (.bool true)=_;rw[xd,this];rfl
 |false=>
  obtain⟨g1,g2⟩:=UI hg;have hst:=WH hlt;refine bJ 70 (λj:Nat=>[(0,.p (.sl (s.map fU))),(1,.p (.int .i64 (m:Int))),(5,.p (.int .i64 ((BF (s.take k)+Dx (s[k].pat.changes.take j):Nat):Int))),(6,.p (.int .i64 (k:Int))),(7,.p (.int .i64 j))]) (λ_=>[]) (λj=>j<=s[k].pat.changes.length) (λj=>s[k].pat.changes.length-j) 0 (zL) rfl wS trivial ?_;intro j hj;refine ix hlt ?_;refine cg (l:=s[k].pat.changes) (f:=cC) (λef=>?_) (λsq=>?_);have hp:=WG ef;have XV:=Np s[k].pat.changes (j+1);have hcw:chW s[k].pat.changes[j]=1+s[k].pat.changes[j].lines.length+s[k].pat.changes[j].over.length:=rfl;refine bW 25 kK ?_;refine nx (BF (s.take k)+Dx (s[k].pat.changes.take j)+1) ?_;refine ix hlt ?_;refine ix ef ?_;refine⟨((BF (s.take k)+Dx (s[k].pat.changes.take j)+1+s[k].pat.changes[j].lines.length:Nat):Int),by rw[ah,wrap64 oO oO];omega,?_⟩;refine ix hlt ?_;refine ix ef ?_;refine⟨((BF (s.take k)+Dx (s[k].pat.changes.take (j+1)):Nat):Int),by show IntKind.i64.wrap (_+(((oF s[k].pat.changes[j].over).length:Nat):Int))=_;rw[oF,ah,wrap64 oO oO];omega,?_⟩;exact nx (j+1) (aQ (j+1) ef oO rfl wS trivial);obtain rfl:j=s[k].pat.changes.length:=oO
  rw[aU,<-hst];exact nx (k+1) (aQ (k+1) ⟨hlt,oO,AS hlt hn hg⟩ oO rfl wS trivial)
 have hgt:¬k<=m:=by have :¬(k:Int)<=(m:Int):=hgt;omega
 have hlen:m<s.length:=oO
 refine⟨none,?_⟩;refine aF (λ_=>?_) (λh=>absurd (show(((s.map fU).length:Nat):Int)>(m:Int)by omega) h);show dx.val (.bool true)=_;simp[xd,hlen];obtain rfl:k=s.length:=oO
 have e1:s.take (m+1)=s:=cU hkm;rw[aU]at hn hw⊢;refine⟨none,?_⟩;refine aF (λh=>?_) (λh=>aF (λh2=>?_) (λh2=>?_));have :m<s.length:=by have :(((s.map fU).length:Nat):Int)>(m:Int):=h;omega
 show dx.val (.bool true)=_;simp[xd,this];have h2:300<BF s:=by have :(BF s:Int)>300:=h2;omega
 show dx.val (.bool true)=_;simp[xd,e1,h2];have h:¬m<s.length:=by have :¬(((s.map fU).length:Nat):Int)>(m:Int):=h;omega
 have h2:¬300<BF s:=by have :¬(BF s:Int)>300:=h2;omega
 show dx.val (.bool false)=_;simp only[xd,e1,hn,h,h2,decide_false,Bool.or_self]
def uX (s:List cL):Bool:=xd s 8
theorem WI (s:List cL)(hs:Wo s):aq C 37 [.sl (eS s)] (λr=>r=.val (.bool (uX s))):=by refine ai Tryz.func37 rfl rfl rfl ?_;refine cl (aaF s 8 hs dD) ?_;exact rfl
def qY:cL:=⟨aV,Lm⟩
def EM (s:List cL)(i:Nat):Int:=if(lV (s.getD i qY).pat).2≠0 then(lV (s.getD i qY).pat).2 else if(lV (s.getD i qY).pat).1≠(s.getD i qY).id then 13 else if 0<i/\0<=ee (s.getD (i-1) qY).id (lV (s.getD i qY).pat).1 then 9 else 0
def xg (s:List cL):Int:=if 400<s.length then 4 else if bz ((List.range s.length).map (EM s))≠0 then bz ((List.range s.length).map (EM s))else if s.all (λx=>kH (dN s) (bI x.pat))=false then 19 else if(gH s).length<s.length then 20 else bz (s.map (λx=>nH s x.pat x.id)++[])
theorem WJ (s:List cL)(hs:Nn s):aq C 38 [.sl (eS s)] (λr=>r=.val (.int .i64 (xg s))):=by
 have RX:(((s.map fU).length:Nat):Int)=(s.length:Int):=by rw[ah]
 obtain⟨E,hE⟩:∃E,xg s=E:=⟨_,rfl⟩;rw[hE];have hE:E=xg s:=hE.symm;unfold xg at hE;refine ai Tryz.func38 rfl rfl rfl ?_;refine aF (λh=>?_) (λh=>?_);have h:(((s.map fU).length:Nat):Int)>400:=h;rw[ag (show 400<s.length by omega)]at hE;rw[hE];exact rfl;have h:¬(((s.map fU).length:Nat):Int)>400:=h;have hl:s.length<=400:=oO
 rw[af (show¬400<s.length by omega)]at hE;refine bJ 95 (λk:Nat=>[(0,.p (.sl (s.map fU))),(3,.p (.int .i64 k))]) (λ_=>[]) (λk=>k<=s.length/\∀i,i<k->EM s i=0) (λk=>s.length-k) 0 ⟨zL,λi h=>absurd h (jm _)⟩ rfl wS trivial ?_;rintro k ⟨hk,hall⟩;refine cg (λhlt=>?_) (λhge=>?_)
 ·have hg:s.getD k qY=s[k]:=by simp[List.getD,hlt]
  have hfit:=hs.each s[k] (aO _);have hb:EM s k=if(lV s[k].pat).2≠0 then(lV s[k].pat).2 else if(lV s[k].pat).1≠s[k].id then 13 else if 0<k/\0<=ee (s.getD (k-1) qY).id (lV s[k].pat).1 then 9 else 0:=by unfold EM;rw[hg]
  have bad:∀e,EM s k=e->e≠0->dx.val (.int .i64 e)=dx.val (.int .i64 E):=λe he h=>by subst he;rw[wZ (EM s) s.length k hlt hall h,ag h]at hE;rw[hE]
  have next:EM s k=0->k+1<=s.length/\∀i,i<k+1->EM s i=0:=λh=>⟨hlt,λi hi=>by by_cases hik:i=k;rw[hik];exact h;exact hall i oO⟩;refine ix hlt ?_;refine cl (aat s[k].pat hfit.sz hfit.enc) ?_;generalize lV s[k].pat=X at hb⊢;obtain⟨d,e⟩:=X;refine cu (λh=>?_) (λh=>?_);exact bad e (by rw[hb,ag h]) h;rw[af λg=>g h]at hb;refine bW 6 kK ?_;refine ix hlt ?_;refine⟨qC,bY,lC,rfl,rfl,?_⟩;refine nE (a:=d) (b:=s[k].id) ?_;by_cases hd:d=s[k].id;rotate_left;rw[ak hd];exact bad 13 (by rw[hb,ag hd]) dD;rw[an hd];rw[af λg=>g hd]at hb;refine bW 10 kK ?_;refine aF (λh0=>?_) (λh0=>?_)
  ·have h0:0<k:=by have :(k:Int)>0:=h0;omega
   have hlt':k-1<s.length:=oO
   have hg':s.getD (k-1) qY=s[k-1]:=by simp[List.getD,hlt']
   rw[hg']at hb;refine nx (k-1) ?_;refine ix hlt' ?_;refine cl (rT s[k-1].id d) ?_;refine aF (λh2=>?_) (λh2=>?_);exact bad 9 (by rw[hb,ag ⟨h0,h2⟩]) dD;rw[af λh=>h2 h.2]at hb;exact nx (k+1) (aQ (k+1) (next hb) oO rfl wS trivial)
  have h0:¬0<k:=by have :¬(k:Int)>0:=h0;omega
  rw[af λh=>h0 h.1]at hb;exact nx (k+1) (aQ (k+1) (next hb) oO rfl wS trivial)
 rw[uW (EM s) s.length λi hi=>hall i oO,af λg=>g rfl]at hE;clear hall;refine cl (agh s oO) ?_;have hi:(dN s).length<=400:=by unfold dN;rw[ah];exact hl
 refine bJ 95 (λk:Nat=>[(0,.p (.sl (s.map fU))),(6,.p (.sl (jW (dN s)))),(7,.p (.int .i64 k))]) (λ_=>[]) (λk=>k<=s.length/\(s.take k).all (λx=>kH (dN s) (bI x.pat))=true) (λk=>s.length-k) 0 ⟨zL,rfl⟩ rfl wS trivial ?_;rintro k ⟨hk,hall⟩;refine cg (λhlt=>?_) (λhge=>?_);have hfit:=hs.each s[k] (aO _);have hn:=qX s[k].pat;refine ix hlt ?_;refine cl (Qg s[k].pat hfit.sz hfit.enc) ?_;refine cl (aaC (dN s) (bI s[k].pat) oO oO) ?_;refine bH ?_;cases hv:kH (dN s) (bI s[k].pat)with
 |false=>rw[ag (Nj (f:=λx:cL=>kH (dN s) (bI x.pat)) hlt hv)]at hE;rw[hE];exact rfl
 |true=>exact nx (k+1) (aQ (k+1) ⟨hlt,rJ hlt hall hv⟩ oO rfl wS trivial)
 rw[cU oO]at hall;rw[hall,af (show¬true=false by decide)]at hE;refine cl (aaE s hs oO) ?_;have WA:(((jW (gH s)).length:Nat):Int)=((gH s).length:Int):=by simp[jW]
 refine aF (λh=>?_) (λh=>?_);have h:(((jW (gH s)).length:Nat):Int)<((s.map fU).length:Int):=h;rw[ag (show(gH s).length<s.length by omega)]at hE;rw[hE];exact rfl;have h:¬(((jW (gH s)).length:Nat):Int)<((s.map fU).length:Int):=h;rw[af (show¬(gH s).length<s.length by omega)]at hE;refine bJ 95 (λk:Nat=>[(0,.p (.sl (s.map fU))),(8,.p (.int .i64 k))]) (λ_=>[]) (λk=>k<=s.length/\E=bz ((s.drop k).map (λx=>nH s x.pat x.id)++[])) (λk=>s.length-k) 0 ⟨zL,hE⟩ rfl wS trivial ?_;rintro k ⟨hk,hE⟩;refine cg (λhlt=>?_) (λhge=>?_);rw[oN hlt]at hE;refine bW 11 kK ?_;refine ix hlt ?_;refine ix hlt ?_;refine cl (aaD s s[k].pat s[k].id hs (hs.each s[k] (aO _)).sz) ?_;refine cu (λh=>?_) (λh=>?_);rw[hE,cE h];exact rfl;rw[cn h]at hE;exact nx (k+1) (aQ (k+1) ⟨hlt,hE⟩ oO rfl wS trivial);rw[cV oO]at hE;rw[hE];exact rfl
def FP (s:List cL):Bool:=!uX s&&decide (xg s=0)
theorem adL (s:List cL)(hz:Wo s)(hs:uX s=false->Nn s):aq C 10 [.sl (eS s)] (λr=>r=.val (.bool (FP s))):=by
 refine ai Tryz.func10 rfl rfl rfl ?_;refine⟨none,?_⟩;refine cl (WI s hz) ?_;refine bH ?_;unfold FP;cases hg:uX s with
 |true=>exact rfl
 |false=>refine cl (WJ s (hs hg)) ?_;refine aB (λh=>?_) (λh=>?_);rw[an (show xg s=0 from h)];exact rfl;rw[ak (show¬xg s=0 from h)];exact rfl
theorem BG {d:Nat}:∀{l:List Sx},(∀x,x∈l->dX x<=d)->UB l<=d|[],_=>zL|y::l,h=>by have h1:=h y (by simp);have h2:=BG (l:=l) λx hx=>h x (cR _ hx);show max (dX y) (UB l)<=d;omega
theorem BH {d:Nat}:∀{l:List Sx},(∀x,x∈l->aX x<=d)->aXs l<=d|[],_=>zL|y::l,h=>by have h1:=h y (by simp);have h2:=BH (l:=l) λx hx=>h x (cR _ hx);show max (aX y) (aXs l)<=d;omega
theorem Nq (a b:List Sx):td (a++b)=td a+td b:=by rw[uO,uO,uO,aD,mE]
theorem agj {m:Nat}(hm:m<=2^40)(x:Sx):aX x<=m->(eX x).length<=nX x*(m+24):=by
 induction x using Sx.ind with
 |h1 s=>intro h;have h:s.length<=m:=h;have l1:=Lib.itoa_length_le (s.length:Int) oO oO;show(Lib.itoa (s.length:Int)++[58]++s).length<=1*(m+24);simp only[ay,aR,bn];omega
 |h2 l ih=>
  intro h;have h:aXs l<=m:=h;have hs:∀l':List Sx,(∀x,x∈l'->(eX x).length<=nX x*(m+24))->(JN l').length<=td l'*(m+24):=by
   intro l';induction l' with
   |nil=>intro _;exact zL
   |cons y l' ih2=>intro g;have g1:=g y (by simp);have g2:=ih2 λx hx=>g x (by simp[hx]);show(eX y++JN l').length<=(nX y+td l')*(m+24);rw[ay,bw];omega
  have g:=hs l λx hx=>ih x hx (by have :=GJ hx;omega);show([40]++JN l++[41]).length<=(1+td l)*(m+24);rw[bw];simp only[ay,aR,bn];omega
theorem Qj (n:Int):(Qb n).length<=40:=by unfold Qb;split;have :=Lib.itoa_length_le n oO oO;omega;exact zL
theorem UK (d:Dg):(dgB d).length<=40:=by unfold dgB;split;exact zL;rw[d.2];decide
theorem Nr (n:Int):dX (cM n)<=3/\aX (cM n)<=65536:=⟨by show 1<=3;decide,by have :=Qj n;show(Qb n).length<=_;omega⟩
theorem aaG (x:bV):aX (bP x)<=65536:=by have h1:=Qj x.n;have h2:=UK x.p;show max (dgB x.p).length (max (Qb x.n).length 0)<=_;omega
theorem Ns (x:bV):dX (bP x)<=3/\aX (bP x)<=65536:=⟨by show 1+max 1 (max 1 0)<=3;decide,aaG x⟩
theorem aaH (s:Bytes)(h:s.length<=65536):dX (.atom s)<=3/\aX (.atom s)<=65536:=⟨by show 1<=3;decide,h⟩
theorem ah8 (l:List bV):dX (rU l)<=3/\aX (rU l)<=65536:=by
 constructor;show 1+UB (l.map bP)<=3;have :=BG (d:=2) (l:=l.map bP) λx hx=>by obtain⟨y,-,rfl⟩:=aC.1 hx;show 1+max 1 (max 1 0)<=2;decide
 omega;exact BH (l:=l.map bP) λx hx=>by obtain⟨y,-,rfl⟩:=aC.1 hx;exact aaG y
theorem ah9 (l:List Bytes)(h:l.all qi=true):dX (RD l)<=3/\aX (RD l)<=65536:=by
 constructor;show 1+UB (l.map Sx.atom)<=3;have :=BG (d:=1) (l:=l.map Sx.atom) λx hx=>by obtain⟨y,-,rfl⟩:=aC.1 hx;exact aA 1
 omega;exact BH (l:=l.map Sx.atom) λx hx=>by obtain⟨y,hy,rfl⟩:=aC.1 hx;have :=bA.1 h y hy;simp only[qi,br,decide_eq_true_eq]at this;show y.length<=_;omega
theorem aia (l:List bV):nX (rU l)=1+3*l.length:=by
 show 1+td (l.map bP)=_;have :td (l.map bP)=3*l.length:=by
  induction l with
  |nil=>rfl
  |cons y l ih=>show nX (bP y)+td (l.map bP)=_;rw[ih,aR];show 3+3*l.length=_;omega
 rw[this]
theorem aib (l:List Bytes):nX (RD l)=1+l.length:=by
 show 1+td (l.map Sx.atom)=_;have :td (l.map Sx.atom)=l.length:=by
  induction l with
  |nil=>rfl
  |cons y l ih=>show 1+td (l.map Sx.atom)=_;rw[ih,aR];omega
 rw[this]
theorem Nt {c:dn}(h:cO c=0)(hk:c.kind=2):iz c.name=true:=by
 cases hn:iz c.name with
 |true=>rfl
 |false=>unfold cO at h;rw[af (show¬(c.kind<1\/7<c.kind)by omega)]at h;by_cases h2:bB (eC c)=false;rw[ag h2]at h;exact absurd h dD;rw[af h2,af (show¬(c.kind=1/\(c.type<1\/4<c.type))by omega),ag ⟨hk,hn⟩]at h;exact absurd h dD
theorem Ln {s:Bytes}(h:iz s=true):s.length<=40:=by simp only[iz,br,decide_eq_true_eq]at h;exact h.1.2
theorem aaI {c:dn}(h:cO c=0):∀x,x∈qD c->dX x<=3/\aX x<=65536:=by obtain⟨g1,g2,g3,-,-,g6⟩:=fu h;intro x hx;unfold qD at hx;rcases aZ.1 hx with hx|hx;obtain rfl:=aP.1 hx;exact Nr _;rcases aZ.1 hx with hx|hx;by_cases e1:c.kind=1;rw[ag e1]at hx;cases hx;rw[af e1]at hx;by_cases e7:c.kind=7;rw[ag e7]at hx;cases hx;rw[af e7]at hx;obtain rfl:=aP.1 hx;exact Ns _;rcases aZ.1 hx with hx|hx;by_cases e1:c.kind=1;rw[ag e1]at hx;obtain rfl:=aP.1 hx;exact Nr _;rw[af e1]at hx;by_cases e2:c.kind=2;rw[ag e2]at hx;have hn:=Ln (Nt h e2);simp only[aK,gy,or_false]at hx;rcases hx with rfl|rfl;exact Ns _;exact aaH _ oO;rw[af e2]at hx;by_cases e3:c.kind=3;rw[ag e3]at hx;obtain rfl:=aP.1 hx;exact Nr _;rw[af e3]at hx;by_cases e4:c.kind=4;rw[ag e4]at hx;obtain rfl:=aP.1 hx;exact aaH _ g6;rw[af e4]at hx;by_cases e5:c.kind=5\/c.kind=6;rw[ag e5]at hx;simp only[aK,gy,or_false]at hx;rcases hx with rfl|rfl;exact Ns _;exact Ns _;rw[af e5]at hx;cases hx;by_cases e5:c.kind=5;rw[ag e5]at hx;obtain rfl:=aP.1 hx;exact ah9 _ (g3 e5).2;rw[af e5]at hx;by_cases e1:c.kind=1;rw[ag e1]at hx;cases hx;rw[af e1]at hx;obtain rfl:=aP.1 hx;exact ah8 _
def chN (c:dn):Nat:=12+c.lines.length+3*c.over.length
theorem agk (c:dn):nX (mL c)<=chN c:=by
 show 1+td (qD c)<=_;unfold qD chN;rw[Nq,Nq,Nq];have a1:td [cM c.kind]=1:=rfl;have a2:td (if c.kind=1 then[]else if c.kind=7 then[]else[bP c.file])<=3:=by split;exact zL;split;exact zL;exact aA 3
 have a3:td (if c.kind=1 then[cM c.type]else if c.kind=2 then[bP c.parent,.atom c.name]else if c.kind=3 then[cM c.mode]else if c.kind=4 then[.atom c.data]else if c.kind=5\/c.kind=6 then[bP c.cS,bP c.cZ]else[])<=6:=by
  repeat' split
  all_goals first|exact zL|exact aA 6|(show 1<=6;decide)|(show 4<=6;decide)
 have a4:td (if c.kind=5 then[RD c.lines]else if c.kind=1 then[]else[rU c.over])<=1+c.lines.length+3*c.over.length:=by split;show nX (RD c.lines)+0<=_;rw[aib];omega;split;exact zL;show nX (rU c.over)+0<=_;rw[aia];omega
 omega
def BdP (p:gr):Prop:=(p.changes.map chN).sum<=19000
theorem agl {p:gr}(hb:BdP p)(h:SK p):ZT (kD p):=by
 have hd:=zm h;have hname:=Ln h.name;have anE:=h.message;have ha:aX (kD p)<=65536:=by
  refine BH λx hx=>?_;simp only[aK,gy,or_false]at hx;rcases hx with rfl|rfl|rfl|rfl|rfl|rfl;show q1B.length<=_;decide;show p.fq.length<=_;omega;show p.message.length<=_;omega;exact(Nr _).2;exact BH λx hx=>by obtain⟨y,-,rfl⟩:=aC.1 hx;have :=UK y;show(dgB y).length<=_;omega
  exact BH λx hx=>by obtain⟨c,hc,rfl⟩:=aC.1 hx;exact BH λy hy=>(aaI (h.each c hc) y hy).2
 have hn:nX (kD p)<=20000:=by
  have e1:td (p.deps.map ni)=p.deps.length:=by
   generalize p.deps=l;induction l with
   |nil=>rfl
   |cons y l ih=>show 1+td (l.map ni)=_;rw[ih,aR];omega
  have e2:td (p.changes.map mL)<=(p.changes.map chN).sum:=by
   generalize p.changes=l;induction l with
   |nil=>exact aA _
   |cons y l ih=>have :=agk y;show nX (mL y)+td (l.map mL)<=chN y+(l.map chN).sum;omega
  show 1+(1+(1+(1+(1+((1+td (p.deps.map ni))+((1+td (p.changes.map mL))+0))))))<=_;unfold BdP at hb;omega
 refine⟨hn,?_,ha,?_⟩;show 1+UB _<=12;have :=BG (d:=11) (l:=[.atom q1B,.atom p.fq,.atom p.message,cM p.time,.list (p.deps.map ni),.list (p.changes.map mL)]) λx hx=>by
  simp only[aK,gy,or_false]at hx;rcases hx with rfl|rfl|rfl|rfl|rfl|rfl;show 1<=11;decide;show 1<=11;decide;show 1<=11;decide;show 1<=11;decide;show 1+UB (p.deps.map ni)<=11;have :=BG (d:=1) (l:=p.deps.map ni) λx hx=>by obtain⟨y,-,rfl⟩:=aC.1 hx;exact aA 1
  omega;show 1+UB (p.changes.map mL)<=11;have :=BG (d:=4) (l:=p.changes.map mL) λx hx=>by obtain⟨c,hc,rfl⟩:=aC.1 hx;show 1+UB (qD c)<=4;have :=BG (d:=3) (l:=qD c) λy hy=>(aaI (h.each c hc) y hy).1;omega
  omega
 omega;have :=agj (m:=65536) dD (kD p) ha;have h2:nX (kD p)*(65536+24)<=20000*(65536+24):=ew _ hn;omega
theorem SP {p:gr}(h:iD p=false):BdP p:=by
 unfold iD at h;simp only[kJ,decide_eq_false_iff_not]at h;obtain⟨⟨⟨h1,-⟩,-⟩,h4⟩:=h;have :=zc chN 172 p.changes λc hc=>by
  have hb:EJ c=false:=by
   cases hq:EJ c with
   |false=>rfl
   |true=>rw[fc.2 ⟨c,hc,hq⟩]at h1;exact absurd h1 dD
  unfold EJ zb at hb;simp only[kJ,decide_eq_false_iff_not]at hb;obtain⟨⟨g1,-⟩,g2⟩:=hb;unfold chN;omega
 have h2:p.changes.length*172<=20*172:=ew _ oO;unfold BdP;omega
theorem Nu {p:gr}(hz:RC p)(hb:BdP p):IS p:=⟨hz,agl hb⟩
theorem UL {s:List cL}(hz:Wo s)(h:uX s=false):Nn s/\s.length<=8:=by
 unfold uX xd at h;simp only[kJ,decide_eq_false_iff_not]at h;obtain⟨h1,h2,-⟩:=h;have hl:s.length<=8:=oO
 refine⟨⟨hz.len,λx hx=>Nu (hz.each x hx) (SP ?_)⟩,hl⟩;rw[cU oO]at h1;cases hq:iD x.pat with
 |false=>rfl
 |true=>rw[fc.2 ⟨x,hx,hq⟩]at h1;exact absurd h1 dD
theorem IU (s:List cL)(hz:Wo s):aq C 10 [.sl (eS s)] (λr=>r=.val (.bool (FP s))):=adL s hz λh=>(UL hz h).1
def aaJ (s:List cL)(ids:List Dg):List cq:=ids.flatMap λd=>(lK (nk s d).1).1
theorem SQ (d:Dg)(a:cq):(fO d a).over=JO d a.over:=by unfold fO UF;show JO d (IJ d (II d (st2 d (st1 d a)))).over=_;rw[IM,IL,IK];rfl
def akF (out:List cq)(a:cq):Bool:=out.any λb=>decide (b.kind=7)&&decide (a.id∈b.over)
def SR (a:cq)(out:List cq):List cq:=if akF out a=true then out else a::out
def UM (l:List cq):List cq:=l.foldr SR []
theorem Lo:∀l:List cq,(UM l).length<=l.length|[]=>aA _|a::l=>by have :=Lo l;show(SR a (UM l)).length<=_;unfold SR;split;simp only[aR];omega;simp only[aR];omega
def akG (s:List cL):List cq:=UM (aaJ s (gH s))
theorem FQ (s:List cL):∀(n:Nat)(out:List Dg),(pe s n out).length<=out.length+n|0,out=>aA _|n+1,out=>by unfold pe;split;omega;rename_i x _;have :=FQ s n (out++[x.id]);rw[ay]at this;simp only[aR,bn]at this;omega
theorem IV (s:List cL):(gH s).length<=s.length:=by have :=FQ s s.length [];simpa[gH]using this
theorem fD (x:bV):aq C 113 [.agg (cI x)] (λr=>r=.val (.bool (decide (x.p=aV)))):=by refine ai Tryz.func113 rfl rfl rfl ?_;refine⟨qC,bY,lC,rfl,rfl,?_⟩;refine By (a:=x.p) (b:=aV) ?_;exact rfl
theorem IW (l:List Sx):aq C 296 [.sl (mJ l)] (λr=>r=.val (.agg (cX (.list l)))):=by refine ai Tryz.func296 rfl rfl rfl ?_;exact rfl
theorem qt (s:Bytes):aq C 297 [.str s] (λr=>r=.val (.agg (cX (.atom s)))):=by refine ai Tryz.func297 rfl rfl rfl ?_;exact rfl
abbrev qu:Extra:={opens:=[],JL:=[],full:=false}
theorem Nv (w:World)(k:Nat)(os:Array Obj):RowKit.Below w.heap.size w (Sort.grow (w.drewN k) os):=⟨rfl,rfl,rfl,by simp[Sort.grow],λi hi=>by show(w.heap++os)[i]?=w.heap[i]?;rw[sI hi]⟩
theorem Qk (n:Int)(h0:-9223372036854775808<=n)(h1:n<=9223372036854775807):aq C 347 [.int .i64 n] (λr=>r=.val (.str (Lib.itoa n))):=by
 refine⟨⟨_,Tryz.func347,rfl,rfl⟩,λbk w vs hJ hn hi hl hr=>?_⟩;match vs,hl with
  |[v0],_=>
   have h:=hr 0 v0 _ rfl rfl;obtain rfl:v0=.int .i64 n:=by cases h;rfl
   refine(Tryz.strconv_Itoa n h0 h1 w hJ.1).mono ?_;rintro e w' ⟨rfl,k,os,rfl⟩;exact⟨_,_,rfl,rfl,.str _,Nv w k os⟩
theorem Ai (n:Int):aq C 299 [.int .i64 n] (λr=>r=.val (.agg (cX (cM n)))):=by
 have key:aq C 336 [.int .i64 n] (λr=>r=.val (.eW [.agg (cX (cM n)),.int .i64 (if-1099511627776<=n/\n<=1099511627776 then 0 else 2)])):=by refine ai Tryz.func336 rfl rfl rfl ?_;refine⟨none,?_⟩;unfold cM Qb;refine aF (λh=>?_) (λh=>aF (λh2=>?_) (λh2=>?_));have h:n< -1099511627776:=h;rw[af (show¬(-1099511627776<=n/\n<=1099511627776)by omega),af (show¬(-1099511627776<=n/\n<=1099511627776)by omega)];exact rfl;have h2:n>1099511627776:=h2;rw[af (show¬(-1099511627776<=n/\n<=1099511627776)by omega),af (show¬(-1099511627776<=n/\n<=1099511627776)by omega)];exact rfl;have h:¬n< -1099511627776:=h;have h2:¬n>1099511627776:=h2;rw[ag (show-1099511627776<=n/\n<=1099511627776 by omega),ag (show-1099511627776<=n/\n<=1099511627776 by omega)];refine cl (Qk n oO oO) ?_;exact rfl
 refine ai Tryz.func299 rfl rfl rfl ?_;refine cl key ?_;exact rfl
theorem adM (x:cq):aq C 181 [.agg (cA x)] (λr=>r=.val (.bool (decide (x.kind=1)))):=by refine ai Tryz.func181 rfl rfl rfl ?_;refine aB (λh=>?_) (λh=>?_);show dx.val (.bool true)=_;rw[an (show x.kind=1 from h)];show dx.val (.bool false)=_;rw[ak (show¬x.kind=1 from h)]
theorem adN (x:cq):aq C 182 [.agg (cA x)] (λr=>r=.val (.bool (decide (x.kind=1)&&(decide (x.type=2)||decide (x.type=3))))):=by refine ai Tryz.func182 rfl rfl rfl ?_;refine⟨none,?_⟩;refine aB (λh=>aB (λh2=>?_) (λh2=>aB (λh3=>?_) (λh3=>?_))) (λh=>?_);show dx.val (.bool true)=_;rw[an (show x.kind=1 from h),an (show x.type=2 from h2)];rfl;show dx.val (.bool true)=_;rw[an (show x.kind=1 from h),ak (show¬x.type=2 from h2),an (show x.type=3 from h3)];rfl;show dx.val (.bool false)=_;rw[an (show x.kind=1 from h),ak (show¬x.type=2 from h2),ak (show¬x.type=3 from h3)];rfl;show dx.val (.bool false)=_;rw[ak (show¬x.kind=1 from h)];rfl
theorem adP (x:cq):aq C 183 [.agg (cA x)] (λr=>r=.val (.bool (decide (x.kind=1)&&decide (x.type=1)))):=by refine ai Tryz.func183 rfl rfl rfl ?_;refine⟨none,?_⟩;refine aB (λh=>aB (λh2=>?_) (λh2=>?_)) (λh=>?_);show dx.val (.bool true)=_;rw[an (show x.kind=1 from h),an (show x.type=1 from h2)];rfl;show dx.val (.bool false)=_;rw[an (show x.kind=1 from h),ak (show¬x.type=1 from h2)];rfl;show dx.val (.bool false)=_;rw[ak (show¬x.kind=1 from h)];rfl
theorem adQ (x:cq):aq C 184 [.agg (cA x)] (λr=>r=.val (.bool (decide (x.kind=1)&&decide (x.type=4)))):=by refine ai Tryz.func184 rfl rfl rfl ?_;refine⟨none,?_⟩;refine aB (λh=>aB (λh2=>?_) (λh2=>?_)) (λh=>?_);show dx.val (.bool true)=_;rw[an (show x.kind=1 from h),an (show x.type=4 from h2)];rfl;show dx.val (.bool false)=_;rw[an (show x.kind=1 from h),ak (show¬x.type=4 from h2)];rfl;show dx.val (.bool false)=_;rw[ak (show¬x.kind=1 from h)];rfl
theorem adR (x:cq)(c:dn):aq C 185 [.agg (cA x),.imp (cC c)] (λr=>r=.val (.bool (decide (x.id=c.file)||(decide (x.kind=5)&&decide (x.file=c.file))))):=by refine ai Tryz.func185 rfl rfl rfl ?_;refine⟨none,?_⟩;refine qT ?_;refine jC (a:=x.id) (b:=c.file) ?_;by_cases h:x.id=c.file;rw[an h];exact rfl;rw[ak h];refine aB (λh2=>?_) (λh2=>?_);refine qT ?_;refine jC (a:=x.file) (b:=c.file) ?_;show dx.val _=_;rw[an (show x.kind=5 from h2)];rfl;show dx.val (.bool false)=_;rw[ak (show¬x.kind=5 from h2)];rfl
theorem aaV (k:Int)(hk:k=2\/k=3\/k=4\/k=6):aq C 187 [.int .i64 k] (λr=>r=.val (.int .i64 k)):=by
 have vK:eZ Tryz.prog 40 3=some [.int .i64]:=kK
 have jR:∀{L:List gJ}{l:List (AV×FV)},(l.all λp=>gL false L p.1)=true->∀p,p∈l->gL false L p.1=true:=λh p hp=>bA.1 h p hp;refine ai Tryz.func187 rfl rfl rfl ?_;refine⟨[.int .i64],vK,rfl,(λp hp=>nomatch hp),_,rfl,?_⟩;refine⟨[.int .i64],vK,rfl,jR rfl,_,rfl,?_⟩;refine⟨[.int .i64],vK,rfl,jR rfl,_,rfl,?_⟩;refine⟨[.int .i64],vK,rfl,jR rfl,_,rfl,?_⟩;rcases hk with rfl|rfl|rfl|rfl;all_goals exact⟨[.int .i64],vK,rfl,jR rfl,_,rfl,rfl⟩
theorem adS (x:cq)(c:dn)(hk:c.kind=2\/c.kind=3\/c.kind=4\/c.kind=6\/c.kind=7):aq C 186 [.agg (cA x),.imp (cC c)] (λr=>r=.val (.bool (dU c.kind c.file x))):=by
 refine ai Tryz.func186 rfl rfl rfl ?_;refine bW 19 kK ?_;refine aB (λh=>?_) (λh=>?_);have h:c.kind=7:=h;show dx.val (.bool true)=_;simp[dU,AT,h];have h:c.kind≠7:=h;refine⟨_,aaV c.kind oO,?_⟩;have hw:AT c.kind=c.kind:=af h;have h0:¬c.kind=0:=oO
 refine aB (λh2=>?_) (λh2=>?_);have h2:x.kind=c.kind:=h2;refine qT ?_;refine jC (a:=x.file) (b:=c.file) ?_;show dx.val _=_;rw[dU,hw,ak h0,an h2];rfl;have h2:¬x.kind=c.kind:=h2;show dx.val (.bool false)=_;rw[dU,hw,ak h0,ak h2];rfl
theorem IX (s:Bytes)(hs:s.length<=2^50):aq C 294 [.str s] (λr=>r=.val (.bool (iz s))):=by
 refine ai Tryz.func294 rfl rfl rfl ?_;refine bJ 63 (λk:Nat=>[(0,.p (.str s)),(6,.p (.int .i64 (s.length:Int))),(7,.p (.int .i64 k))]) (λ_=>[]) (λk=>k<=s.length/\∀i c,i<k->s[i]?=some c->oM c.toNat) (λk=>s.length-k) 0 ⟨zL,λi c h=>absurd h (jm _)⟩ rfl wS trivial ?_;rintro k ⟨hk,hall⟩;have hw:IntKind.i64.wrap ((k:Int)+1)=((k+1:Nat):Int):=by rw[wrap64 oO oO];omega
 refine aF (λhlt=>?_) (λhge=>?_)
 ·have hlt:k<s.length:=by have :(k:Int)<(s.length:Int):=hlt;omega
  obtain⟨c,hc⟩:∃c,s[k]?=some c:=⟨_,av hlt⟩;refine⟨oO,c,GI rfl hc,?_⟩;have bad:¬oM c.toNat->iz s=false:=λh=>jw (.inr (.inr (.inr (.inr ⟨c,bU hc,h⟩))));have good:oM c.toNat->k+1<=s.length/\∀i d,i<k+1->s[i]?=some d->oM d.toNat:=λh=>⟨hlt,λi d hi hd=>by by_cases hik:i=k;subst hik;rw[hc]at hd;obtain rfl:=au hd;exact h;exact hall i d oO hd⟩;refine⟨none,?_⟩;have ZL:¬oM c.toNat->dx.val (.bool false)=dx.val (.bool (iz s)):=λh=>by rw[bad h]
  repeat' (first|refine aF (λh=>?_) (λh=>?_)|refine cu (λh=>?_) (λh=>?_)|refine bH ?_)
  all_goals first|exact ZL (by unfold oM;omega)|exact⟨_,hw,aQ (k+1) (good (by unfold oM;omega)) oO rfl wS trivial⟩
 have hge:¬k<s.length:=by intro h;exact hge (show(k:Int)<(s.length:Int)by omega)
 have hn:∀c,c∈s->oM c.toNat:=λc hc=>by obtain⟨i,hi⟩:=iK hc;exact hall i c (by have :=(aJ.1 hi).1;omega) hi
 refine⟨none,?_⟩;refine Bv (λhne=>?_) (λhne=>?_);refine aF (λh2=>?_) (λh2=>?_);refine Bv (λh3=>?_) (λh3=>?_);refine Bv (λh4=>?_) (λh4=>?_);rw[Iw hne h3 h4 oO hn];exact rfl;rw[jw (.inr (.inr (.inl h4)))];exact rfl;rw[jw (.inr (.inl h3))];exact rfl;rw[jw (.inr (.inr (.inr (.inl oO))))];exact rfl;rw[jw (.inl hne)];exact rfl
theorem uc (c:UInt8):∀l:Bytes,(Lib.indexByte l c<0)↔c∉l
 |[]=>by simp[Lib.indexByte]
 |b::l=>by
  have ih:=uc c l;have hge:=Lib.indexByte_ge l c;unfold Lib.indexByte;by_cases hb:b=c;subst hb;simp;have hb':(b==c)=false:=by simpa using hb
  rw[hb'];simp only[sD,if_false,aK,not_or];by_cases h1:Lib.indexByte l c=-1;rw[h1];simp only[beq_self_eq_true,if_true];refine⟨λ_=>⟨λe=>hb e.symm,ih.1 oO⟩,λ_=>dD⟩;have :(Lib.indexByte l c==-1)=false:=by simpa using h1
  rw[this];simp only[sD,if_false];refine⟨λh=>oO,λh=>?_⟩;have :=ih.2 h.2;omega
theorem Dy (s:Bytes)(c:UInt8):aq C 232 [.str s,.int .u8 (c.toNat:Int)] (λr=>r=.val (.int .i64 (Lib.indexByte s c))):=by
 refine⟨⟨_,Tryz.func232,rfl,rfl⟩,λbk w vs hJ hn hi hl hr=>?_⟩;match vs,hl with
  |[v0,v1],_=>
   have h0:=hr 0 v0 _ rfl rfl;have h1:=hr 1 v1 _ rfl rfl;obtain rfl:v0=.string ⟨s.toArray⟩:=by cases h0;rfl
   obtain rfl:v1=.int .u8 (c.toNat:Int):=by cases h1;rfl
   refine(Tryz.strings_IndexByte ⟨s.toArray⟩ (c.toNat:Int) w).mono ?_;rintro e w' ⟨rfl,rfl⟩;have hc:((c.toNat:Int)).toNat.toUInt8=c:=by simp
   exact⟨_,_,rfl,rfl,by rw[hc];exact .int _ _,RowKit.Below.refl _ _⟩
theorem WK (s:Bytes)(hs:s.length<=2^47):aq C 165 [.str s] (λr=>r=.val (.bool (qi s))):=by
 have key:∀x:UInt8,x∉s↔(s.all λc=>c !=x)=true:=λx=>by rw[bA];exact⟨λh c hc=>by simp only[bne_iff_ne,ne_eq];exactλe=>h (e▸hc),λh hm=>by simpa using h x hm⟩
 have lU:ze s 10 0=((s.all λc=>c !=10)&&(s.all λc=>c !=0)):=by unfold ze;rw[om];simp only[bA,br];exact⟨λh=>⟨λc hc=>(h c hc).1,λc hc=>(h c hc).2⟩,λh c hc=>⟨h.1 c hc,h.2 c hc⟩⟩
 refine ai Tryz.func165 rfl rfl rfl ?_;refine⟨none,?_⟩;unfold qi;rw[lU];refine aF (λh=>?_) (λh=>?_);have h:s.length<=1000:=by have :(s.length:Int)<=1000:=h;omega
 refine cl (Dy s 10) ?_;refine aF (λh2=>?_) (λh2=>?_);have h2:=(key 10).1 ((uc 10 s).1 h2);refine cl (Dy s 0) ?_;refine aF (λh3=>?_) (λh3=>?_);have h3:=(key 0).1 ((uc 0 s).1 h3);show dx.val _=_;simp only[h,h2,h3,decide_true,Bool.and_self];have h3:(s.all λc=>c !=0)=false:=by
  cases hq:s.all λc=>c !=0 with
  |false=>rfl
  |true=>exact absurd ((uc 0 s).2 ((key 0).2 hq)) h3
 show dx.val _=_;simp only[h3,Bool.and_false];have h2:(s.all λc=>c !=10)=false:=by
  cases hq:s.all λc=>c !=10 with
  |false=>rfl
  |true=>exact absurd ((uc 10 s).2 ((key 10).2 hq)) h2
 show dx.val _=_;simp only[h2,Bool.and_false,xh];have h:¬s.length<=1000:=by have :¬(s.length:Int)<=1000:=h;omega
 show dx.val _=_;simp only[h,decide_false,xh]
def xW (p:gr):Int:=if iz p.fq=false then 5 else if 1000<p.message.length then 4 else if p.time<0\/1099511627776<p.time then 2 else if mY p.deps≠0 then mY p.deps else if p.changes.length=0 then 1 else if 400<p.changes.length then 4 else 0
theorem SS (p:gr):dM p=if xW p≠0 then([],xW p)else iF p.changes []:=by unfold dM xW;by_cases h1:iz p.fq=false;simp only[ag h1];rfl;simp only[af h1];by_cases h2:1000<p.message.length;simp only[ag h2];rfl;simp only[af h2];by_cases h3:p.time<0\/1099511627776<p.time;simp only[ag h3];rfl;simp only[af h3];by_cases h4:mY p.deps≠0;simp only[ag h4];simp only[af h4];by_cases h5:p.changes.length=0;simp only[ag h5];rfl;simp only[af h5];by_cases h6:400<p.changes.length;simp only[ag h6];rfl;simp only[af h6];rfl
theorem aaK (p:gr)(hz:RC p):aq C 249 [.agg (cP p)] (λr=>r=.val (.int .i64 (xW p))):=by
 obtain⟨fq,message,time,deps,changes⟩:=p;have hza:=hz.fq;have hzd:=hz.deps;have Cf:=hz.len;obtain⟨E,hE⟩:∃E,xW ⟨fq,message,time,deps,changes⟩=E:=⟨_,rfl⟩;rw[hE];unfold xW at hE;simp only at hE hza hzd Cf;refine ai Tryz.func249 rfl rfl rfl ?_;refine cl (IX fq oO) ?_;refine bH ?_;cases hn:iz fq with
 |false=>rw[ag hn]at hE;subst hE;exact rfl
 |true=>
  rw[af (by rw[hn];decide)]at hE;refine aF (λh=>?_) (λh=>?_);rw[ag (show 1000<message.length by have :(message.length:Int)>1000:=h;omega)]at hE;subst hE;exact rfl;rw[af (show¬1000<message.length by have :¬(message.length:Int)>1000:=h;omega)]at hE;refine⟨none,?_⟩;refine aF (λh=>?_) (λh3=>?_);rw[ag (show time<0\/1099511627776<time from .inl h)]at hE;subst hE;exact rfl;refine aF (λh=>?_) (λh4=>?_);rw[ag (show time<0\/1099511627776<time from .inr h)]at hE;subst hE;exact rfl;rw[af (show¬(time<0\/1099511627776<time)fromλg=>g.elim h3 h4)]at hE;have he:(((deps.map cD).length:Nat):Int)=(deps.length:Int):=by rw[ah]
  refine aF (λh=>?_) (λh=>?_);have h1:100<deps.length:=by have :(((deps.map cD).length:Nat):Int)>100:=h;omega
  have hd:mY deps=4:=by rw[mY,ag h1]
  rw[ag (by rw[hd];decide),hd]at hE;subst hE;exact rfl;have h1:¬100<deps.length:=by have :¬(((deps.map cD).length:Nat):Int)>100:=h;omega
  refine bJ 64 (λk:Nat=>[(1,.ptr 1 0),(31,.p (.sl (deps.map cD))),(32,.p (.int .i64 ((deps.map cD).length:Int))),(33,.p (.int .i64 k))]) (λ_=>[(1,aG (cP ⟨fq,message,time,deps,changes⟩))]) (λk=>k<=deps.length/\∀i,i<k->zh deps i=0) (λk=>deps.length-k) 0 ⟨zL,λi h=>absurd h (jm _)⟩ rfl wS oS ?_;rintro k ⟨hk,hall⟩;refine cg (λhlt=>?_) (λhge=>?_)
  ·have hb:=Nk hlt;have bad:zh deps k≠0->dx.val (.int .i64 (zh deps k))=dx.val (.int .i64 E):=λh=>by
    have hd:mY deps=zh deps k:=by rw[mY,af h1,wZ (zh deps) deps.length k hlt hall h]
    rw[ag (by rw[hd];exact h),hd]at hE;rw[hE]
   have next:zh deps k=0->k+1<=deps.length/\∀i,i<k+1->zh deps i=0:=λh=>⟨hlt,λi hi=>by by_cases hik:i=k;rw[hik];exact h;exact hall i oO⟩;refine ix hlt ?_;refine⟨qC,bY,lC,rfl,rfl,?_⟩;refine By (a:=deps[k]) (b:=aV) ?_;by_cases hz:deps[k]=aV;rw[an hz];rw[ag hz]at hb;have :=bad (by rw[hb];decide);rw[hb]at this;exact this;rw[ak hz];rw[af hz]at hb;refine bW 13 kK ?_;refine aF (λh0=>?_) (λh0=>?_)
   ·have h0:0<k:=by have :(k:Int)>0:=h0;omega
    have hlt':k-1<deps.length:=oO
    have hg:deps.getD (k-1) aV=deps[k-1]:=by simp[List.getD,hlt']
    rw[hg]at hb;refine nx (k-1) ?_;refine ix hlt' ?_;refine⟨_,Dq deps[k-1] deps[k],?_⟩;refine aF (λh2=>?_) (λh2=>?_);rw[ag ⟨h0,h2⟩]at hb;have :=bad (by rw[hb];decide);rw[hb]at this;exact this;rw[af λh=>h2 h.2]at hb;exact nx (k+1) (aQ (k+1) (next hb) oO rfl wS oS)
   have h0:¬0<k:=by have :¬(k:Int)>0:=h0;omega
   rw[af λh=>h0 h.1]at hb;exact nx (k+1) (aQ (k+1) (next hb) oO rfl wS oS)
  have hd:mY deps=0:=by rw[mY,af h1];exact uW _ _ λi hi=>hall i oO
  rw[af (by rw[hd];decide)]at hE;have hec:(((changes.map cC).length:Nat):Int)=(changes.length:Int):=by rw[ah]
  refine aB (λh=>?_) (λh=>?_);rw[ag (by have :(((changes.map cC).length:Nat):Int)=0:=h;omega)]at hE;subst hE;exact rfl;rw[af (by have :¬(((changes.map cC).length:Nat):Int)=0:=h;omega)]at hE;refine aF (λh=>?_) (λh=>?_);rw[ag (by have :(((changes.map cC).length:Nat):Int)>400:=h;omega)]at hE;subst hE;exact rfl;rw[af (by have :¬(((changes.map cC).length:Nat):Int)>400:=h;omega)]at hE;subst hE;exact rfl
def aaL (l:List Int):List (List AV):=l.map λn=>[.int .i64 n]
def pz (x:Int):List Int->Int|[]=>-1|y::l=>if x=y then 0 else if pz x l<0 then-1 else pz x l+1
theorem EN (x:Int):∀l,-1<=pz x l|[]=>Int.le_refl _|y::l=>by have :=EN x l;unfold pz;split;omega;split<;>omega
theorem IY (x:Int):∀(a b:List Int),x∉a->pz x (a++b)=if pz x b<0 then-1 else pz x b+a.length
 |[],b,h=>by have :=EN x b;simp only[gx,bn];split<;>omega
 |y::a,b,h=>by have hx:x≠y:=λe=>h (by rw[e];simp);have ih:=IY x a b (λhm=>h (by simp[hm]));rw[dm,pz,af hx,ih];have :=EN x b;simp only[aR];split;rename_i h1;rw[ag oO];rename_i h1;rw[af oO];omega
theorem zq (x:Int):∀(a:List Int),x∉a->pz x a=-1|[],h=>rfl|y::a,h=>by have hx:x≠y:=λe=>h (by rw[e];simp);rw[pz,af hx,zq x a (λhm=>h (by simp[hm]))];rfl
theorem IZ (x:Int)(l:List Int):(0<=pz x l)↔x∈l:=by
 constructor;intro h;refine ia λhn=>?_;rw[zq x l hn]at h;omega;intro h;induction l with
 |nil=>cases h
 |cons y l ih=>unfold pz;split;omega;rename_i hne;rcases aK.1 h with rfl|h;exact absurd rfl hne;have :=ih h;rw[af oO];omega
theorem aaM (l:List Int)(x:Int)(hl:l.length<=2^40):aq C 346 [.sl (aaL l),.int .i64 x] (λr=>r=.val (.int .i64 (pz x l))):=by
 unfold aaL;refine ai Tryz.func346 rfl rfl rfl ?_;refine bJ 19 (λk:Nat=>[(0,.p (.sl (l.map λn=>[.int .i64 n]))),(1,.p (.int .i64 x)),(7,.p (.int .i64 ((l.map λn=>[AV.int .i64 n]).length:Int))),(8,.p (.int .i64 k))]) (λ_=>[]) (λk=>k<=l.length/\x∉l.take k) (λk=>l.length-k) 0 ⟨zL,by simp⟩ rfl wS trivial ?_;rintro k ⟨hk,hx⟩;refine cg (λhlt=>?_) (λhge=>?_);refine ix hlt ?_;refine aB (λh=>?_) (λh=>?_);have h:x=l[k]:=h;have e:l=l.take k++l[k]::l.drop (k+1):=by rw[List.getElem_cons_drop,dI]
 have :pz x l=k:=by
  conv=>lhs;rw[e]
  rw[IY x _ _ hx,pz,ag h,af oO,aL];omega
 rw[this];exact rfl;exact nx (k+1) (aQ (k+1) ⟨hlt,wW hlt hx (λe=>h e.symm)⟩ oO rfl wS trivial);obtain rfl:k=l.length:=oO
 rw[aU]at hx;rw[zq x l hx];exact rfl
theorem Nw (l:List Int)(x:Int)(hl:l.length<=2^40):aq C 325 [.sl (aaL l),.int .i64 x] (λr=>r=.val (.bool (decide (x∈l)))):=by refine ai Tryz.func325 rfl rfl rfl ?_;refine cl (aaM l x hl) ?_;refine aF (λh=>?_) (λh=>?_);rw[an ((IZ x l).1 h)];exact rfl;rw[ak λhm=>h ((IZ x l).2 hm)];exact rfl
theorem WL (l:List Int)(x:Int)(hl:l.length<=2^40):aq C 324 [.sl (aaL l),.imp [.int .i64 x]] (λr=>r=.val (.bool (decide (x∈l)))):=by refine ai Tryz.func324 rfl rfl rfl ?_;refine cl (Nw l x hl) ?_;exact rfl
theorem iB (l:List Int)(x:Int)(b:Bool)(hl:l.length<=2^40)(h:decide (x∈l)=b):aq C 324 [.sl (aaL l),.imp [.int .i64 x]] (λr=>r=.val (.bool b)):=by subst h;exact WL l x hl
theorem vn.dz {C:Ctx}{e:Extra}{l:List Nat}{f:FuncId}{args:List AV}{bs:List UInt8}{out:Option (List UInt8)}{r:AV}(h:vn C f args bs out r):vn ((C.cut l).open e) f args bs out r:=h
theorem Lu {bs s:Bytes}(hlen:bs.length+s.length<=140737488355328):vn C 350 [.str s] bs (some (bs++s)) (.eW [.int .i64 s.length,.tH]):=Qt aij Qu rfl rfl rfl Tryz.func350 rfl rfl hlen
theorem EO {bs:Bytes}{c:UInt8}(hlen:bs.length+1<=140737488355328):vn C 351 [.int .u8 c.toNat] bs (some (bs++[c])) .tH:=Gu aik Qw rfl rfl rfl Tryz.func351 rfl rfl hlen
theorem ad4 {bs:Bytes}:vn C 339 [] bs none (.str bs):=NC Tryz.lays169 Tryz.Builder_Extra_169 rfl rfl rfl Tryz.func339 rfl rfl
theorem agz (x:Sx):∀n d:Nat,n+nX x<=20000->d+dX x<=13->Hg C 348 [.int .i64 (n:Int),.bool false] [.agg (cX x),.int .i64 (d:Int)] (λr ys=>r=.eW []/\ys=[.int .i64 ((n+nX x:Nat):Int),.bool false]):=by
 induction x using Sx.ind with
 |h1 s=>intro n d h1 h2;have h1:n+1<=20000:=h1;have h2:d+1<=13:=h2;refine De qu [] Tryz.func348 rfl rfl rfl ?_;refine nx (n+1) ?_;refine⟨none,?_⟩;refine aF (λh=>absurd h oO) (λ_=>?_);refine aF (λh=>absurd h oO) (λ_=>?_);refine bH ?_;exact⟨rfl,rfl,rfl⟩
 |h2 l ih=>
  intro n d h1 h2;have h1:n+(1+td l)<=20000:=h1;have h2:d+(1+UB l)<=13:=h2;have hlen:=wX l;refine De qu [] Tryz.func348 rfl rfl rfl ?_;refine nx (n+1) ?_;refine⟨none,?_⟩;refine aF (λh=>absurd h oO) (λ_=>?_);refine aF (λh=>absurd h oO) (λ_=>?_);refine bH ?_;refine bJ 47 (λk:Nat=>[(0,.ptr 999999 0),(2,.p (.int .i64 (d:Int))),(31,.p (.sl (mJ l))),(32,.p (.int .i64 ((mJ l).length:Int))),(33,.p (.int .i64 k))]) (λk=>[(999999,aG [.int .i64 ((n+1+td (l.take k):Nat):Int),.bool false])]) (λk=>k<=l.length) (λk=>l.length-k) 0 (zL) rfl wS oS ?_;intro k hk;refine EK (λhlt=>?_) (λhge=>?_)
  ·have hm:=aO hlt;have hs:=vH hlt;have ht2:=nF l (k+1);have hi:=ih l[k] hm (n+1+td (l.take k)) (d+1) oO (by have :=Nb hm;omega);have jD:=Wt hlt;have he:n+1+td (l.take k)+nX l[k]=n+1+td (l.take (k+1)):=oO
   rw[he]at hi;generalize l[k]=y at hi jD;cases y;all_goals refine⟨oO,_,jD,rfl,?_⟩;refine nx (d+1) ?_;refine .inr (.inr ⟨_,hi.dz,λr ys hr=>?_⟩);obtain⟨rfl,rfl⟩:=hr;exact nx (k+1) (aQ (k+1) hlt oO rfl wS oS)
  have :k=l.length:=oO
  subst this;rw[aU];exact⟨rfl,rfl,by rw[show nX (.list l)=1+td l from rfl,fH]⟩
theorem aa1 (x:Sx):aX x<=65536->nX x<=2^20->aq C 349 [.agg (cX x)] (λr=>r=.val (.int .i64 0)):=by
 induction x using Sx.ind with
 |h1 s=>intro h1 _;have h1:s.length<=65536:=h1;refine ai Tryz.func349 rfl rfl rfl ?_;refine⟨none,?_⟩;refine bH ?_;refine aF (λh=>absurd h dD) (λ_=>?_);refine aF (λh=>absurd h oO) (λ_=>?_);refine bJ 43 (λk:Nat=>[(31,.p (.sl [])),(32,.p (.int .i64 0)),(33,.p (.int .i64 k))]) (λ_=>[]) (λk=>k=0) (λk=>k) 0 rfl rfl wS trivial ?_;intro k hk;subst hk;refine aF (λh=>absurd h dD) (λ_=>?_);exact rfl
 |h2 l ih=>
  intro h1 h2;have h1:aXs l<=65536:=h1;have h2:1+td l<=2^20:=h2;have hlen:=wX l;refine ai Tryz.func349 rfl rfl rfl ?_;refine⟨none,?_⟩;refine Bv (λh=>absurd rfl h) (λ_=>?_);refine bH ?_;refine aF (λh=>absurd h dD) (λ_=>?_);refine bJ 43 (λk:Nat=>[(31,.p (.sl (mJ l))),(32,.p (.int .i64 ((mJ l).length:Int))),(33,.p (.int .i64 k))]) (λ_=>[]) (λk=>k<=l.length) (λk=>l.length-k) 0 (zL) rfl wS trivial ?_;intro k hk;refine EK (λhlt=>?_) (λhge=>?_)
  ·have hm:=aO hlt;have hs:=vH hlt;have ht2:=nF l (k+1);have hi:=ih l[k] hm (by have :=GJ hm;omega) oO;have jD:=Wt hlt;generalize l[k]=y at hi jD hs;cases y;all_goals refine⟨oO,_,jD,rfl,?_⟩;refine cl hi ?_;refine cu (λh=>absurd rfl h) (λ_=>?_);exact nx (k+1) (aQ (k+1) hlt oO rfl wS trivial)
  exact rfl
theorem WS (x:Sx)(h1:nX x<=20000)(h2:dX x<=12)(h3:aX x<=65536):aq C 337 [.agg (cX x)] (λr=>r=.val (.int .i64 0)):=by have ha:=agz x 0 1 oO oO;have hk:=aa1 x h3 oO;cases x;all_goals refine ai Tryz.func337 rfl rfl rfl ?_;refine .inr (.inr ⟨_,ha,λr ys hr=>?_⟩);obtain⟨rfl,rfl⟩:=hr;refine cl hk ?_;exact rfl
theorem ad5 (x:Sx):∀bs:Bytes,bs.length+(eX x).length<=2^46->nX x<=2^20->vn C 338 [.agg (cX x)] bs (some (bs++eX x)) (.eW []):=by
 induction x using Sx.ind with
 |h1 s=>intro bs h1 _;have h1:bs.length+(Lib.itoa (s.length:Int)++[58]++s).length<=2^46:=h1;simp only[ay,aR,bn]at h1;refine AY qu [] Tryz.func338 rfl rfl rfl ?_;refine bH ?_;refine cl (Qk (s.length:Int) oO oO).dz ?_;refine⟨_,_,(Lu oO).dz,?_⟩;refine⟨_,_,(EO (c:=58) (by simp only[ay];omega)).dz,?_⟩;refine⟨_,_,(Lu (by simp only[ay,aR,bn];omega)).dz,?_⟩;exact⟨rfl,by show some _=some _;rw[show eX (.atom s)=Lib.itoa (s.length:Int)++[58]++s from rfl];simp only[bu]⟩
 |h2 l ih=>
  intro bs h1 h2;have h1:bs.length+([40]++JN l++[41]).length<=2^46:=h1;have h2:1+td l<=2^20:=h2;simp only[ay,aR,bn]at h1;have hlen:=wX l;refine AY qu [] Tryz.func338 rfl rfl rfl ?_;refine bH ?_;refine⟨_,_,(EO (c:=40) oO).dz,?_⟩;refine afa 36 (λk:Nat=>[(0,.ptr 999999 0),(24,.p (.sl (mJ l))),(25,.p (.int .i64 ((mJ l).length:Int))),(26,.p (.int .i64 k))]) (λ_=>[]) (λk=>[(999999,bs++([40]++JN (l.take k)))]) (λk=>k<=l.length) (λk=>l.length-k) 0 (zL) rfl wS trivial ⟨rfl,trivial⟩ ?_;intro k hk;refine EK (λhlt=>?_) (λhge=>?_)
  ·have hm:=aO hlt;have hs:=vH hlt;have he:=Qa hlt;have hel:=bg List.length he;rw[ay]at hel;have ht2:=nF l (k+1);have hb:=FL l (k+1);have hi:=ih l[k] hm (bs++([40]++JN (l.take k))) (by simp only[ay,aR,bn];omega) oO;rw[show bs++([40]++JN (l.take k))++eX l[k]=bs++([40]++JN (l.take (k+1)))from by rw[he];simp only[bu]]at hi;have jD:=Wt hlt;generalize l[k]=y at hi jD;cases y;all_goals refine⟨oO,_,jD,rfl,?_⟩;refine⟨_,_,hi.dz,?_⟩;exact nx (k+1) (ahY (k+1) hlt oO rfl wS trivial ⟨rfl,trivial⟩)
  have :k=l.length:=oO
  subst this;rw[aU];refine⟨_,_,(EO (c:=41) (by simp only[ay,aR,bn];omega)).dz,?_⟩;exact⟨rfl,by show some _=some _;rw[show eX (.list l)=[40]++JN l++[41]from rfl];simp only[bu]⟩
theorem SY (x:Sx)(h:ZT x):aq C 300 [.agg (cX x)] (λr=>r=.val (.eW [.str (eX x),.int .i64 0])):=by have hc:=WS x h.nodes h.depth h.atoms;have hk:=ad5 x [] (by have :=h.len;simp only[bn];omega) (by have :=h.nodes;omega);rw[gx]at hk;clear h;cases x;all_goals refine ai Tryz.func300 rfl rfl rfl ?_;refine cl hc ?_;refine cu (λh=>absurd rfl h) (λ_=>?_);refine⟨_,_,hk,?_⟩;refine⟨_,_,ad4,?_⟩;exact rfl
theorem akR (x:bV):(((cI x).take 32).drop 0).map (λx=>[x])=iV x.p.1:=SC x.p
theorem lM (x:bV):aq C 328 [.agg (cI x)] (λr=>r=.val (.agg (cX (bP x)))):=by refine aY {qu with fzo:=[3]} [] Tryz.func328 rfl rfl rfl ?_;refine cl (fD x).dz ?_;unfold bP ni;by_cases h:x.p=aV;rw[an h,show dgB x.p=[]from ag h];refine bW 3 kK ?_;refine⟨_,(qt []).dz,?_⟩;refine cl (Ai x.n).dz ?_;refine cl (IW [.atom [],cM x.n]).dz ?_;exact rfl;rw[ak h,show dgB x.p=x.p.1 from af h];refine⟨[1],dy (cells:=aG (cI x)) (ys:=cI x) rfl (bC _) rfl ?_⟩;refine bW 6 kK ?_;refine⟨.p (.sl (iV x.p.1)),⟨dD,dD,rfl,(by show 32<=33;decide),_,akR x,rfl⟩,?_⟩;refine⟨.p (.str x.p.1),⟨x.p.1,rfl,rfl⟩,?_⟩;refine⟨_,(qt x.p.1).dz,?_⟩;refine cl (Ai x.n).dz ?_;refine cl (IW [.atom x.p.1,cM x.n]).dz ?_;exact rfl
abbrev gX (t:Nat)(l:List Sx):List FV:=[.p (.bool true),.p (.str []),.fM t 261 3 (mJ l)]
theorem ad6 {aI:List (Nat×List FV)}{o t:Nat}(h:Qv.getObj aI o=some [.p (.bool true),.p (.str []),.full []]):∃ys,Qv.getObj aI o=some ys/\ys.length=(gX t []).length/\∀(i:Nat)(x y:FV),ys[i]?=some x->(gX t [])[i]?=some y->bh x y:=⟨_,h,rfl,λi x y h1 h2=>by
 match i,h1,h2 with
  |0,h1,h2=>cases h1;cases h2;exact bh.refl _
  |1,h1,h2=>cases h1;cases h2;exact bh.refl _
  |2,h1,h2=>cases h1;cases h2;exact bh.jK _ _ _
  |n+3,h1,h2=>simp at h1⟩
theorem zA (l:List bV)(hl:l.length<=2^40):aq C 329 [.sl (oF l)] (λr=>r=.val (.agg (cX (rU l)))):=by
 unfold oF;refine aY {qu with inl:=[296]} [] Tryz.func329 rfl rfl rfl ?_;refine .inl ⟨_,Tryz.func296,rfl,rfl,rfl,?_⟩;refine bJ 22 (λk:Nat=>[(2,.ptr 2 0),(3,.ptr 3 0),(7,.p (.sl (l.map cI))),(8,.p (.int .i64 ((l.map cI).length:Int))),(9,.p (.int .i64 k))]) (λk=>[(2,zX),(3,gX 18 ((l.take k).map bP))]) (λk=>k<=l.length) (λk=>l.length-k) 0 (zL) rfl wS ⟨aH rfl,ad6 rfl,trivial⟩ ?_;intro k hk;refine cg (λhlt=>?_) (λhge=>?_);refine ix hlt ?_;refine bW 5 kK ?_;refine⟨_,(lM l[k]).dz,?_⟩;refine⟨.full [cX (bP l[k])],rfl,?_⟩;refine⟨gz _,gz [bP l[k]],by show((mJ ((l.take k).map bP)).length+1)*48<=_;rw[rI,ah,aL];omega,mJ ((l.take (k+1)).map bP),by rw[cm hlt,<-uP];rfl,?_⟩;exact nx (k+1) (aQ (k+1) hlt oO rfl wS oS);obtain rfl:k=l.length:=oO
 rw[aU];exact rfl
theorem WT (l:List Bytes)(hl:l.length<=2^40):aq C 333 [PI l] (λr=>r=.val (.agg (cX (RD l)))):=by
 unfold PI;refine aY {qu with inl:=[296]} [] Tryz.func333 rfl rfl rfl ?_;refine .inl ⟨_,Tryz.func296,rfl,rfl,rfl,?_⟩;refine bJ 22 (λk:Nat=>[(2,.ptr 2 0),(3,.ptr 3 0),(7,.p (.sl (l.map mT))),(8,.p (.int .i64 ((l.map mT).length:Int))),(9,.p (.int .i64 k))]) (λk=>[(2,zX),(3,gX 18 ((l.take k).map Sx.atom))]) (λk=>k<=l.length) (λk=>l.length-k) 0 (zL) rfl wS ⟨aH rfl,ad6 rfl,trivial⟩ ?_;intro k hk;refine cg (λhlt=>?_) (λhge=>?_);refine ix hlt ?_;refine bW 5 kK ?_;refine⟨_,(qt l[k]).dz,?_⟩;refine⟨.full [cX (Sx.atom l[k])],rfl,?_⟩;refine⟨gz _,gz [Sx.atom l[k]],by show((mJ ((l.take k).map Sx.atom)).length+1)*48<=_;rw[rI,ah,aL];omega,mJ ((l.take (k+1)).map Sx.atom),by rw[cm hlt,<-uP];rfl,?_⟩;exact nx (k+1) (aQ (k+1) hlt oO rfl wS oS);obtain rfl:k=l.length:=oO
 rw[aU];exact rfl
theorem ad7 (c:dn)(ho:c.over.length<=2^40)(hl:c.lines.length<=2^40):aq C 326 [.agg (cC c)] (λr=>r=.val (.sl (mJ [cM c.type]))):=by refine ai Tryz.func326 rfl rfl rfl ?_;refine cl (Ai c.type) ?_;exact .inr rfl
theorem ad8 (c:dn)(ho:c.over.length<=2^40)(hl:c.lines.length<=2^40):aq C 327 [.agg (cC c)] (λr=>r=.val (.sl (mJ [bP c.file,bP c.parent,.atom c.name,rU c.over]))):=by refine ai Tryz.func327 rfl rfl rfl ?_;refine bW 12 kK ?_;refine⟨_,lM c.file,?_⟩;refine⟨_,lM c.parent,?_⟩;refine⟨_,qt c.name,?_⟩;refine⟨_,zA c.over ho,?_⟩;exact .inr rfl
theorem ad9 (c:dn)(ho:c.over.length<=2^40)(hl:c.lines.length<=2^40):aq C 330 [.agg (cC c)] (λr=>r=.val (.sl (mJ [bP c.file,cM c.mode,rU c.over]))):=by refine ai Tryz.func330 rfl rfl rfl ?_;refine bW 9 kK ?_;refine⟨_,lM c.file,?_⟩;refine⟨_,Ai c.mode,?_⟩;refine⟨_,zA c.over ho,?_⟩;exact .inr rfl
theorem aea (c:dn)(ho:c.over.length<=2^40)(hl:c.lines.length<=2^40):aq C 331 [.agg (cC c)] (λr=>r=.val (.sl (mJ [bP c.file,.atom c.data,rU c.over]))):=by refine ai Tryz.func331 rfl rfl rfl ?_;refine bW 9 kK ?_;refine⟨_,lM c.file,?_⟩;refine⟨_,qt c.data,?_⟩;refine⟨_,zA c.over ho,?_⟩;exact .inr rfl
theorem aeb (c:dn)(ho:c.over.length<=2^40)(hl:c.lines.length<=2^40):aq C 332 [.agg (cC c)] (λr=>r=.val (.sl (mJ [bP c.file,bP c.cS,bP c.cZ,RD c.lines]))):=by refine ai Tryz.func332 rfl rfl rfl ?_;refine bW 12 kK ?_;refine⟨_,lM c.file,?_⟩;refine⟨_,lM c.cS,?_⟩;refine⟨_,lM c.cZ,?_⟩;refine⟨_,WT c.lines hl,?_⟩;exact .inr rfl
theorem aec (c:dn)(ho:c.over.length<=2^40)(hl:c.lines.length<=2^40):aq C 334 [.agg (cC c)] (λr=>r=.val (.sl (mJ [bP c.file,bP c.cS,bP c.cZ,rU c.over]))):=by refine ai Tryz.func334 rfl rfl rfl ?_;refine bW 12 kK ?_;refine⟨_,lM c.file,?_⟩;refine⟨_,lM c.cS,?_⟩;refine⟨_,lM c.cZ,?_⟩;refine⟨_,zA c.over ho,?_⟩;exact .inr rfl
theorem aed (c:dn)(ho:c.over.length<=2^40)(hl:c.lines.length<=2^40):aq C 335 [.agg (cC c)] (λr=>r=.val (.sl (mJ [rU c.over]))):=by refine ai Tryz.func335 rfl rfl rfl ?_;refine cl (zA c.over ho) ?_;exact .inr rfl
def Kw:List AV:=[.int .i64 1,.int .i64 2,.int .i64 3,.int .i64 4,.int .i64 5,.int .i64 6,.int .i64 7]
def Kx:List AV:=[.fn (.func 326) [] [],.fn (.func 327) [] [],.fn (.func 330) [] [],.fn (.func 331) [] [],.fn (.func 332) [] [],.fn (.func 334) [] [],.fn (.func 335) [] []]
theorem vK:eZ Tryz.prog 40 3=some [.int .i64]:=kK
theorem jR {L:List gJ}{l:List (AV×FV)}(h:(l.all λp=>gL false L p.1)=true):∀p,p∈l->gL false L p.1=true:=λp hp=>bA.1 h p hp
theorem SZ:aq C 298 [] (λr=>r=.val (.mp Kw Kx)):=by refine ai Tryz.func298 rfl rfl rfl ?_;refine⟨[.int .i64],vK,rfl,(λp hp=>nomatch hp),_,rfl,?_⟩;refine⟨[.int .i64],vK,rfl,jR rfl,_,rfl,?_⟩;refine⟨[.int .i64],vK,rfl,jR rfl,_,rfl,?_⟩;refine⟨[.int .i64],vK,rfl,jR rfl,_,rfl,?_⟩;refine⟨[.int .i64],vK,rfl,jR rfl,_,rfl,?_⟩;refine⟨[.int .i64],vK,rfl,jR rfl,_,rfl,?_⟩;refine⟨[.int .i64],vK,rfl,jR rfl,_,rfl,?_⟩;exact⟨_,_,⟨_,rfl,rfl,rfl⟩,rfl⟩
theorem Lz:∀a:Bytes,cmpL a a=0|[]=>rfl|x::a=>by show(if x.toNat<x.toNat then-1 else if x.toNat<x.toNat then 1 else cmpL a a)=(0:Int);rw[af (xu _),af (xu _)];exact Lz a
theorem agB {x y:UInt8}(h1:¬x.toNat<y.toNat)(h2:¬y.toNat<x.toNat):x=y:=UInt8.toNat_inj.1 oO
theorem LA:∀{a b:Bytes},cmpL a b=0->a=b|[],[],_=>rfl|[],_::_,h=>absurd h (show¬(-1:Int)=0 by decide)|_::_,[],h=>absurd h (show¬(1:Int)=0 by decide)|x::a,y::b,h=>by have h:(if x.toNat<y.toNat then-1 else if y.toNat<x.toNat then 1 else cmpL a b)=(0:Int):=h;by_cases h1:x.toNat<y.toNat;rw[ag h1]at h;exact absurd h dD;rw[af h1]at h;by_cases h2:y.toNat<x.toNat;rw[ag h2]at h;exact absurd h dD;rw[af h2]at h;rw[agB h1 h2,LA h]
theorem LB:∀a b:Bytes,cmpL b a=-cmpL a b|[],[]=>rfl|[],_::_=>rfl|_::_,[]=>rfl|x::a,y::b=>by show(if y.toNat<x.toNat then-1 else if x.toNat<y.toNat then 1 else cmpL b a)=-(if x.toNat<y.toNat then-1 else if y.toNat<x.toNat then 1 else cmpL a b);by_cases h1:x.toNat<y.toNat;rw[ag h1,ag h1,af oO];rfl;rw[af h1,af h1];by_cases h2:y.toNat<x.toNat;rw[ag h2,ag h2];rw[af h2,af h2];exact LB a b
theorem Je:∀{a b c:Bytes},cmpL a b<0->cmpL b c<0->cmpL a c<0
 |[],[],_,h,_=>absurd h dD
 |[],_::_,[],_,h=>absurd h (by show¬(1:Int)<0;decide)
 |[],_::_,_::_,_,_=>by show(-1:Int)<0;decide
 |_::_,[],_,h,_=>absurd h (by show¬(1:Int)<0;decide)
 |_::_,_::_,[],_,h=>absurd h (by show¬(1:Int)<0;decide)
 |x::a,y::b,z::c,h1,h2=>by have h1:(if x.toNat<y.toNat then-1 else if y.toNat<x.toNat then 1 else cmpL a b)<(0:Int):=h1;have h2:(if y.toNat<z.toNat then-1 else if z.toNat<y.toNat then 1 else cmpL b c)<(0:Int):=h2;show(if x.toNat<z.toNat then-1 else if z.toNat<x.toNat then 1 else cmpL a c)<(0:Int);by_cases k1:x.toNat<y.toNat;by_cases k2:y.toNat<z.toNat;rw[ag oO];decide;rw[af k2]at h2;by_cases k3:z.toNat<y.toNat;rw[ag k3]at h2;exact absurd h2 dD;rw[ag oO];decide;rw[af k1]at h1;by_cases k4:y.toNat<x.toNat;rw[ag k4]at h1;exact absurd h1 dD;rw[af k4]at h1;by_cases k2:y.toNat<z.toNat;rw[ag oO];decide;rw[af k2]at h2;by_cases k3:z.toNat<y.toNat;rw[ag k3]at h2;exact absurd h2 dD;rw[af k3]at h2;rw[af oO,af oO];exact Je h1 h2
theorem rj (a:Dg):ee a a=0:=Lz _
theorem kf {a b:Dg}(h:ee a b=0):a=b:=Subtype.ext (LA h)
theorem lN (a b:Dg):ee b a=-ee a b:=LB _ _
theorem ij {a b c:Dg}(h1:ee a b<0)(h2:ee b c<0):ee a c<0:=Je h1 h2
theorem gP (a:Dg):¬ee a a<0:=by rw[rj];decide
theorem WY (a:bV):gV a a=0:=by unfold gV;rw[rj];simp
theorem vN {a b:bV}(h:gV a b=0):a=b:=by unfold gV at h;by_cases h1:ee a.p b.p≠0;rw[ag h1]at h;exact absurd h h1;rw[af h1]at h;have h1:a.p=b.p:=kf (fA.1 h1);by_cases h2:a.n<b.n;rw[ag h2]at h;exact absurd h dD;rw[af h2]at h;by_cases h3:b.n<a.n;rw[ag h3]at h;exact absurd h dD;cases a;cases b;simp only[bV.mk.injEq];exact⟨h1,by show _=_;simp only at h2 h3;omega⟩
theorem pO (a b:bV):gV b a=-gV a b:=by unfold gV;rw[lN a.p b.p];by_cases h1:ee a.p b.p=0;rw[af (show¬(-ee a.p b.p≠0)by omega),af (show¬(ee a.p b.p≠0)by omega)];by_cases h2:a.n<b.n;rw[ag h2,ag h2,af oO];rfl;rw[af h2,af h2];by_cases h3:b.n<a.n;rw[ag h3,ag h3];rw[af h3,af h3];rfl;rw[ag (show-ee a.p b.p≠0 by omega),ag h1]
theorem rq {a b c:bV}(h1:gV a b<0)(h2:gV b c<0):gV a c<0:=by unfold gV at*;by_cases k1:ee a.p b.p=0;rw[af (λg=>g k1)]at h1;have e1:=kf k1;rw[e1];by_cases k2:ee b.p c.p=0;rw[af (λg=>g k2)]at h2⊢;by_cases q1:a.n<b.n;by_cases q2:b.n<c.n;rw[ag oO];decide;rw[af q2]at h2;by_cases q3:c.n<b.n;rw[ag q3]at h2;exact absurd h2 dD;rw[af q3]at h2;exact absurd h2 dD;rw[af q1]at h1;by_cases q3:b.n<a.n;rw[ag q3]at h1;exact absurd h1 dD;rw[af q3]at h1;exact absurd h1 dD;rw[ag k2]at h2⊢;exact h2;rw[ag k1]at h1;by_cases k2:ee b.p c.p=0;rw[<-kf k2,ag k1];exact h1;rw[ag k2]at h2;have :=ij h1 h2;rw[ag oO];exact this
theorem zC (a:bV):¬gV a a<0:=by rw[WY];decide
abbrev Jf (l:List Dg):Prop:=l.Pairwise λa b=>ee a b<0
abbrev Jg (l:List bV):Prop:=l.Pairwise λa b=>gV a b<0
theorem Jh {l:List Dg}{x y:Dg}:y∈pq l x↔y=x\/y∈l:=by
 induction l with
 |nil=>simp[pq]
 |cons z l ih=>unfold pq;split;rw[aK,ih,aK];constructor;rintro(h|h|h);exact .inr (.inl h);exact .inl h;exact .inr (.inr h);rintro(h|h|h);exact .inr (.inl h);exact .inl h;exact .inr (.inr h);split;rename_i h;subst h;simp;simp[aK]
theorem QD {l:List Dg}(h:Jf l)(x:Dg):Jf (pq l x):=by
 induction l with
 |nil=>simp[pq]
 |cons z l ih=>
  obtain⟨h1,h2⟩:=dF.1 h;unfold pq;split;rename_i hz;refine dF.2 ⟨λy hy=>?_,ih h2⟩;rcases Jh.1 hy with rfl|hy;exact hz;exact h1 y hy;split;exact h;rename_i hz hne;have hx:ee x z<0:=by have :=lN z x;have :ee z x≠0:=λe=>hne (kf e);omega
  refine dF.2 ⟨λy hy=>?_,h⟩;rcases aK.1 hy with rfl|hy;exact hx;exact ij hx (h1 y hy)
theorem QE {l:List bV}{x y:bV}:y∈qU l x↔y=x\/y∈l:=by
 induction l with
 |nil=>simp[qU]
 |cons z l ih=>unfold qU;split;rw[aK,ih,aK];constructor;rintro(h|h|h);exact .inr (.inl h);exact .inl h;exact .inr (.inr h);rintro(h|h|h);exact .inr (.inl h);exact .inl h;exact .inr (.inr h);split;rename_i h;subst h;simp;simp[aK]
theorem aa6 {l:List bV}(h:Jg l)(x:bV):Jg (qU l x):=by
 induction l with
 |nil=>simp[qU]
 |cons z l ih=>
  obtain⟨h1,h2⟩:=dF.1 h;unfold qU;split;rename_i hz;refine dF.2 ⟨λy hy=>?_,ih h2⟩;rcases QE.1 hy with rfl|hy;exact hz;exact h1 y hy;split;exact h;rename_i hz hne;have hx:gV x z<0:=by have :=pO z x;have :gV z x≠0:=λe=>hne (vN e);omega
  refine dF.2 ⟨λy hy=>?_,h⟩;rcases aK.1 hy with rfl|hy;exact hx;exact rq hx (h1 y hy)
theorem WZ {l acc:List Dg}{y:Dg}:y∈l.foldl pq acc↔y∈l\/y∈acc:=by
 induction l generalizing acc with
 |nil=>simp
 |cons x l ih=>rw[fI,ih,Jh,aK];constructor;rintro(h|h|h);exact .inl (.inr h);exact .inl (.inl h);exact .inr h;rintro((h|h)|h);exact .inr (.inl h);exact .inl h;exact .inr (.inr h)
theorem Xa {l acc:List Dg}(h:Jf acc):Jf (l.foldl pq acc):=by
 induction l generalizing acc with
 |nil=>exact h
 |cons x l ih=>exact ih (QD h x)
theorem LC {l acc:List bV}{y:bV}:y∈l.foldl qU acc↔y∈l\/y∈acc:=by
 induction l generalizing acc with
 |nil=>simp
 |cons x l ih=>rw[fI,ih,QE,aK];constructor;rintro(h|h|h);exact .inl (.inr h);exact .inl (.inl h);exact .inr h;rintro((h|h)|h);exact .inr (.inl h);exact .inl h;exact .inr (.inr h)
theorem LD {l acc:List bV}(h:Jg acc):Jg (l.foldl qU acc):=by
 induction l generalizing acc with
 |nil=>exact h
 |cons x l ih=>exact ih (aa6 h x)
theorem BL {α:Type}(lt:α->α->Prop)(ir:∀a,¬lt a a)(tr:∀a b c,lt a b->lt b c->lt a c):∀{l m:List α},l.Pairwise lt->m.Pairwise lt->(∀x,x∈l↔x∈m)->l=m
 |[],[],_,_,_=>rfl
 |[],y::m,_,_,h=>by have :=(h y).2 (by simp);cases this
 |x::l,[],_,_,h=>by have :=(h x).1 (by simp);cases this
 |x::l,y::m,h1,h2,h=>by
  obtain⟨a1,a2⟩:=dF.1 h1;obtain⟨b1,b2⟩:=dF.1 h2;have e:x=y:=by rcases aK.1 ((h x).1 (by simp))with e|hx;exact e;rcases aK.1 ((h y).2 (by simp))with e|hy;exact e.symm;exact absurd (tr _ _ _ (a1 y hy) (b1 x hx)) (ir x)
  subst e;rw[BL lt ir tr a2 b2 λz=>?_];constructor;intro hz;rcases aK.1 ((h z).1 (cR _ hz))with rfl|hm;exact absurd (a1 z hz) (ir z);exact hm;intro hz;rcases aK.1 ((h z).2 (cR _ hz))with rfl|hm;exact absurd (b1 z hz) (ir z);exact hm
theorem QF {l m:List Dg}(h1:Jf l)(h2:Jf m)(h:∀x,x∈l↔x∈m):l=m:=BL (λa b=>ee a b<0) gP (λ_ _ _=>ij) h1 h2 h
theorem FY {l m:List bV}(h1:Jg l)(h2:Jg m)(h:∀x,x∈l↔x∈m):l=m:=BL (λa b=>gV a b<0) zC (λ_ _ _=>rq) h1 h2 h
def AZ (l:List Dg):List Dg:=l.mergeSort λx y=>!decide (ee y x<0)
def ud (l:List bV):List bV:=l.mergeSort λx y=>!decide (gV y x<0)
theorem Xb {l:List Dg}{x:Dg}:x∈AZ l↔x∈l:=List.mem_mergeSort
theorem Xc {l:List bV}{x:bV}:x∈ud l↔x∈l:=List.mem_mergeSort
theorem Te (l:List Dg):(AZ l).Pairwise λa b=>¬ee b a<0:=by
 have :=List.pairwise_mergeSort (le:=λx y:Dg=>!decide (ee y x<0)) (λa b c h1 h2=>by
  simp only[dY,decide_eq_false_iff_not]at*;intro h;by_cases e:ee b a=0;rw[kf e]at h2;exact h2 h;have :=lN a b;have h3:ee a b<0:=oO
  exact h2 (ij h h3)) (λa b=>by simp only[qe,dY,decide_eq_false_iff_not];have :=lN a b;omega) l;exact this.imp λ{a b} h=>by simpa using h
theorem Tf (l:List bV):(ud l).Pairwise λa b=>¬gV b a<0:=by
 have :=List.pairwise_mergeSort (le:=λx y:bV=>!decide (gV y x<0)) (λa b c h1 h2=>by
  simp only[dY,decide_eq_false_iff_not]at*;intro h;by_cases e:gV b a=0;rw[vN e]at h2;exact h2 h;have :=pO a b;have h3:gV a b<0:=oO
  exact h2 (rq h h3)) (λa b=>by simp only[qe,dY,decide_eq_false_iff_not];have :=pO a b;omega) l;exact this.imp λ{a b} h=>by simpa using h
theorem Xd {l:List bV}(h:l.Nodup):Jg (ud l):=by have h1:=Tf l;have h2:(ud l).Nodup:=(List.mergeSort_perm l _).nodup_iff.2 h;refine(h1.and h2).imp λ{a b} h=>?_;have :=pO a b;have :gV a b≠0:=λe=>h.2 (vN e);omega
theorem Tg {l:List bV}(h:l.Nodup):ud l=l.foldl qU []:=FY (Xd h) (LD List.Pairwise.nil) λx=>by rw[Xc,LC];simp
def dB:List Dg->List Dg|[]=>[]|[x]=>[x]|x::y::l=>if x=y then dB (y::l)else x::dB (y::l)
theorem Ak {x:Dg}:∀{l:List Dg},x∈dB l↔x∈l|[]=>Iff.rfl|[y]=>Iff.rfl|y::z::l=>by unfold dB;split;rename_i h;subst h;rw[Ak];simp;rw[aK,Ak,aK (l:=z::l)]
theorem ER:∀{l:List Dg},l.Pairwise (λa b=>¬ee b a<0)->Jf (dB l)
 |[],_=>List.Pairwise.nil
 |[y],_=>by simp[dB]
 |y::z::l,h=>by
  obtain⟨h1,h2⟩:=dF.1 h;unfold dB;split;exact ER h2;rename_i hne;refine dF.2 ⟨λx hx=>?_,ER h2⟩;have hyz:ee y z<0:=by have :=h1 z (by simp);have :=lN z y;have :ee y z≠0:=λe=>hne (kf e);omega
  rcases aK.1 (Ak.1 hx)with rfl|hx;exact hyz;have :=(dF.1 h2).1 x hx;by_cases e:ee x z=0;rw[kf e];exact hyz;have e2:=lN x z;exact ij hyz oO
theorem DF {C:Ctx}{S:aj}{dst:Option Nat}{g:FuncId}{o:Nat}{T:TypeId}{bM:Nat}{rest cells:List FV}{zs xs:List AV}{K:aj->Prop}{R:Bool->List AV->Prop}(h1:Av S.aI o=some cells)(h2:FV.fe rest=some xs)(h3:FV.fe cells=some zs)(hc:VC C g T bM zs xs R)(hk:∀r ys,R r ys->Yj S dst o T bM r ys K):Ot C S dst g (.gd o T bM::rest) K:=by unfold Ot;simp only[h1,h2,h3];exact⟨R,hc,hk⟩
theorem uR {l:List Dg}:∀ys,ys∈jW l->ys.length=32/\∀y,y∈ys->y.one=true:=by intro ys h;obtain⟨x,-,rfl⟩:=aC.1 h;exact⟨rfl,λy hy=>bA.1 (show(cD x).all AV.one=true from rfl) y hy⟩
def di (l:List Dg):List FV:=aG (jW l).flatten
theorem dS (l:List Dg):(di l).length=l.length*32:=by unfold di;rw[iR,fR (e:=32) λzs h=>(uR zs h).1];simp[jW]
theorem jN (a b:List Dg):di (a++b)=di a++di b:=by unfold di jW;rw[aD,ot,eN,eN,eN,aD]
theorem DG (a:Dg):di [a]=aG (cD a):=by unfold di jW;simp
theorem ru (a:Dg)(l:List Dg):di (a::l)=aG (cD a)++di l:=by rw[<-qb,jN,DG]
theorem nK (l:List Dg)(k:Nat):FV.eD k (di l)=di l:=iY k _
theorem ES (l:List Dg)(d:Dg)(o:Nat):FV.eD o (di l++aG [cD d].flatten)=di (l++[d]):=by rw[show di l++aG [cD d].flatten=di (l++[d])from by rw[jN,DG];simp];exact nK _ _
theorem LF (a b:List Dg):(di a++di b).take (a.length*32)=di a:=by rw[sG (by rw[dS];exact aA _),cU (by rw[dS];exact aA _)]
theorem GP {l:List Dg}{k:Nat}(h:k<l.length):di l=di (l.take k)++(aG (cD l[k])++di (l.drop (k+1))):=by rw[<-ru,<-bZ h,<-jN,dI]
theorem QG {aI:List (Nat×List FV)}{o:Nat}{l:List Dg}(k:Nat)(h:Qv.getObj aI o=some (FV.eD k (di l))):∃ys,Qv.getObj aI o=some ys/\ys.length=(di l).length/\∀(i:Nat)(x y:FV),ys[i]?=some x->(di l)[i]?=some y->bh x y:=by rw[nK]at h;exact aH h
theorem agC (x:Dg):agA (cD x):=by intro y hy;have :=bA.1 (show(cD x).all (λy=>match y with|.int _ _=>true|_=>false)=true from rfl) y hy;cases y<;>first|exact⟨_,_,rfl⟩|cases this
theorem akW:Sort.SWO (Proofs.ltOf ee):=⟨λx=>by unfold Proofs.ltOf;exact ak (gP x),λx y z h1 h2=>by unfold Proofs.ltOf at*;exact an (ij (kM h1) (kM h2)),λx y z h1 h2=>by
 unfold Proofs.ltOf at*;refine ak λh=>?_;have h1:=xy h1;have h2:=xy h2;by_cases e:ee y x=0;rw[kf e]at h2;exact h2 h;have :=lN x y;have h3:ee y x<0:=oO
 exact h2 (ij h3 h)⟩
theorem Ji (Cx:Ctx)(hP:Cx.P=Tryz.prog)(l:List Dg)(hl:l.length<=2^40):VC Cx 114 33 32 (jW l).flatten [.fn (.func 75) [] []] (λr ys=>r=false/\ys=(jW (AZ l)).flatten):=Ly cD 32 (λ_=>rfl) agC Tryz.sortD239 dD Tryz.isAgg33 Tryz.sizeOf33 ee akW (λx y h1 h2=>by have :=lN x y;exact kf oO) 75 (enters_of Tryz.func75 kK rfl) WX Cx hP ⟨_,Tryz.func114,rfl,rfl⟩ 33 l oO
theorem LG (l:List Dg):(AZ l).length=l.length:=List.length_mergeSort _
abbrev lu (s:List cL):Prop:=s.Pairwise λa b=>ee a.id b.id<0
theorem nL:∀{l:List Int},bz l=0↔∀e,e∈l->e=0|[]=>⟨λ_ e h=>(by cases h),λ_=>rfl⟩|a::l=>by by_cases h:a=0;rw[cn h,nL];constructor;intro g e he;rcases aK.1 he with rfl|he;exact h;exact g e he;exactλg e he=>g e (cR _ he);rw[cE h];exact⟨λg=>absurd g h,λg=>g a (by simp)⟩
structure OkS (s:List cL):Prop where
 few:s.length<=400
 uY:lu s
 id:∀x,x∈s->lV x.pat=(x.id,0)
 jU:∀x,x∈s->∀d,d∈bI x.pat->d∈dN s
 order:(gH s).length=s.length
 refs:∀x,x∈s->nH s x.pat x.id=0
theorem abe {s:List cL}(h:xg s=0):OkS s:=by
 unfold xg at h;by_cases h1:400<s.length;rw[ag h1]at h;exact absurd h dD;rw[af h1]at h;by_cases h2:bz ((List.range s.length).map (EM s))≠0;rw[ag h2]at h;exact absurd h h2;rw[af h2]at h;by_cases h3:s.all (λx=>kH (dN s) (bI x.pat))=false;rw[ag h3]at h;exact absurd h dD;rw[af h3]at h;by_cases h4:(gH s).length<s.length;rw[ag h4]at h;exact absurd h dD;rw[af h4]at h;have h2:=nL.1 (fA.1 h2);have hst:∀(i:Nat)(hi:i<s.length),lV s[i].pat=(s[i].id,0)/\(0<i->ee (s.getD (i-1) qY).id s[i].id<0):=λi hi=>by have :=h2 (EM s i) (aC.2 ⟨i,hU.2 hi,rfl⟩);unfold EM at this;rw[show s.getD i qY=s[i]from by simp[List.getD,hi]]at this;by_cases k1:(lV s[i].pat).2≠0;rw[ag k1]at this;exact absurd this k1;rw[af k1]at this;by_cases k2:(lV s[i].pat).1≠s[i].id;rw[ag k2]at this;exact absurd this dD;rw[af k2]at this;have k2:=fA.1 k2;refine⟨Prod.ext k2 (fA.1 k1),λh0=>?_⟩;rw[k2]at this;by_cases k3:0<i/\0<=ee (s.getD (i-1) qY).id s[i].id;rw[ag k3]at this;exact absurd this dD;omega
 refine⟨oO,?_,λx hx=>?_,λx hx d hd=>?_,?_,λx hx=>?_⟩;have step:∀(i:Nat)(h1:i+1<s.length),ee s[i].id s[i+1].id<0:=λi h1=>by have :=(hst (i+1) h1).2 (Nat.succ_pos _);rw[DJ,show s.getD i qY=s[i]from by simp[List.getD,show i<s.length by omega]]at this;exact this
 refine mI.2 ?_;intro i j hi hj hij;have :∀(k:Nat)(hk:i+1+k<s.length),ee s[i].id s[i+1+k].id<0:=λk=>by
  induction k with
  |zero=>exactλhk=>step i hk
  |succ k ih=>exactλhk=>ij (ih oO) (step (i+1+k) hk)
 have :=this (j-(i+1)) oO;rw[show s[i+1+(j-(i+1))]=s[j]from by congr 1;omega]at this;exact this;obtain⟨i,hi,rfl⟩:=ig hx;exact(hst i hi).1;have h3:s.all (λx=>kH (dN s) (bI x.pat))=true:=by simpa using h3
 have :=bA.1 h3 x hx;unfold kH at this;simpa using bA.1 this d hd;have :=IV s;omega;exact nL.1 h _ (jj _ (aC.2 ⟨x,hx,rfl⟩))
theorem NN {s:List cL}(h:lu s):(dN s).Nodup:=by unfold dN;rw[List.nodup_iff_pairwise_ne];exact List.pairwise_map.2 (h.imp λ{a b} g e=>by rw[e]at g;exact gP _ g)
theorem Jn {s:List cL}(h:lu s){x y:cL}(hx:x∈s)(hy:y∈s)(e:x.id=y.id):x=y:=by
 induction s with
 |nil=>cases hx
 |cons z s ih=>obtain⟨h1,h2⟩:=dF.1 h;rcases aK.1 hx with hxz|hx2;rcases aK.1 hy with hyz|hy2;rw[hxz,hyz];have :=h1 y hy2;rw[<-hxz,e]at this;exact absurd this (gP _);rcases aK.1 hy with hyz|hy2;have :=h1 x hx2;rw[<-hyz,e]at this;exact absurd this (gP _);exact ih h2 hx2 hy2
theorem oT {s:List cL}(h:lu s){x:cL}(hx:x∈s):nk s x.id=(x.pat,true):=by
 induction s with
 |nil=>cases hx
 |cons z s ih=>obtain⟨h1,h2⟩:=dF.1 h;unfold nk;rcases aK.1 hx with rfl|hx;rw[ag rfl];rw[af λe=>?_,ih h2 hx];have :=h1 x hx;rw[e]at this;exact gP _ this
theorem EW {s:List cL}{d:Dg}(h:d∉dN s):nk s d=(Lm,false):=by
 induction s with
 |nil=>rfl
 |cons z s ih=>unfold nk;rw[af λe=>h (by unfold dN;simp[e]),ih λg=>h (by unfold dN at*;simp at g⊢;exact .inr g)]
def qI (out:List Dg)(x:cL):Bool:=!decide (x.id∈out)&&kH out (bI x.pat)
def ue (s:List cL):Nat->List Dg->List Dg|0,out=>out|n+1,out=>match s.find? (qI out)with|none=>out|some x=>ue s n (out++[x.id])
theorem Ga {out:List Dg}{y:cL}:∀{l:List cL},(∀x,x∈l->ee y.id x.id<0)->oQ out l (some y)=some y|[],_=>rfl|x::l,h=>by unfold oQ;rw[af,Ga λz hz=>h z (cR _ hz)];unfold IT;simp only[br,decide_eq_true_eq,not_and];intro _ _ g;exact gP _ (ij g (h x (by simp)))
theorem BQ {out:List Dg}:∀{l:List cL},lu l->oQ out l none=l.find? (qI out)
 |[],_=>rfl
 |x::l,h=>by
  obtain⟨h1,h2⟩:=dF.1 h;unfold oQ;rw[kO,show IT out x none=qI out x from rfl];cases hq:qI out x with
  |true=>rw[ag rfl,Ga h1]
  |false=>rw[af dD,BQ h2]
theorem DM {s:List cL}(h:lu s):∀(n:Nat)(out:List Dg),ue s n out=pe s n out
 |0,_=>rfl
 |n+1,out=>by
  unfold ue pe;rw[BQ h];cases s.find? (qI out)with
  |none=>rfl
  |some x=>exact DM h n _
theorem Gb {s:List cL}(h:lu s):∀(n:Nat)(out:List Dg),out.Nodup->(∀d,d∈out->d∈dN s)->(pe s n out).Nodup/\(∀d,d∈pe s n out->d∈dN s)
 |0,out,h1,h2=>⟨h1,h2⟩
 |n+1,out,h1,h2=>by
  unfold pe;rw[BQ h];cases hq:s.find? (qI out)with
  |none=>exact⟨h1,h2⟩
  |some x=>have hx:=th hq;have hn:=mG hq;unfold qI at hn;simp only[br,dY,decide_eq_false_iff_not]at hn;refine Gb h n _ ?_ λd hd=>?_;rw[kz];refine⟨h1,by simp,λa ha b hb e=>?_⟩;obtain rfl:=aP.1 hb;subst e;exact hn.1 ha;rcases aZ.1 hd with hd|hd;exact h2 d hd;obtain rfl:=aP.1 hd;exact aC.2 ⟨x,hx,rfl⟩
theorem DN {α:Type}[DecidableEq α]:∀{l m:List α},l.Nodup->(∀x,x∈l->x∈m)->l.length<=m.length|[],_,_,_=>zL|x::l,m,h1,h2=>by obtain⟨g1,g2⟩:=mC.1 h1;have hx:x∈m:=h2 x (by simp);have :=DN (m:=m.erase x) g2 λy hy=>(List.mem_erase_of_ne (λ(e:y=x)=>g1 (e▸hy))).2 (h2 y (cR _ hy));rw[List.length_erase_of_mem hx]at this;have hpos:=List.length_pos_of_mem hx;simp only[aR];omega
theorem Tq {α:Type}[DecidableEq α]:∀{l m:List α},l.Nodup->(∀x,x∈l->x∈m)->m.length<=l.length->∀x,x∈m->x∈l:=by
 intro l m h1 h2 h3 x hx;refine ia λhn=>?_;have h4:(x::l).Nodup:=mC.2 ⟨hn,h1⟩;have h5:(x::l).length<=m.length:=DN h4 λy hy=>by rcases aK.1 hy with rfl|hy;exact hx;exact h2 y hy
 simp only[aR]at h5;omega
theorem rB {s:List cL}(h:OkS s)(d:Dg):d∈gH s↔d∈dN s:=by
 obtain⟨h1,h2⟩:=Gb h.uY s.length [] xD λd hd=>by cases hd
 exact⟨h2 d,Tq h1 h2 (by rw[show(pe s s.length []).length=s.length from h.order];unfold dN;simp) d⟩
theorem oy.GU {bk:Nat->Nat->Prop}{B:Nat}{w':World}{v:Value}{T:TypeId}{bM:Nat}{xss:List (List AV)}{rest:List AV}(h:oy bk B w' v (.own (some rest) T bM xss)):oy bk B w' v (.val (.eW (.sl xss::rest))):=by
 obtain⟨b,c,cs,fr,us,rfl,hB,hbs,h0,hlen,AL,hheap,hfr,hroom,hcells,qF⟩:=h;obtain⟨hl,hr⟩:=qF rest rfl;have hs:oy bk B w' (.slice (some ⟨b,0,none⟩) xss.length c) (.val (.sl xss)):=oy.NJ (T:=T) (bM:=bM) ⟨b,c,cs,fr,[],rfl,hB,hbs,h0,hlen,AL,hheap,hfr,hroom,hcells,λr hr=>by cases hr⟩;show dA (kW bk B) w' (.tuple (.slice (some ⟨b,0,none⟩) xss.length c::us).toArray) (.eW (.sl xss::rest));refine .eW _ _ (by simp[hl]) λi u x h1 h2=>?_;cases i with
 |zero=>simp at h1 h2;subst h1;subst h2;exact hs
 |succ i=>exact(hr i u x (by simpa using h1) (by simpa using h2)).keep (λb' o h=>h.imp id λq=>q.1) (λ_ _ _ _ h=>h) (.refl _ _)
theorem aq.GU {C:Ctx}{f:FuncId}{args:List AV}{T:TypeId}{bM:Nat}{xss:List (List AV)}{rest:List AV}(h:aq C f args λr=>r=.own (some rest) T bM xss):aq C f args λr=>r=.val (.eW (.sl xss::rest)):=⟨h.1,λbk w vs h1 h2 h3 h4 h5=>(h.2 bk w vs h1 h2 h3 h4 h5).mono λe w' ⟨v,r,q1,q2,q3,q4⟩=>by subst q2;exact⟨v,_,q1,rfl,oy.GU q3,q4⟩⟩
section
variable (N:gr->List Dg)
end
def aiy (s:List cL)(d:Dg):List Dg:=bI (nk s d).1
theorem LH:∀{l:List bV}{acc:List Dg},Jf acc->Jf (l.foldl xb acc)|[],_,h=>h|x::l,acc,h=>LH (l:=l) (by unfold xb;split;exact h;exact QD h _)
theorem LI (p:gr):Jf (bI p):=by unfold bI;split;exact List.Pairwise.nil;exact LH (Xa List.Pairwise.nil)
theorem abf {s:List cL}{l:List Dg}(h1:Jf l)(h2:∀d,d∈l->d∈dN s):l.length<=s.length:=by
 have h3:l.Nodup:=h1.imp λ{a b} h e=>by subst e;exact gP a h
 have :=DN h3 h2;rwa[dN,ah]at this
end Qv
