/- Part 20 of the proof: its lemmas. No condition. -/
import Derived.Test.YtlbofhenpfnenaaGreatDoorX7
import Derived.Test.YtlbofhenpfnenaaGreatDoorX12
set_option maxRecDepth 10000
set_option maxHeartbeats 80000000
set_option linter.all false
open Go Go.Proofs Go.RowKit
namespace Qv
structure Hid (T:Prop):Prop where
 out:T
theorem share {T G:Prop}(h:Hid T->G)(t:T):G:=h ⟨t⟩
def ep:List Int->Int|[]=>0|e::l=>if e≠0 then e else ep l
theorem eA {e:Int}{l:List Int}(h:e≠0):ep (e::l)=e:=af h
theorem eW {e:Int}{l:List Int}(h:e=0):ep (e::l)=ep l:=aa (λg=>g h)
theorem jO {p:Prop}[Decidable p]{e:Int}{l:List Int}(h:¬p):ep ((if p then e else 0)::l)=ep l:=by rw[aa h];exact eW rfl
theorem qO {p:Prop}[Decidable p]{e:Int}{l:List Int}(h:p):ep ((if p then e else 0)::l)=ep (e::l):=by rw[af h]
def AH (x:bw):Bool:=decide (x.kind=1)&&decide (x.type=4)
def FL (c:ew)(own:List bw):List Int:=(if 2<=c.kind/\c.kind<=6 then rP c.file own.length (ej c.kind (kH own c.file))else 0)::(if c.kind=2/\c.parent≠qD then rP c.parent own.length (AH (kH own c.parent))else 0)::(if gM c.kind=true then rP c.dc own.length (decide (c.dc=c.file)||kZ c.file (kH own c.dc))else 0)::(if gM c.kind=true then rP c.dy own.length (decide (c.dy=c.file)||kZ c.file (kH own c.dy))else 0)::((c.over.map λx=>rP x own.length (fh c.kind c.file (kH own x)))++[if c.kind=2/\c.parent=c.file then 20 else 0,if gM c.kind=true/\c.dc=c.dy/\(c.kind=6\/c.dc≠c.file)then 1 else 0])
def lp (c:ew)(own:List bw):Int:=ep (FL c own)
def Iq (c:ew)(k:Nat):bf:=if k=0 then c.dc else c.dy
def ag2 (c:ew)(own:List bw):Nat->List Int|0=>[rP c.dc own.length (decide (c.dc=c.file)||kZ c.file (kH own c.dc)),rP c.dy own.length (decide (c.dy=c.file)||kZ c.file (kH own c.dy))]|1=>[rP c.dy own.length (decide (c.dy=c.file)||kZ c.file (kH own c.dy))]|_=>[]
theorem XB (c:ew)(own:List bw){k:Nat}(h:k<2):ag2 c own k=rP (Iq c k) own.length (decide (Iq c k=c.file)||kZ c.file (kH own (Iq c k)))::ag2 c own (k+1):=by
 match k,h with
  |0,_=>rfl
  |1,_=>rfl
theorem ag3 (c:ew){k:Nat}(h:k<2):[cI c.dc,cI c.dy][((k:Nat):Int).toNat]?=some (cI (Iq c k)):=by
 match k,h with
  |0,_=>rfl
  |1,_=>rfl
theorem oD {α β:Type}{g:α->β}{l:List α}{k:Nat}(h:k<l.length)(r:List β):(l.drop k).map g++r=g l[k]::((l.drop (k+1)).map g++r):=by rw[bQ h,cE,dZ]
theorem aey (c:ew)(own:List bw)(hl:own.length<=2^47)(ho:c.over.length<=2^47):aj C 141 [.agg (cC c),.sl (fH own)] (λr=>r=.val (.int .i64 (lp c own))):=by
 have hE:lp c own=ep (FL c own):=rfl;unfold FL at hE;refine dQ [5,10,18,24,26] Tryz.func141 rfl rfl rfl ?_;refine⟨none,?_⟩;refine share (T:=?T1) (λH1=>?m1) ?r1;case m1=>refine az (λh1=>az (λh2=>?_) (λh2=>?_)) (λh1=>?_);rw[qO (show 2<=c.kind/\c.kind<=6 from⟨h1,h2⟩)]at hE;refine cG 10 kK ?_;refine⟨_,(NF own c.file hl).cut,?_⟩;refine⟨_,(FK c.kind (kH own c.file)).cut,?_⟩;refine cl (Bv c.file own (ej c.kind (kH own c.file))).cut ?_;refine cS (λh=>?_) (λh=>?_);rw[hE,eA h];exact rfl;rw[eW h]at hE;refine dI 163 [(1,.p (.sl (fH own))),(2,.ptr 2 0)] [(2,aF (cC c))] rfl wS oS ?_;revert hE;exact H1.out;rw[jO (show¬(2<=c.kind/\c.kind<=6)fromλh=>h2 h.2)]at hE;refine dI 163 [(1,.p (.sl (fH own))),(2,.ptr 2 0)] [(2,aF (cC c))] rfl wS oS ?_;revert hE;exact H1.out;rw[jO (show¬(2<=c.kind/\c.kind<=6)fromλh=>h1 h.1)]at hE;refine dI 163 [(1,.p (.sl (fH own))),(2,.ptr 2 0)] [(2,aF (cC c))] rfl wS oS ?_;revert hE;exact H1.out
 case r1=>
  intro hE;refine share (T:=?T2) (λH2=>?m2) ?r2;case m2=>
   refine cG 9 kK ?_;refine aD (λh1=>?_) (λh1=>?_);rotate_left;rw[jO (show¬(c.kind=2/\c.parent≠qD)fromλh=>h1 h.1)]at hE;refine dI 163 [(1,.p (.sl (fH own))),(2,.ptr 2 0)] [(2,aF (cC c))] rfl wS oS ?_;revert hE;exact H2.out;refine⟨_,NC.cut,?_⟩;refine rB ?_;refine FE (a:=c.parent) (b:=qD) ?_;by_cases hp:c.parent=qD;rw[av hp];rw[jO (show¬(c.kind=2/\c.parent≠qD)fromλh=>h.2 hp)]at hE;refine dI 163 [(1,.p (.sl (fH own))),(2,.ptr 2 0)] [(2,aF (cC c))] rfl wS oS ?_;revert hE;exact H2.out;rw[ak hp];rw[qO (show c.kind=2/\c.parent≠qD from⟨h1,hp⟩)]at hE;refine cl (NF own c.parent hl).cut ?_;refine⟨none,?_⟩;refine aD (λh2=>aD (λh3=>?_) (λh3=>?_)) (λh2=>?_);have e:AH (kH own c.parent)=true:=by have h2:(kH own c.parent).kind=1:=h2;have h3:(kH own c.parent).type=4:=h3;simp[AH,h2,h3]
   rw[e]at hE;refine cl (Bv c.parent own true).cut ?_;refine cS (λh=>?_) (λh=>?_);rw[hE,eA h];exact rfl;rw[eW h]at hE;refine dI 163 [(1,.p (.sl (fH own))),(2,.ptr 2 0)] [(2,aF (cC c))] rfl wS oS ?_;revert hE;exact H2.out;have e:AH (kH own c.parent)=false:=by have h3:¬(kH own c.parent).type=4:=h3;simp[AH,h3]
   rw[e]at hE;refine cl (Bv c.parent own false).cut ?_;refine cS (λh=>?_) (λh=>?_);rw[hE,eA h];exact rfl;rw[eW h]at hE;refine dI 163 [(1,.p (.sl (fH own))),(2,.ptr 2 0)] [(2,aF (cC c))] rfl wS oS ?_;revert hE;exact H2.out;have e:AH (kH own c.parent)=false:=by have h2:¬(kH own c.parent).kind=1:=h2;simp[AH,h2]
   rw[e]at hE;refine cl (Bv c.parent own false).cut ?_;refine cS (λh=>?_) (λh=>?_);rw[hE,eA h];exact rfl;rw[eW h]at hE;refine dI 163 [(1,.p (.sl (fH own))),(2,.ptr 2 0)] [(2,aF (cC c))] rfl wS oS ?_;revert hE;exact H2.out
  case r2=>
   intro hE;refine share (T:=?T3) (λH3=>?m3) ?r3;case m3=>
    refine cl (ND c.kind).cut ?_;cases ht:gM c.kind with
    |false=>rw[ht,jO dD,jO dD]at hE;rw[<-ht]at hE;refine dI 163 [(1,.p (.sl (fH own))),(2,.ptr 2 0)] [(2,aF (cC c))] rfl wS oS ?_;revert hE;exact H3.out
    |true=>
     refine bI 163 (λk:Nat=>[(1,.p (.sl (fH own))),(2,.ptr 2 0),(8,.eU 70 33 33 [cI c.dc,cI c.dy]),(9,.p (.int .i64 k))]) (λ_=>[(2,aF (cC c))]) (λk=>k<=2/\lp c own=ep (ag2 c own k++(c.over.map (λx=>rP x own.length (fh c.kind c.file (kH own x)))++[if c.kind=2/\c.parent=c.file then 20 else 0,if gM c.kind=true/\c.dc=c.dy/\(c.kind=6\/c.dc≠c.file)then 1 else 0]))) (λk=>2-k) 0 ⟨zL,by rw[hE,af ht,af ht];rfl⟩ rfl wS oS ?_;rintro k ⟨hk2,hE⟩;have hk2:k<=2:=hk2;refine az (λhlt=>?_) (λhge=>?_);have hlt:k<2:=by have :(k:Int)<2:=hlt;omega
     rw[XB c own hlt,dZ]at hE;refine cG 23 kK ?_;refine⟨oO,_,ag3 c hlt,rfl,?_⟩;refine⟨oO,_,ag3 c hlt,rfl,?_⟩;refine rB ?_;refine jK (a:=Iq c k) (b:=c.file) ?_;by_cases hf:Iq c k=c.file;rw[av hf];rw[av hf,Bool.true_or]at hE;refine cl (Bv (Iq c k) own true).cut ?_;refine cS (λh=>?_) (λh=>?_);rw[hE,eA h];exact rfl;rw[eW h]at hE;exact nx (k+1) (aU (k+1) ⟨hlt,hE⟩ oO rfl wS oS);rw[ak hf];rw[ak hf,pW]at hE;refine⟨oO,_,ag3 c hlt,rfl,?_⟩;refine⟨_,(NF own (Iq c k) hl).cut,?_⟩;refine⟨_,(Im c.file (kH own (Iq c k))).cut,?_⟩;refine cl (Bv (Iq c k) own (kZ c.file (kH own (Iq c k)))).cut ?_;refine cS (λh=>?_) (λh=>?_);rw[hE,eA h];exact rfl;rw[eW h]at hE;exact nx (k+1) (aU (k+1) ⟨hlt,hE⟩ oO rfl wS oS);obtain rfl:k=2:=by have :¬(k:Int)<2:=hge;omega
     have hE:lp c own=ep (c.over.map (λx=>rP x own.length (fh c.kind c.file (kH own x)))++[if c.kind=2/\c.parent=c.file then 20 else 0,if gM c.kind=true/\c.dc=c.dy/\(c.kind=6\/c.dc≠c.file)then 1 else 0]):=hE;refine dI 163 [(1,.p (.sl (fH own))),(2,.ptr 2 0)] [(2,aF (cC c))] rfl wS oS ?_;revert hE;exact H3.out
   case r3=>
    intro hE;refine bI 163 (λk:Nat=>[(1,.p (.sl (fH own))),(2,.ptr 2 0),(11,.p (.int .i64 k))]) (λ_=>[(2,aF (cC c))]) (λk=>k<=c.over.length/\lp c own=ep ((c.over.drop k).map (λx=>rP x own.length (fh c.kind c.file (kH own x)))++[if c.kind=2/\c.parent=c.file then 20 else 0,if gM c.kind=true/\c.dc=c.dy/\(c.kind=6\/c.dc≠c.file)then 1 else 0])) (λk=>c.over.length-k) 0 ⟨zL,hE⟩ rfl wS oS ?_;rintro k ⟨hk,hE⟩;refine bY (l:=c.over) (f:=cI) (λhlt=>?_) (λhge=>?_);rw[oD hlt]at hE;refine cG 18 kK ?_;refine ix hlt ?_;refine ix hlt ?_;refine⟨_,(NF own c.over[k] hl).cut,?_⟩;refine⟨_,(FJ c.kind c.file (kH own c.over[k])).cut,?_⟩;refine cl (Bv c.over[k] own (fh c.kind c.file (kH own c.over[k]))).cut ?_;refine cS (λh=>?_) (λh=>?_);rw[hE,eA h];exact rfl;rw[eW h]at hE;exact nx (k+1) (aU (k+1) ⟨hlt,hE⟩ oO rfl wS oS);rw[dG oO,iG,jU]at hE;refine dI 163 [(1,.p (.sl (fH own))),(2,.ptr 2 0)] [(2,aF (cC c))] rfl wS oS ?_;refine⟨none,?_⟩;refine share (T:=?T4) (λH4=>?m4) ?r4;case m4=>refine aD (λh1=>?_) (λh1=>?_);rotate_left;rw[jO (show¬(c.kind=2/\c.parent=c.file)fromλh=>h1 h.1)]at hE;refine dI 163 [(1,.p (.sl (fH own))),(2,.ptr 2 0)] [(2,aF (cC c))] rfl wS oS ?_;revert hE;exact H4.out;refine rB ?_;refine jK (a:=c.parent) (b:=c.file) ?_;by_cases hp:c.parent=c.file;rw[av hp];rw[qO (show c.kind=2/\c.parent=c.file from⟨h1,hp⟩),eA dD]at hE;rw[hE];exact rfl;rw[ak hp];rw[jO (show¬(c.kind=2/\c.parent=c.file)fromλh=>hp h.2)]at hE;refine dI 163 [(1,.p (.sl (fH own))),(2,.ptr 2 0)] [(2,aF (cC c))] rfl wS oS ?_;revert hE;exact H4.out
    case r4=>
     intro hE;refine⟨none,?_⟩;refine cl (ND c.kind).cut ?_;have no:¬(gM c.kind=true/\c.dc=c.dy/\(c.kind=6\/c.dc≠c.file))->dh.val (.int .i64 0)=dh.val (.int .i64 (lp c own)):=λh=>by rw[hE,jO h];rfl
     have yes:(gM c.kind=true/\c.dc=c.dy/\(c.kind=6\/c.dc≠c.file))->dh.val (.int .i64 1)=dh.val (.int .i64 (lp c own)):=λh=>by rw[hE,qO h,eA dD]
     cases ht:gM c.kind with
     |false=>exact no λh=>by rw[ht]at h;exact absurd h.1 dD
     |true=>refine rB ?_;refine jK (a:=c.dc) (b:=c.dy) ?_;by_cases hab:c.dc=c.dy;rw[av hab];refine aD (λh6=>?_) (λh6=>?_);exact yes ⟨ht,hab,.inl h6⟩;refine rB ?_;refine FE (a:=c.dc) (b:=c.file) ?_;by_cases haf:c.dc=c.file;rw[av haf];exact no λh=>h.2.2.elim h6 λg=>g haf;rw[ak haf];exact yes ⟨ht,hab,.inr haf⟩;rw[ak hab];exact no λh=>hab h.2.1
def zo (l:List Bytes):Int:=if l.length=0 then 1 else if 2000<l.length then 4 else if l.all qc=true then 0 else 3
theorem rD {α:Type}{f:α->Bool}{l:List α}{k:Nat}(hk:k<l.length)(h:(l.take k).all f=true)(h2:f l[k]=true):(l.take (k+1)).all f=true:=by rw[<-eS hk,List.all_append,h];simp[h2]
theorem NK {α:Type}{f:α->Bool}{l:List α}{k:Nat}(hk:k<l.length)(h2:f l[k]=false):l.all f=false:=List.all_eq_false.2 ⟨_,aL hk,by rw[h2];decide⟩
theorem XC (l:List Bytes)(hl:SzS l):aj C 172 [Gn l] (λr=>r=.val (.int .i64 (zo l))):=by
 have hlen:=hl.len;have he:(((l.map oo).length:Nat):Int)=(l.length:Int):=by rw[ai]
 refine ag Tryz.func172 rfl rfl rfl ?_;refine aD (λh=>?_) (λh=>?_);have :l.length=0:=by have :(((l.map oo).length:Nat):Int)=0:=h;omega
 show dh.val _=_;rw[zo,af this];have h0:¬l.length=0:=λe=>h (by rw[he,e];rfl);refine az (λh=>?_) (λh=>?_);have :2000<l.length:=by have :(((l.map oo).length:Nat):Int)>2000:=h;omega
 show dh.val _=_;rw[zo,aa h0,af this];have h1:¬2000<l.length:=by have :¬(((l.map oo).length:Nat):Int)>2000:=h;omega
 refine bI 22 (λk:Nat=>[(0,.p (Gn l)),(3,.p (.int .i64 k))]) (λ_=>[]) (λk=>k<=l.length/\(l.take k).all qc=true) (λk=>l.length-k) 0 ⟨zL,rfl⟩ rfl wS trivial ?_;rintro k ⟨hk,hall⟩;refine bY (λhlt=>?_) (λhge=>?_);refine ix hlt ?_;refine cl (Xt l[k] (hl.each _ (aL _))) ?_;refine bq ?_;cases hv:qc l[k]with
 |false=>have :l.all qc=false:=NK hlt hv;show dh.val _=_;rw[zo,aa h0,aa h1,aa (by rw[this];decide)]
 |true=>exact nx (k+1) (aU (k+1) ⟨hlt,rD hlt hall hv⟩ oO rfl wS trivial)
 have :l.all qc=true:=by rw[cF oO]at hall;exact hall
 show dh.val _=_;rw[zo,aa h0,aa h1,af this]
def zq (l:List Dg)(i:Nat):Int:=if l.getD i bz=bz then 1 else if 0<i/\0<=eZ (l.getD (i-1) bz) (l.getD i bz)then 9 else 0
def mS (l:List Dg):Int:=if 100<l.length then 4 else ep ((List.range l.length).map (zq l))
theorem xb (g:Nat->Int)(n k:Nat)(hk:k<n)(h:∀i,i<k->g i=0)(h2:g k≠0):ep ((List.range n).map g)=g k:=by
 have e:List.range n=List.range k++(k::(List.range (n-k-1)).map (·+(k+1))):=by apply List.ext_getElem;simp;omega;intro i h1 h3;simp only[List.getElem_range,List.getElem_append,pT,List.getElem_cons,xg];split;rfl;split;omega;omega
 rw[e,aN,cE];have :∀(l:List Nat)(r:List Int),(∀i,i∈l->g i=0)->ep (l.map g++r)=ep r:=by
  intro l;induction l with
  |nil=>intro r _;rfl
  |cons a l ih=>intro r hr;rw[cE,dZ,eW (hr a (by simp))];exact ih r λi hi=>hr i (by simp[hi])
 rw[this _ _ λi hi=>h i (iL.1 hi),eA h2]
theorem uL (g:Nat->Int)(n:Nat)(h:∀i,i<n->g i=0):ep ((List.range n).map g)=0:=by
 have :∀(l:List Nat),(∀i,i∈l->g i=0)->ep (l.map g)=0:=by
  intro l;induction l with
  |nil=>intro _;rfl
  |cons a l ih=>intro hr;rw[cE,eW (hr a (by simp))];exact ih λi hi=>hr i (by simp[hi])
 exact this _ λi hi=>h i (iL.1 hi)
theorem NL {l:List Dg}{k:Nat}(h:k<l.length):zq l k=if l[k]=bz then 1 else if 0<k/\0<=eZ (l.getD (k-1) bz) l[k]then 9 else 0:=by
 have :l.getD k bz=l[k]:=by simp[List.getD,h]
 unfold zq;rw[this]
theorem aez (l:List Dg)(hl:l.length<=2^47):aj C 111 [.sl (jJ l)] (λr=>r=.val (.int .i64 (mS l))):=by
 unfold jJ;have he:(((l.map cD).length:Nat):Int)=(l.length:Int):=by rw[ai]
 refine ag Tryz.func111 rfl rfl rfl ?_;refine az (λh=>?_) (λh=>?_);have :100<l.length:=by have :(((l.map cD).length:Nat):Int)>100:=h;omega
 show dh.val _=_;rw[mS,af this];have h1:¬100<l.length:=by have :¬(((l.map cD).length:Nat):Int)>100:=h;omega
 refine bI 33 (λk:Nat=>[(0,.p (.sl (l.map cD))),(3,.p (.int .i64 k))]) (λ_=>[]) (λk=>k<=l.length/\∀i,i<k->zq l i=0) (λk=>l.length-k) 0 ⟨zL,λi h=>absurd h (gu _)⟩ rfl wS trivial ?_;rintro k ⟨hk,hall⟩;refine bY (λhlt=>?_) (λhge=>?_)
 ·have hb:=NL hlt;have bad:zq l k≠0->dh.val (.int .i64 (zq l k))=dh.val (.int .i64 (mS l)):=λh=>by rw[mS,aa h1,xb (zq l) l.length k hlt hall h]
  have next:zq l k=0->k+1<=l.length/\∀i,i<k+1->zq l i=0:=λh=>⟨hlt,λi hi=>by by_cases hik:i=k;rw[hik];exact h;exact hall i oO⟩;refine ix hlt ?_;refine cl (wU l[k]) ?_;by_cases hz:l[k]=bz;rw[av hz];rw[af hz]at hb;have :=bad (by rw[hb];decide);rw[hb]at this;exact this;rw[ak hz];rw[aa hz]at hb;refine cG 12 kK ?_;refine az (λh0=>?_) (λh0=>?_)
  ·have h0:0<k:=by have :(k:Int)>0:=h0;omega
   have hlt':k-1<l.length:=oO
   have hg:l.getD (k-1) bz=l[k-1]:=by simp[List.getD,hlt']
   rw[hg]at hb;refine nx (k-1) ?_;refine ix hlt' ?_;refine ix hlt ?_;refine cl (pz l[k-1] l[k]) ?_;refine az (λh2=>?_) (λh2=>?_);rw[af ⟨h0,h2⟩]at hb;have :=bad (by rw[hb];decide);rw[hb]at this;exact this;rw[aa λh=>h2 h.2]at hb;exact nx (k+1) (aU (k+1) (next hb) oO rfl wS trivial)
  have h0:¬0<k:=by have :¬(k:Int)>0:=h0;omega
  rw[aa λh=>h0 h.1]at hb;exact nx (k+1) (aU (k+1) (next hb) oO rfl wS trivial)
 have :mS l=0:=by rw[mS,aa h1];exact uL _ _ λi hi=>hall i oO
 rw[this];exact rfl
def cQ (c:ew):Int:=if c.kind<1\/7<c.kind then 8 else if bG (eE c)=false then 1 else if c.kind=1/\(c.type<1\/4<c.type)then 8 else if c.kind=2/\iy c.name=false then 5 else if c.kind=3/\(c.mode<0\/511<c.mode)then 2 else if 65536<c.data.length then 4 else if c.kind=5 then zo c.lines else if c.kind=7/\c.over.length=0 then 1 else if 400<c.over.length then 4 else if yp c.over=false then 9 else 0
theorem TD (c:ew)(hz:SzC c):aj C 140 [.agg (cC c)] (λr=>r=.val (.int .i64 (cQ c))):=by
 obtain⟨E,hE⟩:∃E,cQ c=E:=⟨_,rfl⟩;rw[hE];have hE:E=cQ c:=hE.symm;unfold cQ at hE;have VG:(((iS c.over).length:Nat):Int)=(c.over.length:Int):=by simp[iS]
 refine dQ [7,9,11,17] Tryz.func140 rfl rfl rfl ?_;refine⟨none,?_⟩;refine az (λh=>?_) (λh1=>az (λh=>?_) (λh2=>?_));rw[af (show c.kind<1\/7<c.kind from .inl h)]at hE;rw[hE];exact rfl;rw[af (show c.kind<1\/7<c.kind from .inr h)]at hE;rw[hE];exact rfl;have h1:¬c.kind<1:=h1;have h2:¬7<c.kind:=h2;rw[aa (show¬(c.kind<1\/7<c.kind)fromλh=>h.elim h1 h2)]at hE;refine cl (aex c oO oO).cut ?_;refine cl (aa3 (eE c)).cut ?_;refine bq ?_;cases he:bG (eE c)with
 |false=>rw[he,af rfl]at hE;rw[hE];exact rfl
 |true=>
  rw[he,aa dD]at hE;refine⟨none,?_⟩;refine share (T:=?T1) (λH1=>?m1) ?r1;case m1=>refine aD (λh1=>az (λh2=>?_) (λh2=>az (λh3=>?_) (λh3=>?_))) (λh1=>?_);rw[af (show(c.kind=1/\(c.type<1\/4<c.type))from⟨h1,.inl h2⟩)]at hE;rw[hE];exact rfl;rw[af (show(c.kind=1/\(c.type<1\/4<c.type))from⟨h1,.inr h3⟩)]at hE;rw[hE];exact rfl;rw[aa (show¬(c.kind=1/\(c.type<1\/4<c.type))fromλh=>h.2.elim h2 h3)]at hE;refine dI 77 [(1,.ptr 1 0)] [(1,aF (cC c))] rfl wS oS ?_;revert hE;exact H1.out;rw[aa (show¬(c.kind=1/\(c.type<1\/4<c.type))fromλh=>h1 h.1)]at hE;refine dI 77 [(1,.ptr 1 0)] [(1,aF (cC c))] rfl wS oS ?_;revert hE;exact H1.out
  case r1=>
   intro hE;refine⟨none,?_⟩;refine share (T:=?T2) (λH2=>?m2) ?r2;case m2=>
    refine aD (λh1=>?_) (λh1=>?_);refine cl (Ig c.name (by have :=hz.name;omega)).cut ?_;refine bq ?_;cases hn:iy c.name with
    |false=>rw[af (show c.kind=2/\iy c.name=false from⟨h1,hn⟩)]at hE;rw[hE];exact rfl
    |true=>rw[aa (show¬(c.kind=2/\iy c.name=false)fromλh=>by rw[hn]at h;exact absurd h.2 dD)]at hE;refine dI 77 [(1,.ptr 1 0)] [(1,aF (cC c))] rfl wS oS ?_;revert hE;exact H2.out
    rw[aa (show¬(c.kind=2/\iy c.name=false)fromλh=>h1 h.1)]at hE;refine dI 77 [(1,.ptr 1 0)] [(1,aF (cC c))] rfl wS oS ?_;revert hE;exact H2.out
   case r2=>
    intro hE;refine⟨none,?_⟩;refine share (T:=?T3) (λH3=>?m3) ?r3;case m3=>refine aD (λh1=>az (λh2=>?_) (λh2=>az (λh3=>?_) (λh3=>?_))) (λh1=>?_);rw[af (show(c.kind=3/\(c.mode<0\/511<c.mode))from⟨h1,.inl h2⟩)]at hE;rw[hE];exact rfl;rw[af (show(c.kind=3/\(c.mode<0\/511<c.mode))from⟨h1,.inr h3⟩)]at hE;rw[hE];exact rfl;rw[aa (show¬(c.kind=3/\(c.mode<0\/511<c.mode))fromλh=>h.2.elim h2 h3)]at hE;refine dI 77 [(1,.ptr 1 0)] [(1,aF (cC c))] rfl wS oS ?_;revert hE;exact H3.out;rw[aa (show¬(c.kind=3/\(c.mode<0\/511<c.mode))fromλh=>h1 h.1)]at hE;refine dI 77 [(1,.ptr 1 0)] [(1,aF (cC c))] rfl wS oS ?_;revert hE;exact H3.out
    case r3=>
     intro hE;refine az (λh=>?_) (λh=>?_);rw[af (show 65536<c.data.length by have :(c.data.length:Int)>65536:=h;omega)]at hE;rw[hE];exact rfl;rw[aa (show¬65536<c.data.length by have :¬(c.data.length:Int)>65536:=h;omega)]at hE;refine aD (λh5=>?_) (λh5=>?_);rw[af (show c.kind=5 from h5)]at hE;refine cl (XC c.lines hz.lines).cut ?_;rw[hE];exact rfl;rw[aa (show¬c.kind=5 from h5)]at hE;refine⟨none,?_⟩;refine share (T:=?T4) (λH4=>?m4) ?r4;case m4=>refine aD (λh1=>?_) (λh1=>?_);refine aD (λh=>?_) (λh=>?_);have h:(((iS c.over).length:Nat):Int)=0:=h;rw[af (show c.kind=7/\c.over.length=0 from⟨h1,oO⟩)]at hE;rw[hE];exact rfl;have h:¬(((iS c.over).length:Nat):Int)=0:=h;rw[aa (show¬(c.kind=7/\c.over.length=0)fromλg=>h oO)]at hE;refine dI 77 [(1,.ptr 1 0)] [(1,aF (cC c))] rfl wS oS ?_;revert hE;exact H4.out;rw[aa (show¬(c.kind=7/\c.over.length=0)fromλh=>h1 h.1)]at hE;refine dI 77 [(1,.ptr 1 0)] [(1,aF (cC c))] rfl wS oS ?_;revert hE;exact H4.out
     case r4=>
      intro hE;refine az (λh=>?_) (λh=>?_);rw[af (show 400<c.over.length by have :(((iS c.over).length:Nat):Int)>400:=h;omega)]at hE;rw[hE];exact rfl;rw[aa (show¬400<c.over.length by have :¬(((iS c.over).length:Nat):Int)>400:=h;omega)]at hE;refine cl (aeg c.over hz.over).cut ?_;refine bq ?_;cases ha:yp c.over with
      |false=>rw[ha,af rfl]at hE;rw[hE];exact rfl
      |true=>rw[ha,aa dD]at hE;rw[hE];exact rfl
theorem gw {c:ew}(h:cQ c=0):1<=c.kind/\c.kind<=7/\(c.kind=5->c.lines.length<=2000/\c.lines.all qc=true)/\(c.kind≠5->c.over.length<=400)/\bG (eE c)=true/\c.data.length<=65536:=by
 unfold cQ at h;by_cases h1:c.kind<1\/7<c.kind;rw[af h1]at h;exact absurd h dD;rw[aa h1]at h;by_cases h2:bG (eE c)=false;rw[af h2]at h;exact absurd h dD;rw[aa h2]at h;by_cases h3:c.kind=1/\(c.type<1\/4<c.type);rw[af h3]at h;exact absurd h dD;rw[aa h3]at h;by_cases h4:c.kind=2/\iy c.name=false;rw[af h4]at h;exact absurd h dD;rw[aa h4]at h;by_cases h5:c.kind=3/\(c.mode<0\/511<c.mode);rw[af h5]at h;exact absurd h dD;rw[aa h5]at h;by_cases h6:65536<c.data.length;rw[af h6]at h;exact absurd h dD;rw[aa h6]at h;have he:bG (eE c)=true:=by simpa using h2
 by_cases h7:c.kind=5;rw[af h7]at h;refine⟨oO,oO,λ_=>?_,λg=>absurd h7 g,he,oO⟩;unfold zo at h;by_cases g1:c.lines.length=0;rw[af g1]at h;exact absurd h dD;rw[aa g1]at h;by_cases g2:2000<c.lines.length;rw[af g2]at h;exact absurd h dD;rw[aa g2]at h;by_cases g3:c.lines.all qc=true;exact⟨oO,g3⟩;rw[aa g3]at h;exact absurd h dD;rw[aa h7]at h;by_cases h8:c.kind=7/\c.over.length=0;rw[af h8]at h;exact absurd h dD;rw[aa h8]at h;by_cases h9:400<c.over.length;rw[af h9]at h;exact absurd h dD;exact⟨oO,oO,λg=>absurd g h7,λ_=>oO,he,oO⟩
theorem Lu (c:ew)(f:Nat):(eu c f).length=if c.kind=5 then 2*c.lines.length+1 else 1:=by unfold eu;by_cases h:c.kind=5;rw[af h,af h];simp;omega;rw[aa h,aa h];rfl
theorem Dm {c:ew}(h:cQ c=0)(f:Nat):(eu c f).length<=4001:=by rw[Lu];obtain⟨-,-,h5,-⟩:=gw h;by_cases hk:c.kind=5;have :=(h5 hk).1;rw[af hk];omega;rw[aa hk];omega
theorem abi (c:ew)(f:Nat)(h1:1<=c.kind)(h7:c.kind<=7)(hf:f<=2^30)(hl:c.kind=5->c.lines.length<=2^30):aj C 142 [.agg (cC c),.int .i64 (f:Int)] (λr=>r=.val (.sl (fH (eu c f)))):=by by_cases e5:c.kind=5;exact abh c f e5 hf (hl e5);by_cases e1:c.kind=1;exact aa5 c f e1;by_cases e2:c.kind=2;exact aa7 c f e2;by_cases e3:c.kind=3;exact aa9 c f e3;by_cases e4:c.kind=4;exact abb c f e4;by_cases e6:c.kind=6;exact abd c f e6;exact abf c f oO
def fN:List ew->List bw->List bw×Int|[],own=>(own,0)|c::l,own=>if cQ c≠0 then([],cQ c)else if lp c own≠0 then([],lp c own)else fN l (own++eu c own.length)
theorem gB (c:ew)(l:List ew)(own:List bw):fN (c::l) own=if cQ c≠0 then([],cQ c)else if lp c own≠0 then([],lp c own)else fN l (own++eu c own.length):=rfl
def VH (x:List bw×Int):AV:=.eY [.sl (fH x.1),.int .i64 x.2]
theorem aeA (l:List ew)(hl:l.length<=400)(hz:∀c,c∈l->SzC c):aj C 112 [.sl (yo l)] (λr=>r=.val (VH (fN l []))):=by
 unfold yo;refine ag Tryz.func112 rfl rfl rfl ?_;refine bI 42 (λx:Nat×List bw=>[(0,.p (.sl (l.map cC))),(4,.eU 8 48 172 (x.2.map cA)),(5,.p (.int .i64 x.1))]) (λ_=>[]) (λx=>x.1<=l.length/\x.2.length<=4001*x.1/\fN l []=fN (l.drop x.1) x.2) (λx=>l.length-x.1) (0,[]) ⟨zL,zL,rfl⟩ rfl wS trivial ?_;rintro⟨k,own⟩ ⟨hk,hn,hE⟩;have hk:k<=l.length:=hk;have hn:own.length<=4001*k:=hn;have hE:fN l []=fN (l.drop k) own:=hE;refine bY (λhlt=>?_) (λhge=>?_);have hc:=hz l[k] (aL _);rw[bQ hlt]at hE;rw[gB]at hE;refine ix hlt ?_;refine cl (TD l[k] hc) ?_;refine cS (λh=>?_) (λh=>?_);rw[af h]at hE;rw[show fN l []=([],cQ l[k])from hE];exact rfl;rw[aa λg=>g h]at hE;refine ix hlt ?_;refine cl (aey l[k] own oO hc.over) ?_;refine cS (λh2=>?_) (λh2=>?_);rw[af h2]at hE;rw[show fN l []=([],lp l[k] own)from hE];exact rfl;rw[aa λg=>g h2]at hE;obtain⟨g1,g2,g3,-,-,-⟩:=gw h;have hm:=Dm h own.length;refine ix hlt ?_;have hml:(((own.map cA).length:Nat):Int)=(own.length:Int):=by rw[ai]
 refine cl (by rw[hml];exact abi l[k] own.length g1 g2 oO (λg=>by have :=(g3 g).1;omega)) ?_;refine⟨nA,nA,by show((own.map cA).length+((eu l[k] own.length).map cA).length)*296<=_;rw[ai,ai];omega,(own++eu l[k] own.length).map cA,by rw[aN];rfl,?_⟩;refine nx (k+1) (aU (k+1,own++eu l[k] own.length) ⟨hlt,by show(own++eu l[k] own.length).length<=4001*(k+1);rw[au];omega,hE⟩ (by show l.length-(k+1)<l.length-k;omega) rfl wS trivial);rw[dG oO]at hE;rw[hE];exact rfl
def cn (p:fW):List bw×Int:=if iy p.eV=false then([],5)else if 1000<p.message.length then([],4)else if p.time<0\/1099511627776<p.time then([],2)else if mS p.deps≠0 then([],mS p.deps)else if p.changes.length=0 then([],1)else if 400<p.changes.length then([],4)else fN p.changes []
theorem QO (p:fW)(hz:Sw p):aj C 83 [.agg (cP p)] (λr=>r=.val (VH (cn p))):=by
 obtain⟨E,hE⟩:∃E,cn p=E:=⟨_,rfl⟩;rw[hE];have hE:E=cn p:=hE.symm;unfold cn at hE;have jE:(((yo p.changes).length:Nat):Int)=(p.changes.length:Int):=by simp[yo]
 refine ag Tryz.func83 rfl rfl rfl ?_;refine cl (Ig p.eV (by have :=hz.eV;omega)) ?_;refine bq ?_;cases hn:iy p.eV with
 |false=>rw[hn,af rfl]at hE;rw[hE];exact rfl
 |true=>rw[hn,aa dD]at hE;refine az (λh=>?_) (λh=>?_);rw[af (show 1000<p.message.length by have :(p.message.length:Int)>1000:=h;omega)]at hE;rw[hE];exact rfl;rw[aa (show¬1000<p.message.length by have :¬(p.message.length:Int)>1000:=h;omega)]at hE;refine⟨none,?_⟩;refine az (λh=>?_) (λh=>az (λh2=>?_) (λh2=>?_));rw[af (show p.time<0\/1099511627776<p.time from .inl h)]at hE;rw[hE];exact rfl;rw[af (show p.time<0\/1099511627776<p.time from .inr h2)]at hE;rw[hE];exact rfl;rw[aa (show¬(p.time<0\/1099511627776<p.time)fromλg=>g.elim h h2)]at hE;refine cl (aez p.deps hz.deps) ?_;refine cS (λh=>?_) (λh=>?_);rw[af h]at hE;rw[hE];exact rfl;rw[aa λg=>g h]at hE;refine aD (λh=>?_) (λh=>?_);have h:(((yo p.changes).length:Nat):Int)=0:=h;rw[af (show p.changes.length=0 by omega)]at hE;rw[hE];exact rfl;have h:¬(((yo p.changes).length:Nat):Int)=0:=h;rw[aa (show¬p.changes.length=0 by omega)]at hE;refine az (λh4=>?_) (λh4=>?_);have h4:(((yo p.changes).length:Nat):Int)>400:=h4;rw[af (show 400<p.changes.length by omega)]at hE;rw[hE];exact rfl;have h4:¬(((yo p.changes).length:Nat):Int)>400:=h4;rw[aa (show¬400<p.changes.length by omega)]at hE;refine cl (aeA p.changes oO hz.each) ?_;rw[hE];exact rfl
theorem Ir:∀(l:List ew)(own:List bw),(fN l own).2=0->∀c,c∈l->cQ c=0
 |[],_,_=>λc h=>by cases h
 |c::l,own,h=>by rw[gB]at h;by_cases h1:cQ c≠0;rw[af h1]at h;exact absurd h h1;rw[aa h1]at h;by_cases h2:lp c own≠0;rw[af h2]at h;exact absurd h h2;rw[aa h2]at h;intro x hx;rcases aG.1 hx with rfl|hx;simpa using h1;exact Ir l _ h x hx
structure TE (p:fW):Prop where
 name:iy p.eV=true
 message:p.message.length<=1000
 time:0<=p.time/\p.time<=1099511627776
 deps:mS p.deps=0
 changes:1<=p.changes.length/\p.changes.length<=400
 each:∀c,c∈p.changes->cQ c=0
 all:cn p=fN p.changes []
theorem nB {p:fW}(h:(cn p).2=0):TE p:=by
 have hE:cn p=cn p:=rfl;conv at hE=>rhs;unfold cn
 rw[hE]at h;by_cases h1:iy p.eV=false;rw[af h1]at h;exact absurd h dD;rw[aa h1]at h hE;by_cases h2:1000<p.message.length;rw[af h2]at h;exact absurd h dD;rw[aa h2]at h hE;by_cases h3:p.time<0\/1099511627776<p.time;rw[af h3]at h;exact absurd h dD;rw[aa h3]at h hE;by_cases h4:mS p.deps≠0;rw[af h4]at h;exact absurd h h4;rw[aa h4]at h hE;by_cases h5:p.changes.length=0;rw[af h5]at h;exact absurd h dD;rw[aa h5]at h hE;by_cases h6:400<p.changes.length;rw[af h6]at h;exact absurd h dD;rw[aa h6]at h hE;exact⟨by simpa using h1,oO,oO,by simpa using h4,oO,Ir _ _ h,hE⟩
theorem qP {c:ew}(h:bG (eE c)=true)(h1:1<=c.kind)(h7:c.kind<=7):(c.kind=5->c.over=[])/\(c.kind≠5->c.lines=[]):=by simp only[bG,aY,decide_eq_true_eq]at h;obtain⟨-,-,-,-,-,-,-,-,hl,ho⟩:=h;refine⟨λe=>?_,λe=>?_⟩;rw[NI c e]at ho;exact ho;by_cases e1:c.kind=1;rw[Bw c e1]at hl;exact hl;by_cases e2:c.kind=2;rw[NG c e2]at hl;exact hl;by_cases e3:c.kind=3;rw[NH c e3]at hl;exact hl;by_cases e4:c.kind=4;rw[Io c e4]at hl;exact hl;by_cases e6:c.kind=6;rw[NJ c e6]at hl;exact hl;rw[EB c oO]at hl;exact hl
def mP (p:fW):Bytes×Int:=if(cn p).2≠0 then([],(cn p).2)else if(eX (kj p)).length<=65536 then(eX (kj p),0)else([],4)
def aiX (x:Bytes×Int):AV:=.eY [.str x.1,.int .i64 x.2]
theorem Lv (p:fW)(hz:Sw p)(hx:TE p->OkX (kj p)):aj C 98 [.agg (cP p)] (λr=>r=.val (aiX (mP p))):=by
 refine ag Tryz.func98 rfl rfl rfl ?_;refine cl (QO p hz) ?_;unfold mP;refine cS (λh=>?_) (λh=>?_);rw[af h];exact rfl;have h:(cn p).2=0:=h;rw[aa λg=>g h];have ho:=nB h;have hd:p.deps.length<=2^40:=by have :=ho.deps;unfold mS at this;by_cases g:100<p.deps.length;rw[af g]at this;exact absurd this dD;omega
 refine⟨_,aew p (hx ho) hd (by have :=ho.changes;omega) (λc hc=>?_),λr hr=>?_⟩;obtain⟨g1,g2,g3,g4,g5,-⟩:=gw (ho.each c hc);obtain⟨k1,k2⟩:=qP g5 g1 g2;refine⟨g1,g2,?_,?_⟩;by_cases h5:c.kind=5;have :=(g3 h5).1;omega;rw[k2 h5];exact zL;by_cases h5:c.kind=5;rw[k1 h5];exact zL;have :=g4 h5;omega;subst hr;unfold aev;by_cases hl:(eX (kj p)).length<=65536;rw[af hl,af hl];exact rfl;rw[aa hl,aa hl];exact rfl
def mL (p:fW):Dg×Int:=if(mP p).2≠0 then(bz,(mP p).2)else(QE (mP p).1,0)
def idR (x:Dg×Int):AV:=.eY [.agg (cD x.1),.int .i64 x.2]
theorem abj (p:fW):(mP p).1.length<=65536:=by unfold mP;by_cases h:(cn p).2≠0;rw[af h];exact zL;rw[aa h];by_cases h2:(eX (kj p)).length<=65536;rw[af h2];exact h2;rw[aa h2];exact zL
theorem TF (p:fW)(hz:Sw p)(hx:TE p->OkX (kj p)):aj C 65 [.agg (cP p)] (λr=>r=.val (idR (mL p))):=by have hlen:=abj p;refine ag Tryz.func65 rfl rfl rfl ?_;refine cl (Lv p hz hx) ?_;unfold mL;refine cS (λh=>?_) (λh=>?_);rw[af h];exact rfl;rw[aa λg=>g h];refine cl (ad9 (mP p).1 oO) ?_;exact rfl
theorem XD (p:fW)(hz:Sw p)(hx:TE p->OkX (kj p)):aj C 101 [.agg (cP p)] (λr=>r=.val (.int .i64 (mP p).2)):=by refine ag Tryz.func101 rfl rfl rfl ?_;refine cl (Lv p hz hx) ?_;exact rfl
theorem mQ {l:List Dg}:∀zs,zs∈l.map cD->zs.length=32:=by intro zs h;obtain⟨x,-,rfl⟩:=aA.1 h;rfl
def nS:List Dg->Dg->List Dg|[],x=>[x]|y::l,x=>if eZ y x<0 then y::nS l x else if y=x then y::l else x::y::l
theorem Is:∀(a b:List Dg)(x:Dg),(∀y,y∈a->eZ y x<0)->nS (a++b) x=a++nS b x|[],b,x,_=>rfl|y::a,b,x,h=>by rw[dZ,nS,af (h y (by simp)),Is a b x λz hz=>h z (by simp[hz])];rfl
theorem aeB {l:List Dg}{k:Nat}{x:Dg}(hk:k<l.length)(h:∀y,y∈l.take k->eZ y x<0)(h2:¬eZ l[k] x<0):nS l x=if l[k]=x then l else l.take k++[x]++l.drop k:=by
 have e:l=l.take k++(l[k]::l.drop (k+1)):=by rw[<-bQ hk,dw]
 have e2:l.drop k=l[k]::l.drop (k+1):=bQ hk;rw[e2];generalize l[k]=y at*;rw[show nS l x=nS (l.take k++(y::l.drop (k+1))) x from by rw[<-e],Is _ _ _ h,nS,aa h2];by_cases hy:y=x;rw[af hy,af hy];exact e.symm;rw[aa hy,aa hy];simp
theorem abk {l:List Dg}{x:Dg}(h:∀y,y∈l->eZ y x<0):nS l x=l++[x]:=by have :=Is l [] x h;rw[bg]at this;exact this
theorem Ks {l:List Dg}{k:Nat}{x:Dg}(hk:k<l.length)(h:∀y,y∈l.take k->eZ y x<0)(h2:eZ l[k] x<0):∀y,y∈l.take (k+1)->eZ y x<0:=by intro y hy;rw[<-eS hk,aW,aO]at hy;rcases hy with hy|rfl;exact h y hy;exact h2
theorem QS (l:List Dg)(x:Dg)(hl:l.length<=2^20):aj C 102 [.sl (jJ l),.agg (cD x)] (λr=>r=.val (.sl (jJ (nS l x)))):=by
 unfold jJ;refine ag Tryz.func102 rfl rfl rfl ?_;refine bI 49 (λk:Nat=>[(0,.p (.sl (l.map cD))),(3,.ptr 3 0),(5,.p (.int .i64 k))]) (λ_=>[(3,aF (cD x))]) (λk=>k<=l.length/\∀y,y∈l.take k->eZ y x<0) (λk=>l.length-k) 0 ⟨zL,by simp⟩ rfl wS oS ?_;rintro k ⟨hk,hn⟩;refine cG 10 kK ?_;refine bY (λhlt=>?_) (λhge=>?_);refine ix hlt ?_;refine cl (pz l[k] x) ?_;refine az (λh=>?_) (λh=>?_);exact nx (k+1) (aU (k+1) ⟨hlt,Ks hlt hn h⟩ oO rfl wS oS);have hI:=aeB hlt hn h;refine cG 10 kK ?_;refine bY (λhlt=>?_) (λhge=>absurd hlt hge);refine ix hlt ?_;refine⟨yw,dR,kP,rfl,rfl,?_⟩;refine Ib (a:=l[k]) (b:=x) ?_;by_cases hx:l[k]=x;rw[av hx];rw[af hx]at hI;rw[hI];exact rfl;rw[ak hx];rw[aa hx]at hI;rw[hI];refine⟨k,rfl,zL,by rw[ai];exact hk,mQ,(l.take k).map cD,by simp[mc],?_⟩;refine⟨(λzs h=>nomatch h),mQ,by show(0+((l.take k).map cD).length)*32<=_;rw[ai,aH];omega,(l.take k).map cD,rfl,?_⟩;refine⟨mQ,mQ (l:=[x]),by show(((l.take k).map cD).length+1)*32<=_;rw[ai,aH];omega,(l.take k++[x]).map cD,by rw[aN];rfl,?_⟩;refine⟨k,rfl,by rw[ai];exact hk,ay _,mQ,(l.drop k).map cD,by rw[cF (ay _),nQ],?_⟩;refine⟨mQ,mQ,by show(((l.take k++[x]).map cD).length+((l.drop k).map cD).length)*32<=_;simp only[ai,au,aH,cL,aI,bk];omega,(l.take k++[x]++l.drop k).map cD,by rw[<-aN],?_⟩;exact .inr rfl;have ZU:k=l.length:=oO
 have hI:nS l x=l.take k++[x]++l.drop k:=by rw[cF oO]at hn⊢;rw[dG oO,bg];exact abk hn
 refine cG 10 kK ?_;refine bY (λhlt=>absurd hlt hge) (λhge=>?_);rw[hI];refine⟨k,rfl,zL,by rw[ai];exact hk,mQ,(l.take k).map cD,by simp[mc],?_⟩;refine⟨(λzs h=>nomatch h),mQ,by show(0+((l.take k).map cD).length)*32<=_;rw[ai,aH];omega,(l.take k).map cD,rfl,?_⟩;refine⟨mQ,mQ (l:=[x]),by show(((l.take k).map cD).length+1)*32<=_;rw[ai,aH];omega,(l.take k++[x]).map cD,by rw[aN];rfl,?_⟩;refine⟨k,rfl,by rw[ai];exact hk,ay _,mQ,(l.drop k).map cD,by rw[cF (ay _),nQ],?_⟩;refine⟨mQ,mQ,by show(((l.take k++[x]).map cD).length+((l.drop k).map cD).length)*32<=_;simp only[ai,au,aH,cL,aI,bk];omega,(l.take k++[x]++l.drop k).map cD,by rw[<-aN],?_⟩;exact .inr rfl
def bW (x:bf)(d:Dg):bf:=if x.p=bz/\0<=x.n then⟨d,x.n⟩else x
theorem zu (x:bf)(d:Dg):aj C 84 [.agg (cI x),.agg (cD d)] (λr=>r=.val (.agg (cI (bW x d)))):=by refine ag Tryz.func84 rfl rfl rfl ?_;refine⟨none,?_⟩;refine cl (wU x.p) ?_;unfold bW;by_cases h:x.p=bz;rw[av h];refine az (λh2=>?_) (λh2=>?_);rw[af ⟨h,h2⟩];exact rfl;rw[aa λg=>h2 g.2];exact rfl;rw[ak h,aa λg=>h g.1];exact rfl
def st1 (d:Dg)(a:bw):bw:={a with id:=⟨d,a.id.n⟩}
def st2 (d:Dg)(a:bw):bw:=if a.kind≠7 then{a with file:=bW a.file d}else a
def JO (d:Dg)(a:bw):bw:=if a.kind=2 then{a with parent:=bW a.parent d}else a
def JP (d:Dg)(a:bw):bw:=if a.kind=6 then{a with fr:=bW a.fr d,to:=bW a.to d}else a
def OX (d:Dg)(l:List bf):List bf:=(l.map λx=>bW x d).foldl kX []
def Za (d:Dg)(a:bw):bw:={a with over:=OX d a.over}
def fD (d:Dg)(a:bw):bw:=Za d (JP d (JO d (st2 d (st1 d a))))
theorem It (d:Dg)(a:bw):(st2 d a).over=a.over:=by unfold st2;split<;>rfl
theorem Iu (d:Dg)(a:bw):(JO d a).over=a.over:=by unfold JO;split<;>rfl
theorem Iv (d:Dg)(a:bw):(JP d a).over=a.over:=by unfold JP;split<;>rfl
theorem Iw (l:List bf)(x:bf):(kX l x).length<=l.length+1:=by
 induction l with
 |nil=>simp[kX]
 |cons y l ih=>unfold kX;split;simp only[aI];omega;split<;>simp
theorem zv:∀(l acc:List bf),(l.foldl kX acc).length<=acc.length+l.length
 |[],acc=>by simp
 |x::l,acc=>by have h1:=zv l (kX acc x);have h2:=Iw acc x;simp only[eD,aI];omega
theorem VI (d:Dg)(l:List bf):(OX d l).length<=l.length:=by have :=zv (l.map λx=>bW x d) [];simpa[OX]using this
theorem abl (d:Dg){l:List bf}{k:Nat}(h:k<l.length):OX d (l.take (k+1))=kX (OX d (l.take k)) (bW l[k] d):=by unfold OX;rw[ct h,xh];rfl
def dx (p:fW):List bw×Int:=if(mL p).2≠0 then([],(mL p).2)else((cn p).1.map (fD (mL p).1),0)
theorem abm (p:fW)(hz:Sw p)(hx:TE p->OkX (kj p))(hL:(cn p).1.length<=2^30)(hO:∀a,a∈(cn p).1->a.over.length<=2^20):aj C 51 [.agg (cP p)] (λr=>r=.val (VH (dx p))):=by
 refine dQ [13,15,17] Tryz.func51 rfl rfl rfl ?_;refine cl (TF p hz hx).cut ?_;unfold dx;generalize mL p=i;refine cS (λh=>?_) (λh=>?_);rw[af h];exact rfl;rw[aa λg=>g h];refine cl (QO p hz).cut ?_;generalize cn p=X at hL hO⊢;obtain⟨L,e0⟩:=X;obtain⟨d,e1⟩:=i;have hL:L.length<=2^30:=hL;have hO:∀a,a∈L->a.over.length<=2^20:=hO;show _;refine bI 94 (λk:Nat=>[(4,.ptr 4 0),(6,.p (.sl (L.map cA))),(8,.eU 27 48 172 (((L.take k).map (fD d)).map cA)),(9,.p (.int .i64 k))]) (λ_=>[(4,aF (cD d))]) (λk=>k<=L.length) (λk=>L.length-k) 0 (zL) rfl wS oS ?_;intro k hk;refine bY (l:=L) (f:=cA) (λhlt=>?_) (λhge=>?_);rotate_left;obtain rfl:k=L.length:=oO
 rw[aP];exact rfl;obtain⟨a,hq⟩:∃a,L[k]=a:=⟨_,rfl⟩;have ho:a.over.length<=2^20:=by rw[<-hq];exact hO _ (aL _)
 have jc:(L.map cA)[((k:Nat):Int).toNat]?=some (cA a):=by rw[<-hq];exact cO rfl hlt
 have VJ:(fD d a).over=OX d a.over:=by unfold fD Za;show OX d (JP d (JO d (st2 d (st1 d a)))).over=_;rw[Iv,Iu,It];rfl
 refine⟨oO,_,jc,rfl,?_⟩;have hfull:fD d a=Za d (JP d (JO d (st2 d {a with id:=⟨d,a.id.n⟩}))):=rfl;have EC:({a with id:=⟨d,a.id.n⟩}:bw).over=a.over:=rfl;refine share (T:=?T2) (λH2=>?m2) ?r2;case m2=>refine cS (λh7=>?_) (λh7=>?_);refine cl (zu a.file d).cut ?_;have e2:st2 d {a with id:=⟨d,a.id.n⟩}={a with id:=⟨d,a.id.n⟩,file:=bW a.file d}:=af h7;have OW:=hfull;rw[e2]at OW;refine dI 94 [(4,.ptr 4 0),(6,.p (.sl (L.map cA))),(8,.eU 27 48 172 (((L.take k).map (fD d)).map cA)),(9,.p (.int .i64 (k:Int))),(10,.ptr 10 0)] [(4,aF (cD d)),(10,aF (cA ({a with id:=⟨d,a.id.n⟩,file:=bW a.file d})))] rfl wS oS ?_;have Kt:({a with id:=⟨d,a.id.n⟩,file:=bW a.file d}:bw).over=a.over:=EC;generalize hb:({a with id:=⟨d,a.id.n⟩,file:=bW a.file d}:bw)=a2 at OW Kt⊢;clear hb;revert a2;exact H2.out;have e2:st2 d {a with id:=⟨d,a.id.n⟩}={a with id:=⟨d,a.id.n⟩}:=aa (λg=>g h7);have OW:=hfull;rw[e2]at OW;refine dI 94 [(4,.ptr 4 0),(6,.p (.sl (L.map cA))),(8,.eU 27 48 172 (((L.take k).map (fD d)).map cA)),(9,.p (.int .i64 (k:Int))),(10,.ptr 10 0)] [(4,aF (cD d)),(10,aF (cA ({a with id:=⟨d,a.id.n⟩})))] rfl wS oS ?_;have Kt:({a with id:=⟨d,a.id.n⟩}:bw).over=a.over:=EC;generalize hb:({a with id:=⟨d,a.id.n⟩}:bw)=a2 at OW Kt⊢;clear hb;revert a2;exact H2.out
 case r2=>
  intro a2 hfull EC;refine share (T:=?T3) (λH3=>?m3) ?r3;case m3=>refine aD (λh7=>?_) (λh7=>?_);refine cl (zu a2.parent d).cut ?_;have e2:JO d a2={a2 with parent:=bW a2.parent d}:=af h7;have OW:=hfull;rw[e2]at OW;refine dI 94 [(4,.ptr 4 0),(6,.p (.sl (L.map cA))),(8,.eU 27 48 172 (((L.take k).map (fD d)).map cA)),(9,.p (.int .i64 (k:Int))),(10,.ptr 10 0)] [(4,aF (cD d)),(10,aF (cA ({a2 with parent:=bW a2.parent d})))] rfl wS oS ?_;have Kt:({a2 with parent:=bW a2.parent d}:bw).over=a.over:=EC;generalize hb:({a2 with parent:=bW a2.parent d}:bw)=a3 at OW Kt⊢;clear hb;revert a3;exact H3.out;have e2:JO d a2=a2:=aa h7;have OW:=hfull;rw[e2]at OW;refine dI 94 [(4,.ptr 4 0),(6,.p (.sl (L.map cA))),(8,.eU 27 48 172 (((L.take k).map (fD d)).map cA)),(9,.p (.int .i64 (k:Int))),(10,.ptr 10 0)] [(4,aF (cD d)),(10,aF (cA (a2)))] rfl wS oS ?_;have Kt:(a2:bw).over=a.over:=EC;generalize hb:(a2:bw)=a3 at OW Kt⊢;clear hb;revert a3;exact H3.out
  case r3=>
   intro a3 hfull EC;refine share (T:=?T4) (λH4=>?m4) ?r4;case m4=>refine aD (λh7=>?_) (λh7=>?_);refine cG 9 kK ?_;refine⟨_,(zu a3.fr d).cut,?_⟩;refine⟨_,(zu a3.to d).cut,?_⟩;have e2:JP d a3={a3 with fr:=bW a3.fr d,to:=bW a3.to d}:=af h7;have OW:=hfull;rw[e2]at OW;refine dI 94 [(4,.ptr 4 0),(6,.p (.sl (L.map cA))),(8,.eU 27 48 172 (((L.take k).map (fD d)).map cA)),(9,.p (.int .i64 (k:Int))),(10,.ptr 10 0)] [(4,aF (cD d)),(10,aF (cA ({a3 with fr:=bW a3.fr d,to:=bW a3.to d})))] rfl wS oS ?_;have Kt:({a3 with fr:=bW a3.fr d,to:=bW a3.to d}:bw).over=a.over:=EC;generalize hb:({a3 with fr:=bW a3.fr d,to:=bW a3.to d}:bw)=a4 at OW Kt⊢;clear hb;revert a4;exact H4.out;have e2:JP d a3=a3:=aa h7;have OW:=hfull;rw[e2]at OW;refine dI 94 [(4,.ptr 4 0),(6,.p (.sl (L.map cA))),(8,.eU 27 48 172 (((L.take k).map (fD d)).map cA)),(9,.p (.int .i64 (k:Int))),(10,.ptr 10 0)] [(4,aF (cD d)),(10,aF (cA (a3)))] rfl wS oS ?_;have Kt:(a3:bw).over=a.over:=EC;generalize hb:(a3:bw)=a4 at OW Kt⊢;clear hb;revert a4;exact H4.out
   case r4=>
    intro a4 hfull EC;refine bI 94 (λj:Nat=>[(4,.ptr 4 0),(6,.p (.sl (L.map cA))),(8,.eU 27 48 172 (((L.take k).map (fD d)).map cA)),(9,.p (.int .i64 (k:Int))),(10,.ptr 10 0),(11,.p (.sl (iS (OX d (a4.over.take j))))),(12,.p (.int .i64 (j:Int)))]) (λ_=>[(4,aF (cD d)),(10,aF (cA a4))]) (λj=>j<=a4.over.length) (λj=>a4.over.length-j) 0 (zL) rfl ⟨aR.refl _,aR.refl _,aR.refl _,aR.refl _,aR.refl _,aR.Qw _ _ _ _,aR.refl _,trivial⟩ oS ?_;intro j hj;have VG:a4.over.length<=2^20:=by rw[EC];exact ho
    refine bY (l:=a4.over) (f:=cI) (λeH=>?_) (λvC=>?_);have hsn:=abl d eH;have hln:(OX d (a4.over.take j)).length<=2^20:=by have :=VI d (a4.over.take j);rw[aH]at this;omega
    refine cG 8 kK ?_;refine ix eH ?_;refine⟨_,(zu a4.over[j] d).cut,?_⟩;refine⟨_,(VA (OX d (a4.over.take j)) (bW a4.over[j] d) hln).cut,λr hr=>?_⟩;rw[<-hsn]at hr;subst hr;exact nx (j+1) (aU (j+1) eH oO rfl wS oS);obtain rfl:j=a4.over.length:=oO
    rw[aP];refine⟨nA,nA (l:=[Za d a4]),by show((((L.take k).map (fD d)).map cA).length+1)*296<=_;rw[ai,ai,aH];omega,((L.take (k+1)).map (fD d)).map cA,by rw[ct hlt,hq,hfull,<-TC];rfl,?_⟩;exact nx (k+1) (aU (k+1) hlt oO rfl wS oS)
def xk (out:List Dg)(x:bf):List Dg:=if x.p=bz then out else nS out x.p
def refsOf (c:ew):List bf:=[c.file,c.parent,c.dc,c.dy]++c.over
def cu (p:fW):List Dg:=if(mP p).2≠0 then[]else(p.changes.flatMap refsOf).foldl xk (p.deps.foldl nS [])
theorem QT (l:List Dg)(x:Dg):(nS l x).length<=l.length+1:=by
 induction l with
 |nil=>simp[nS]
 |cons y l ih=>unfold nS;split;simp only[aI];omega;split<;>simp
theorem qf:∀(l acc:List Dg),(l.foldl nS acc).length<=acc.length+l.length
 |[],acc=>by simp
 |x::l,acc=>by have h1:=qf l (nS acc x);have h2:=QT acc x;simp only[eD,aI];omega
theorem abn (l:List Dg)(x:bf):(xk l x).length<=l.length+1:=by unfold xk;split;omega;exact QT l x.p
theorem qg:∀(l:List bf)(acc:List Dg),(l.foldl xk acc).length<=acc.length+l.length
 |[],acc=>by simp
 |x::l,acc=>by have h1:=qg l (xk acc x);have h2:=abn acc x;simp only[eD,aI];omega
theorem iY {α β:Type}{f:β->α->β}{l:List α}{k:Nat}(h:k<l.length)(acc:β):(l.take (k+1)).foldl f acc=f ((l.take k).foldl f acc) l[k]:=by rw[<-eS h,xh];rfl
theorem lq {α β:Type}{f:α->List β}{l:List α}{k:Nat}(h:k<l.length):(l.take (k+1)).flatMap f=(l.take k).flatMap f++f l[k]:=by rw[<-eS h,mg];simp
theorem NM {p:fW}(h:(mP p).2=0):TE p/\mP p=(eX (kj p),0):=by unfold mP at h⊢;by_cases h1:(cn p).2≠0;rw[af h1]at h;exact absurd h h1;rw[aa h1]at h⊢;refine⟨nB (by simpa using h1),?_⟩;by_cases h2:(eX (kj p)).length<=65536;rw[af h2];rw[aa h2]at h;exact absurd h dD
theorem zw {p:fW}(h:TE p):p.deps.length<=100:=by have :=h.deps;unfold mS at this;by_cases g:100<p.deps.length;rw[af g]at this;exact absurd this dD;omega
theorem Iy {p:fW}(h:TE p){c:ew}(hc:c∈p.changes):c.over.length<=400:=by obtain⟨g1,g2,-,g4,g5,-⟩:=gw (h.each c hc);by_cases e:c.kind=5;rw[(qP g5 g1 g2).1 e];exact zL;exact g4 e
theorem Iz {p:fW}(h:TE p){c:ew}(hc:c∈p.changes):(refsOf c).length<=404:=by have :=Iy h hc;simp only[refsOf,au,aI,bk];omega
theorem IA {p:fW}(h:TE p):∀k,k<=p.changes.length->((p.changes.take k).flatMap refsOf).length<=404*k|0,_=>ay _|k+1,hk=>by rw[lq hk,au];have h1:=IA h k oO;have h2:=Iz h (aL hk);omega
theorem IB (p:fW)(hz:Sw p)(hx:TE p->OkX (kj p)):aj C 69 [.agg (cP p)] (λr=>r=.val (.sl (jJ (cu p)))):=by
 refine ag Tryz.func69 rfl rfl rfl ?_;refine cl (XD p hz hx) ?_;unfold cu;refine cS (λh=>?_) (λh=>?_);rw[af h];exact .inr rfl;have h:(mP p).2=0:=h;rw[aa λg=>g h];have ho:=(NM h).1;have hdl:=zw ho;have jE:=ho.changes.2;refine bI 73 (λk:Nat=>[(1,.ptr 1 0),(3,.p (.sl (jJ ((p.deps.take k).foldl nS [])))),(4,.p (.int .i64 (k:Int)))]) (λ_=>[(1,aF (cP p))]) (λk=>k<=p.deps.length) (λk=>p.deps.length-k) 0 (zL) rfl ⟨aR.refl _,aR.Qw _ _ _ _,aR.refl _,trivial⟩ oS ?_;intro k hk;refine bY (l:=p.deps) (f:=cD) (λhlt=>?_) (λhge=>?_);have hb:((p.deps.take k).foldl nS []).length<=2^20:=by have :=qf (p.deps.take k) [];rw[aH]at this;simp only[bk]at this;omega
 refine ix hlt ?_;refine⟨_,QS _ p.deps[k] hb,λr hr=>?_⟩;rw[<-iY (f:=nS) hlt []]at hr;subst hr;exact nx (k+1) (aU (k+1) hlt oO rfl wS oS);obtain rfl:k=p.deps.length:=oO
 rw[aP];have hbase:=qf p.deps [];simp only[bk]at hbase;generalize p.deps.foldl nS []=base at hbase⊢;refine bI 73 (λk:Nat=>[(1,.ptr 1 0),(3,.p (.sl (jJ (((p.changes.take k).flatMap refsOf).foldl xk base)))),(5,.p (.int .i64 (k:Int)))]) (λ_=>[(1,aF (cP p))]) (λk=>k<=p.changes.length) (λk=>p.changes.length-k) 0 (zL) rfl wS oS ?_;intro k hk2;refine bY (l:=p.changes) (f:=cC) (λhlt=>?_) (λhge=>?_);rotate_left;obtain rfl:k=p.changes.length:=oO
 rw[aP];exact rfl;have hm:=aL hlt;have EC:=Iy ho hm;have hfl:=IA ho k oO;have hrl:=Iz ho hm;have hout:=qg ((p.changes.take k).flatMap refsOf) base;have hnext:((p.changes.take (k+1)).flatMap refsOf).foldl xk base=(refsOf p.changes[k]).foldl xk (((p.changes.take k).flatMap refsOf).foldl xk base):=by rw[lq hlt,xh]
 refine ix hlt ?_;generalize hc:p.changes[k]=c at*;generalize((p.changes.take k).flatMap refsOf).foldl xk base=out at*;refine⟨gL (l:=[c.file,c.parent,c.dc,c.dy]),gL,by show(4+(c.over.map cI).length)*40<=_;rw[ai];omega,(refsOf c).map cI,rfl,?_⟩;refine bI 73 (λj:Nat=>[(1,.ptr 1 0),(3,.p (.sl (jJ (((refsOf c).take j).foldl xk out)))),(5,.p (.int .i64 (k:Int))),(7,.eU 48 33 33 ((refsOf c).map cI)),(8,.p (.int .i64 (j:Int)))]) (λ_=>[(1,aF (cP p))]) (λj=>j<=(refsOf c).length) (λj=>(refsOf c).length-j) 0 (zL) rfl wS oS ?_;intro j hj;refine bY (l:=refsOf c) (f:=cI) (λeH=>?_) (λvC=>?_);have VG:=qg ((refsOf c).take j) out;rw[aH]at VG;have hs:=iY (f:=xk) eH out;refine ix eH ?_;refine cl (wU (refsOf c)[j].p) ?_;refine bq ?_;by_cases hz0:(refsOf c)[j].p=bz;rw[av hz0];rw[xk,af hz0]at hs;exact nx (j+1) (aU (j+1) eH oO rfl ⟨aR.refl _,aR.eq (by rw[hs];rfl),aR.refl _,aR.refl _,aR.refl _,trivial⟩ oS);rw[ak hz0];rw[xk,aa hz0]at hs;refine ix eH ?_;refine⟨_,QS _ (refsOf c)[j].p oO,λr hr=>?_⟩;rw[<-hs]at hr;subst hr;exact nx (j+1) (aU (j+1) eH oO rfl wS oS);obtain rfl:j=(refsOf c).length:=oO
 rw[aP];exact nx (k+1) (aU (k+1) hlt oO rfl ⟨aR.refl _,aR.eq (by rw[hnext];rfl),aR.refl _,trivial⟩ oS)
theorem TG {c:ew}(h:cQ c=0)(f:Nat):∀a,a∈eu c f->a.over.length<=400:=by
 obtain⟨g1,g2,-,g4,g5,-⟩:=gw h;have EC:c.over.length<=400:=by by_cases e:c.kind=5;rw[(qP g5 g1 g2).1 e];exact zL;exact g4 e
 intro a ha;unfold eu at ha;by_cases e:c.kind=5;rw[af e]at ha;rcases aW.1 ha with ha|ha;obtain⟨i,-,rfl⟩:=aA.1 ha;exact zL;obtain⟨i,-,rfl⟩:=aA.1 ha;exact zL;rw[aa e]at ha;obtain rfl:=aO.1 ha;unfold mh;repeat' split
 all_goals first|exact EC|exact zL
theorem zx:∀(l:List ew)(own:List bw),(∀a,a∈own->a.over.length<=400)->(fN l own).1.length<=own.length+4001*l.length/\∀a,a∈(fN l own).1->a.over.length<=400
 |[],own,h=>⟨ay _,h⟩
 |c::l,own,h=>by
  rw[gB];by_cases h1:cQ c≠0;rw[af h1];exact⟨zL,λa ha=>by cases ha⟩;rw[aa h1];by_cases h2:lp c own≠0;rw[af h2];exact⟨zL,λa ha=>by cases ha⟩;rw[aa h2];have h1:cQ c=0:=by simpa using h1
  obtain⟨g1,g2⟩:=zx l (own++eu c own.length) λa ha=>by rcases aW.1 ha with ha|ha;exact h a ha;exact TG h1 _ a ha
  refine⟨?_,g2⟩;have :=Dm h1 own.length;simp only[au,aI]at g1⊢;omega
theorem Lw:∀(l:List ew)(own:List bw),(fN l own).2≠0->(fN l own).1=[]|[],own,h=>absurd rfl h|c::l,own,h=>by rw[gB]at h⊢;by_cases h1:cQ c≠0;rw[af h1];rw[aa h1]at h⊢;by_cases h2:lp c own≠0;rw[af h2];rw[aa h2]at h⊢;exact Lw l _ h
theorem TH {p:fW}(h:(cn p).2≠0):(cn p).1=[]:=by unfold cn at h⊢;by_cases h1:iy p.eV=false;rw[af h1];rw[aa h1]at h⊢;by_cases h2:1000<p.message.length;rw[af h2];rw[aa h2]at h⊢;by_cases h3:p.time<0\/1099511627776<p.time;rw[af h3];rw[aa h3]at h⊢;by_cases h4:mS p.deps≠0;rw[af h4];rw[aa h4]at h⊢;by_cases h5:p.changes.length=0;rw[af h5];rw[aa h5]at h⊢;by_cases h6:400<p.changes.length;rw[af h6];rw[aa h6]at h⊢;exact Lw _ _ h
theorem kn (p:fW):(cn p).1.length<=2^22/\∀a,a∈(cn p).1->a.over.length<=400:=by
 by_cases h:(cn p).2=0;have ho:=nB h;rw[ho.all];obtain⟨g1,g2⟩:=zx p.changes [] λa ha=>by cases ha
 refine⟨?_,g2⟩;have :=ho.changes.2;simp only[bk]at g1;omega;have :(cn p).1=[]:=TH h;rw[this];exact⟨zL,λa ha=>by cases ha⟩
structure zy (p:fW):Prop where
 sz:Sw p
 enc:TE p->OkX (kj p)
theorem Lx (p:fW)(h:zy p):aj C 51 [.agg (cP p)] (λr=>r=.val (VH (dx p))):=abm p h.sz h.enc (by have :=(kn p).1;omega) λa ha=>by have :=(kn p).2 a ha;omega
structure ED (s:List bK):Prop where
 len:s.length<=2^47
 each:∀x,x∈s->zy x.pat
def Dn:fW:=⟨[],[],0,[],[]⟩
theorem abo:zy Dn:=⟨⟨zL,zL,zL,zL,λc h=>by cases h⟩,λh=>absurd h.name dD⟩
theorem abp (l:List Dg)(x:Dg)(hl:l.length<=2^47):aj C 100 [.sl (jJ l),.agg (cD x)] (λr=>r=.val (.bool (decide (x∈l)))):=by
 unfold jJ;refine ag Tryz.func100 rfl rfl rfl ?_;refine bI 18 (λk:Nat=>[(0,.p (.sl (l.map cD))),(3,.ptr 3 0),(5,.p (.int .i64 k))]) (λ_=>[(3,aF (cD x))]) (λk=>k<=l.length/\x∉l.take k) (λk=>l.length-k) 0 ⟨zL,by simp⟩ rfl wS oS ?_;rintro k ⟨hk,hn⟩;refine bY (λhlt=>?_) (λhge=>?_);refine cG 5 kK ?_;refine ix hlt ?_;refine⟨yw,dR,kP,rfl,rfl,?_⟩;refine Ib (a:=l[k]) (b:=x) ?_;by_cases h:l[k]=x;rw[av h];have :x∈l:=h▸aL hlt;show dh.val (.bool true)=_;simp[this];rw[ak h];exact nx (k+1) (aU (k+1) ⟨hlt,wX hlt hn h⟩ oO rfl wS oS);have :x∉l:=by rw[cF oO]at hn;exact hn
 show dh.val (.bool false)=_;simp[this]
def gh:List bK->Dg->fW×Bool|[],_=>(Dn,false)|x::s,d=>if x.id=d then(x.pat,true)else gh s d
def alk (x:fW×Bool):AV:=.eY [.agg (cP x.1),.bool x.2]
theorem XE {s:List bK}{k:Nat}(h:k<s.length)(d:Dg):gh (s.drop k) d=if s[k].id=d then(s[k].pat,true)else gh (s.drop (k+1)) d:=by rw[bQ h];rfl
theorem IC:∀{s:List bK}(h:∀x,x∈s->zy x.pat)(d:Dg),zy (gh s d).1|[],_,_=>abo|x::s,h,d=>by unfold gh;split;exact h x (by simp);exact IC (λy hy=>h y (by simp[hy])) d
theorem QU (s:List bK)(d:Dg)(hl:s.length<=2^47):aj C 85 [.sl (cU s),.agg (cD d)] (λr=>r=.val (alk (gh s d))):=by unfold cU;refine ag Tryz.func85 rfl rfl rfl ?_;refine bI 26 (λk:Nat=>[(0,.p (.sl (s.map mO))),(3,.ptr 3 0),(4,.ptr 4 0),(6,.p (.int .i64 k))]) (λ_=>[(3,aF (cD d)),(4,[.p (.str []),.p (.str []),.p (.int .i64 0),.full [],.full []])]) (λk=>k<=s.length/\gh s d=gh (s.drop k) d) (λk=>s.length-k) 0 ⟨zL,rfl⟩ rfl wS oS ?_;rintro k ⟨hk,hE⟩;refine bY (λhlt=>?_) (λhge=>?_);rw[XE hlt]at hE;refine cG 6 kK ?_;refine ix hlt ?_;refine⟨yw,dR,kP,rfl,rfl,?_⟩;refine Ib (a:=s[k].id) (b:=d) ?_;by_cases h:s[k].id=d;rw[av h];rw[af h]at hE;refine ix hlt ?_;rw[hE];exact rfl;rw[ak h];rw[aa h]at hE;exact nx (k+1) (aU (k+1) ⟨hlt,hE⟩ oO rfl wS oS);rw[dG oO]at hE;rw[hE];exact rfl
def dJ (s:List bK):List Dg:=s.map λx=>x.id
theorem abq (s:List bK)(hl:s.length<=2^40):aj C 67 [.sl (cU s)] (λr=>r=.val (.sl (jJ (dJ s)))):=by
 unfold cU jJ dJ;refine ag Tryz.func67 rfl rfl rfl ?_;refine bI 21 (λk:Nat=>[(0,.p (.sl (s.map mO))),(3,.eU 5 31 32 (((s.take k).map λx=>x.id).map cD)),(4,.p (.int .i64 k))]) (λ_=>[]) (λk=>k<=s.length) (λk=>s.length-k) 0 (zL) rfl wS trivial ?_;intro k hk;refine bY (λhlt=>?_) (λhge=>?_);refine ix hlt ?_;refine⟨mQ,mQ (l:=[s[k].id]),by show((((s.take k).map λx=>x.id).map cD).length+1)*32<=_;rw[ai,ai,aH];omega,((s.take (k+1)).map λx=>x.id).map cD,by rw[ct hlt,aN];rfl,?_⟩;exact nx (k+1) (aU (k+1) hlt oO rfl wS trivial);obtain rfl:k=s.length:=oO
 rw[aP];exact .inr rfl
def sP (l some:List Dg):Bool:=some.all λx=>decide (x∈l)
theorem TI (l some:List Dg)(hl:l.length<=2^47)(hs:some.length<=2^47):aj C 68 [.sl (jJ l),.sl (jJ some)] (λr=>r=.val (.bool (sP l some))):=by
 refine ag Tryz.func68 rfl rfl rfl ?_;refine bI 19 (λk:Nat=>[(0,.p (.sl (jJ l))),(1,.p (.sl (some.map cD))),(5,.p (.int .i64 k))]) (λ_=>[]) (λk=>k<=some.length/\(some.take k).all (λx=>decide (x∈l))=true) (λk=>some.length-k) 0 ⟨zL,rfl⟩ rfl wS trivial ?_;rintro k ⟨hk,hall⟩;refine bY (λhlt=>?_) (λhge=>?_);refine ix hlt ?_;refine cl (abp l some[k] hl) ?_;refine bq ?_;cases hv:decide (some[k]∈l)with
 |false=>have :some.all (λx=>decide (x∈l))=false:=NK hlt hv;show dh.val _=_;rw[sP,this]
 |true=>exact nx (k+1) (aU (k+1) ⟨hlt,rD hlt hall hv⟩ oO rfl wS trivial)
 have :some.all (λx=>decide (x∈l))=true:=by rw[cF oO]at hall;exact hall
 show dh.val _=_;rw[sP,this]
theorem FM (x:bf)(d:Dg):aj C 137 [.agg (cI x),.agg (cD d)] (λr=>r=.val (.agg (cI (bW x d)))):=by refine ag Tryz.func137 rfl rfl rfl ?_;refine⟨none,?_⟩;unfold bW;refine az (λh2=>?_) (λh2=>?_);refine⟨yw,dR,kP,rfl,rfl,?_⟩;refine Ib (a:=x.p) (b:=bz) ?_;by_cases h:x.p=bz;rw[av h,af ⟨h,h2⟩];exact rfl;rw[ak h,aa λg=>h g.1];exact rfl;rw[aa λg=>h2 g.2];exact rfl
theorem Dp (x:bf):aj C 131 [.agg (cI x)] (λr=>r=.val (.bool (!decide (x.p=bz)))):=by refine ag Tryz.func131 rfl rfl rfl ?_;refine⟨yw,dR,kP,rfl,rfl,?_⟩;refine QB (a:=x.p) (b:=bz) ?_;exact rfl
theorem aeC (x:bw):aj C 134 [.agg (cA x)] (λr=>r=.val (.bool (AH x))):=by refine ag Tryz.func134 rfl rfl rfl ?_;refine⟨none,?_⟩;refine aD (λh=>?_) (λh=>?_);refine aD (λh2=>?_) (λh2=>?_);have h:x.kind=1:=h;have h2:x.type=4:=h2;show dh.val (.bool true)=_;simp[AH,h,h2];have h2:¬x.type=4:=h2;show dh.val (.bool false)=_;simp[AH,h2];have h:¬x.kind=1:=h;show dh.val (.bool false)=_;simp[AH,h]
def ij (s:List bK)(x:bf):bw×Bool:=if x.n<0\/((dx (gh s x.p).1).1.length:Int)<=x.n then(hU,false)else((dx (gh s x.p).1).1.getD x.n.toNat hU,true)
def atR (x:bw×Bool):AV:=.eY [.agg (cA x.1),.bool x.2]
theorem ID (p:fW):(dx p).1.length<=2^22:=by unfold dx;by_cases h:(mL p).2≠0;rw[af h];exact zL;rw[aa h];show((cn p).1.map _).length<=_;rw[ai];exact(kn p).1
theorem Dq (s:List bK)(x:bf)(hs:ED s):aj C 132 [.sl (cU s),.agg (cI x)] (λr=>r=.val (atR (ij s x))):=by
 have hfit:=IC hs.each x.p;refine ag Tryz.func132 rfl rfl rfl ?_;refine cl (QU s x.p hs.len) ?_;refine cl (Lx _ hfit) ?_;unfold ij;have hlen:=ID (gh s x.p).1;generalize dx (gh s x.p).1=X at hlen⊢;obtain⟨L,e⟩:=X;have hlen:L.length<=2^22:=hlen;refine⟨none,?_⟩;refine az (λh1=>?_) (λh1=>az (λh2=>?_) (λh2=>?_));rw[af (show x.n<0\/(L.length:Int)<=x.n from .inl h1)];exact rfl;have h2:x.n≥(((fH L).length:Nat):Int):=h2;simp only[fH,ai]at h2;rw[af (show x.n<0\/(L.length:Int)<=x.n from .inr h2)];exact rfl;have h2:¬x.n≥(((fH L).length:Nat):Int):=h2;have h1:¬x.n<0:=h1;simp only[fH,ai]at h2;rw[aa (show¬(x.n<0\/(L.length:Int)<=x.n)by omega)];obtain⟨n,hn⟩:=ji (show 0<=x.n by omega);have hlt:n<L.length:=oO
 have hg:L.getD x.n.toNat hU=L[n]:=by rw[hn];simp[List.getD,hlt]
 show _;refine⟨oO,_,by rw[hn];exact cO (l:=L) (f:=cA) rfl hlt,rfl,?_⟩;rw[hg];exact rfl
def TJ (s:List bK)(x file:bf)(d:Dg):Int:=if x.p=bz\/x=file then 0 else if(ij s x).2=false then 7 else if kZ (bW file d) (ij s x).1=false then 8 else 0
theorem VK (s:List bK)(x file:bf)(d:Dg)(hs:ED s):aj C 135 [.sl (cU s),.agg (cI x),.agg (cI file),.agg (cD d)] (λr=>r=.val (.int .i64 (TJ s x file d))):=by
 refine dQ [3] Tryz.func135 rfl rfl rfl ?_;refine⟨none,?_⟩;refine cl (Dp x).cut ?_;unfold TJ;refine bq ?_;by_cases hz:x.p=bz;rw[af (.inl hz),av hz];exact rfl;rw[ak hz];refine rB ?_;refine jK (a:=x) (b:=file) ?_;by_cases hf:x=file;rw[af (.inr hf),av hf];exact rfl;rw[aa (show¬(x.p=bz\/x=file)fromλg=>g.elim hz hf),ak hf];refine dI 33 [(0,.p (.sl (cU s))),(5,.ptr 5 0),(6,.ptr 6 0),(7,.ptr 7 0)] [(5,aF (cI x)),(6,aF (cI file)),(7,aF (cD d))] rfl wS oS ?_;refine cl (Dq s x hs).cut ?_;generalize ij s x=X;obtain⟨a,is⟩:=X;refine bq ?_;cases is with
 |false=>exact rfl
 |true=>
  rw[aa (show¬true=false by decide)];refine cG 4 kK ?_;refine⟨_,(FM file d).cut,?_⟩;refine cl (Im (bW file d) a).cut ?_;refine bq ?_;cases hq:kZ (bW file d) a with
  |false=>rw[af rfl];exact rfl
  |true=>rw[aa (show¬true=false by decide)];exact rfl
def XF (s:List bK)(c:ew)(d:Dg)(x:bf):Int:=if x.p=bz then 0 else if(ij s x).2=false then 7 else if fh c.kind (bW c.file d) (ij s x).1=false then 8 else 0
def Zb (s:List bK)(c:ew)(d:Dg):Int:=ep ((if c.file.p=bz then 0 else if(ij s c.file).2=false then 7 else if ej c.kind (ij s c.file).1=false then 8 else 0)::(if c.parent.p=bz then 0 else if(ij s c.parent).2=false then 7 else if AH (ij s c.parent).1=false then 8 else 0)::TJ s c.dc c.file d::TJ s c.dy c.file d::(c.over.map (XF s c d)++[]))
theorem ag4 (s:List bK)(c:ew)(d:Dg)(hs:ED s)(ho:c.over.length<=2^47):aj C 104 [.sl (cU s),.agg (cC c),.agg (cD d)] (λr=>r=.val (.int .i64 (Zb s c d))):=by
 obtain⟨E,hE⟩:∃E,Zb s c d=E:=⟨_,rfl⟩;rw[hE];have hE:E=Zb s c d:=hE.symm;unfold Zb at hE;refine dQ [7,13] Tryz.func104 rfl rfl rfl ?_;refine cl (Dp c.file).cut ?_;refine share (T:=?T1) (λH1=>?m1) ?r1;case m1=>
  by_cases hz:c.file.p=bz;rw[af hz,eW rfl]at hE;rw[av hz];refine dI 103 [(0,.p (.sl (cU s))),(4,.ptr 4 0),(5,.ptr 5 0)] [(4,aF (cC c)),(5,aF (cD d))] rfl wS oS ?_;revert hE;exact H1.out;rw[aa hz]at hE;rw[ak hz];refine cl (Dq s c.file hs).cut ?_;generalize ij s c.file=X at hE⊢;obtain⟨x,is⟩:=X;refine bq ?_;cases is with
  |false=>rw[af rfl,eA dD]at hE;rw[hE];exact rfl
  |true=>
   rw[aa (show¬true=false by decide)]at hE;refine cl (FK c.kind x).cut ?_;refine bq ?_;cases hf:ej c.kind x with
   |false=>rw[af hf,eA dD]at hE;rw[hE];exact rfl
   |true=>rw[aa (by rw[hf];decide),eW rfl]at hE;refine dI 103 [(0,.p (.sl (cU s))),(4,.ptr 4 0),(5,.ptr 5 0)] [(4,aF (cC c)),(5,aF (cD d))] rfl wS oS ?_;revert hE;exact H1.out
 case r1=>
  intro hE;refine cl (Dp c.parent).cut ?_;refine share (T:=?T2) (λH2=>?m2) ?r2;case m2=>
   by_cases hz:c.parent.p=bz;rw[af hz,eW rfl]at hE;rw[av hz];refine dI 103 [(0,.p (.sl (cU s))),(4,.ptr 4 0),(5,.ptr 5 0)] [(4,aF (cC c)),(5,aF (cD d))] rfl wS oS ?_;revert hE;exact H2.out;rw[aa hz]at hE;rw[ak hz];refine cl (Dq s c.parent hs).cut ?_;generalize ij s c.parent=X at hE⊢;obtain⟨x,is⟩:=X;refine bq ?_;cases is with
   |false=>rw[af rfl,eA dD]at hE;rw[hE];exact rfl
   |true=>
    rw[aa (show¬true=false by decide)]at hE;refine cl (aeC x).cut ?_;refine bq ?_;cases hf:AH x with
    |false=>rw[af hf,eA dD]at hE;rw[hE];exact rfl
    |true=>rw[aa (by rw[hf];decide),eW rfl]at hE;refine dI 103 [(0,.p (.sl (cU s))),(4,.ptr 4 0),(5,.ptr 5 0)] [(4,aF (cC c)),(5,aF (cD d))] rfl wS oS ?_;revert hE;exact H2.out
  case r2=>
   intro hE;refine cl (VK s c.dc c.file d hs).cut ?_;refine cS (λh=>?_) (λh=>?_);rw[hE,eA h];exact rfl;rw[eW h]at hE;refine cl (VK s c.dy c.file d hs).cut ?_;refine cS (λh=>?_) (λh=>?_);rw[hE,eA h];exact rfl;rw[eW h]at hE;refine bI 103 (λk:Nat=>[(0,.p (.sl (cU s))),(4,.ptr 4 0),(5,.ptr 5 0),(13,.p (.int .i64 k))]) (λ_=>[(4,aF (cC c)),(5,aF (cD d))]) (λk=>k<=c.over.length/\E=ep ((c.over.drop k).map (XF s c d)++[])) (λk=>c.over.length-k) 0 ⟨zL,hE⟩ rfl wS oS ?_;rintro k ⟨hk,hE⟩;refine bY (l:=c.over) (f:=cI) (λhlt=>?_) (λhge=>?_);rotate_left;rw[dG oO]at hE;rw[hE];exact rfl;rw[oD hlt]at hE;have next:XF s c d c.over[k]=0->k+1<=c.over.length/\E=ep ((c.over.drop (k+1)).map (XF s c d)++[]):=λh=>⟨hlt,by rw[hE,eW h]⟩;refine ix hlt ?_;refine cl (Dp c.over[k]).cut ?_;refine bq ?_;by_cases hz:c.over[k].p=bz
   ·rw[av hz];exact nx (k+1) (aU (k+1) (next (by rw[XF,af hz])) oO rfl wS oS)
   rw[ak hz];have ev:XF s c d c.over[k]=if(ij s c.over[k]).2=false then 7 else if fh c.kind (bW c.file d) (ij s c.over[k]).1=false then 8 else 0:=by rw[XF,aa hz]
   rw[ev]at hE next;refine ix hlt ?_;refine cl (Dq s c.over[k] hs).cut ?_;clear ev;generalize ij s c.over[k]=X at hE next⊢;obtain⟨x,is⟩:=X;refine bq ?_;cases is with
   |false=>rw[af rfl,eA dD]at hE;rw[hE];exact rfl
   |true=>
    rw[aa (show¬true=false by decide)]at hE next;refine cG 7 kK ?_;refine⟨_,(FM c.file d).cut,?_⟩;refine cl (FJ c.kind (bW c.file d) x).cut ?_;refine bq ?_;cases hf:fh c.kind (bW c.file d) x with
    |false=>rw[af hf,eA dD]at hE;rw[hE];exact rfl
    |true=>rw[aa (by rw[hf];decide)]at next;exact nx (k+1) (aU (k+1) (next rfl) oO rfl wS oS)
def ux (s:List bK)(p:fW)(d:Dg):Int:=ep (p.changes.map (λc=>Zb s c d)++[])
theorem QV (s:List bK)(p:fW)(d:Dg)(hs:ED s)(hp:Sw p):aj C 71 [.sl (cU s),.agg (cP p),.agg (cD d)] (λr=>r=.val (.int .i64 (ux s p d))):=by have hl:=hp.len;refine ag Tryz.func71 rfl rfl rfl ?_;refine bI 27 (λk:Nat=>[(0,.p (.sl (cU s))),(4,.ptr 4 0),(5,.ptr 5 0),(7,.p (.int .i64 k))]) (λ_=>[(4,aF (cP p)),(5,aF (cD d))]) (λk=>k<=p.changes.length/\ux s p d=ep ((p.changes.drop k).map (λc=>Zb s c d)++[])) (λk=>p.changes.length-k) 0 ⟨zL,rfl⟩ rfl wS oS ?_;rintro k ⟨hk,hE⟩;refine bY (l:=p.changes) (f:=cC) (λhlt=>?_) (λhge=>?_);rw[oD hlt]at hE;refine cG 7 kK ?_;refine ix hlt ?_;refine cl (ag4 s p.changes[k] d hs (hp.each _ (aL _)).over) ?_;refine cS (λh=>?_) (λh=>?_);rw[hE,eA h];exact rfl;rw[eW h]at hE;exact nx (k+1) (aU (k+1) ⟨hlt,hE⟩ oO rfl wS oS);rw[dG oO]at hE;rw[hE];exact rfl
def lI:List bK->bK->List bK|[],x=>[x]|y::l,x=>if eZ y.id x.id<0 then y::lI l x else x::y::l
theorem IE:∀(a b:List bK)(x:bK),(∀y,y∈a->eZ y.id x.id<0)->lI (a++b) x=a++lI b x|[],b,x,_=>rfl|y::a,b,x,h=>by rw[dZ,lI,af (h y (by simp)),IE a b x λz hz=>h z (by simp[hz])];rfl
theorem aeD {l:List bK}{k:Nat}{x:bK}(hk:k<l.length)(h:∀y,y∈l.take k->eZ y.id x.id<0)(h2:¬eZ l[k].id x.id<0):lI l x=l.take k++[x]++l.drop k:=by
 have e:l=l.take k++(l[k]::l.drop (k+1)):=by rw[<-bQ hk,dw]
 have e2:l.drop k=l[k]::l.drop (k+1):=bQ hk;rw[e2];generalize l[k]=y at*;rw[show lI l x=lI (l.take k++(y::l.drop (k+1))) x from by rw[<-e],IE _ _ _ h,lI,aa h2];simp
theorem abr {l:List bK}{x:bK}(h:∀y,y∈l->eZ y.id x.id<0):lI l x=l++[x]:=by have :=IE l [] x h;rw[bg]at this;exact this
theorem Ku {l:List bK}{k:Nat}{x:bK}(hk:k<l.length)(h:∀y,y∈l.take k->eZ y.id x.id<0)(h2:eZ l[k].id x.id<0):∀y,y∈l.take (k+1)->eZ y.id x.id<0:=by intro y hy;rw[<-eS hk,aW,aO]at hy;rcases hy with hy|rfl;exact h y hy;exact h2
theorem xl {l:List bK}:∀zs,zs∈l.map mO->zs.length=37:=by intro zs h;obtain⟨x,-,rfl⟩:=aA.1 h;rfl
theorem aeE (l:List bK)(x:bK)(hl:l.length<=2^20):aj C 87 [.sl (cU l),.agg (mO x)] (λr=>r=.val (.sl (cU (lI l x)))):=by
 unfold cU;refine dQ [4] Tryz.func87 rfl rfl rfl ?_;refine bI 37 (λk:Nat=>[(0,.p (.sl (l.map mO))),(3,.ptr 3 0),(5,.p (.int .i64 k))]) (λ_=>[(3,aF (mO x))]) (λk=>k<=l.length/\∀y,y∈l.take k->eZ y.id x.id<0) (λk=>l.length-k) 0 ⟨zL,by simp⟩ rfl wS oS ?_;rintro k ⟨hk,hn⟩;refine share (T:=?T1) (λH1=>?m1) ?r1;case m1=>
  refine cG 12 kK ?_;refine bY (λhlt=>?_) (λhge=>?_);refine ix hlt ?_;refine cl (pz l[k].id x.id).cut ?_;refine az (λh=>?_) (λh=>?_);exact nx (k+1) (aU (k+1) ⟨hlt,Ku hlt hn h⟩ oO rfl wS oS);have hI:=aeD hlt hn h;refine dI 37 [(0,.p (.sl (l.map mO))),(3,.ptr 3 0),(5,.p (.int .i64 (k:Int)))] [(3,aF (mO x))] rfl wS oS ?_;revert hI;exact H1.out;have hI:lI l x=l.take k++[x]++l.drop k:=by rw[cF oO]at hn⊢;rw[dG oO,bg];exact abr hn
  refine dI 37 [(0,.p (.sl (l.map mO))),(3,.ptr 3 0),(5,.p (.int .i64 (k:Int)))] [(3,aF (mO x))] rfl wS oS ?_;revert hI;exact H1.out
 case r1=>intro hI;rw[hI];refine⟨.plan ⟨[5,6],[4,7],[],[3]⟩ (.one 0 (.one 1 (.one 2 (.one 3 (.one 5 (.one 6 (.alt 4 (.alt 7 (.one 8 .fin) .stop) .stop))))))) none,kK,?_⟩;refine⟨_,rfl,?_⟩;refine⟨_,rfl,?_⟩;refine⟨_,rfl,?_⟩;refine⟨.p (.sl ((l.take k).map mO)),⟨k,rfl,zL,by rw[ai];exact hk,xl,(l.take k).map mO,by simp[mc],rfl⟩,?_⟩;refine⟨_,rfl,rfl,?_⟩;refine⟨_,rfl,rfl,?_⟩;refine⟨rfl,?_⟩;refine⟨xl,by show((l.take k).map mO).length*120<=_;rw[ai,aH];omega,?_⟩;refine⟨rfl,?_⟩;refine⟨xl,xl (l:=[x]),by show(((l.take k).map mO).length+1)*120<=_;rw[ai,aH];omega,(l.take k++[x]).map mO,by rw[aN];rfl,?_⟩;refine⟨_,rfl,?_⟩;refine⟨k,rfl,by rw[ai];exact hk,ay _,xl,(l.drop k).map mO,by rw[cF (ay _),nQ],?_⟩;refine⟨xl,xl,by show(((l.take k++[x]).map mO).length+((l.drop k).map mO).length)*120<=_;simp only[ai,au,aH,cL,aI,bk];omega,(l.take k++[x]++l.drop k).map mO,by rw[<-aN],?_⟩;exact .inr rfl
theorem LN:∀a:Bytes,cmpL a a=0|[]=>rfl|x::a=>by show(if x.toNat<x.toNat then-1 else if x.toNat<x.toNat then 1 else cmpL a a)=(0:Int);rw[aa (sR _),aa (sR _)];exact LN a
theorem ahl {x y:UInt8}(h1:¬x.toNat<y.toNat)(h2:¬y.toNat<x.toNat):x=y:=UInt8.toNat_inj.1 oO
theorem LO:∀{a b:Bytes},cmpL a b=0->a=b|[],[],_=>rfl|[],_::_,h=>absurd h (show¬(-1:Int)=0 by decide)|_::_,[],h=>absurd h (show¬(1:Int)=0 by decide)|x::a,y::b,h=>by have h:(if x.toNat<y.toNat then-1 else if y.toNat<x.toNat then 1 else cmpL a b)=(0:Int):=h;by_cases h1:x.toNat<y.toNat;rw[af h1]at h;exact absurd h dD;rw[aa h1]at h;by_cases h2:y.toNat<x.toNat;rw[af h2]at h;exact absurd h dD;rw[aa h2]at h;rw[ahl h1 h2,LO h]
theorem LP:∀a b:Bytes,cmpL b a=-cmpL a b|[],[]=>rfl|[],_::_=>rfl|_::_,[]=>rfl|x::a,y::b=>by show(if y.toNat<x.toNat then-1 else if x.toNat<y.toNat then 1 else cmpL b a)=-(if x.toNat<y.toNat then-1 else if y.toNat<x.toNat then 1 else cmpL a b);by_cases h1:x.toNat<y.toNat;rw[af h1,af h1,aa oO];rfl;rw[aa h1,aa h1];by_cases h2:y.toNat<x.toNat;rw[af h2,af h2];rw[aa h2,aa h2];exact LP a b
theorem IT:∀{a b c:Bytes},cmpL a b<0->cmpL b c<0->cmpL a c<0
 |[],[],_,h,_=>absurd h dD
 |[],_::_,[],_,h=>absurd h (by show¬(1:Int)<0;decide)
 |[],_::_,_::_,_,_=>by show(-1:Int)<0;decide
 |_::_,[],_,h,_=>absurd h (by show¬(1:Int)<0;decide)
 |_::_,_::_,[],_,h=>absurd h (by show¬(1:Int)<0;decide)
 |x::a,y::b,z::c,h1,h2=>by have h1:(if x.toNat<y.toNat then-1 else if y.toNat<x.toNat then 1 else cmpL a b)<(0:Int):=h1;have h2:(if y.toNat<z.toNat then-1 else if z.toNat<y.toNat then 1 else cmpL b c)<(0:Int):=h2;show(if x.toNat<z.toNat then-1 else if z.toNat<x.toNat then 1 else cmpL a c)<(0:Int);by_cases k1:x.toNat<y.toNat;by_cases k2:y.toNat<z.toNat;rw[af oO];decide;rw[aa k2]at h2;by_cases k3:z.toNat<y.toNat;rw[af k3]at h2;exact absurd h2 dD;rw[af oO];decide;rw[aa k1]at h1;by_cases k4:y.toNat<x.toNat;rw[af k4]at h1;exact absurd h1 dD;rw[aa k4]at h1;by_cases k2:y.toNat<z.toNat;rw[af oO];decide;rw[aa k2]at h2;by_cases k3:z.toNat<y.toNat;rw[af k3]at h2;exact absurd h2 dD;rw[aa k3]at h2;rw[aa oO,aa oO];exact IT h1 h2
theorem EN (a:Dg):eZ a a=0:=LN _
theorem mM {a b:Dg}(h:eZ a b=0):a=b:=Subtype.ext (LO h)
theorem nU (a b:Dg):eZ b a=-eZ a b:=LP _ _
theorem kD {a b c:Dg}(h1:eZ a b<0)(h2:eZ b c<0):eZ a c<0:=IT h1 h2
theorem kr (a:Dg):¬eZ a a<0:=by rw[EN];decide
theorem XZ (a:bf):fU a a=0:=by unfold fU;rw[EN];simp
theorem qU {a b:bf}(h:fU a b=0):a=b:=by unfold fU at h;by_cases h1:eZ a.p b.p≠0;rw[af h1]at h;exact absurd h h1;rw[aa h1]at h;have h1:a.p=b.p:=mM (ee.1 h1);by_cases h2:a.n<b.n;rw[af h2]at h;exact absurd h dD;rw[aa h2]at h;by_cases h3:b.n<a.n;rw[af h3]at h;exact absurd h dD;cases a;cases b;simp only[bf.mk.injEq];exact⟨h1,by show _=_;simp only at h2 h3;omega⟩
theorem lF (a b:bf):fU b a=-fU a b:=by unfold fU;rw[nU a.p b.p];by_cases h1:eZ a.p b.p=0;rw[aa (show¬(-eZ a.p b.p≠0)by omega),aa (show¬(eZ a.p b.p≠0)by omega)];by_cases h2:a.n<b.n;rw[af h2,af h2,aa oO];rfl;rw[aa h2,aa h2];by_cases h3:b.n<a.n;rw[af h3,af h3];rw[aa h3,aa h3];rfl;rw[af (show-eZ a.p b.p≠0 by omega),af h1]
theorem qV {a b c:bf}(h1:fU a b<0)(h2:fU b c<0):fU a c<0:=by unfold fU at*;by_cases k1:eZ a.p b.p=0;rw[aa (λg=>g k1)]at h1;have e1:=mM k1;rw[e1];by_cases k2:eZ b.p c.p=0;rw[aa (λg=>g k2)]at h2⊢;by_cases q1:a.n<b.n;by_cases q2:b.n<c.n;rw[af oO];decide;rw[aa q2]at h2;by_cases q3:c.n<b.n;rw[af q3]at h2;exact absurd h2 dD;rw[aa q3]at h2;exact absurd h2 dD;rw[aa q1]at h1;by_cases q3:b.n<a.n;rw[af q3]at h1;exact absurd h1 dD;rw[aa q3]at h1;exact absurd h1 dD;rw[af k2]at h2⊢;exact h2;rw[af k1]at h1;by_cases k2:eZ b.p c.p=0;rw[<-mM k2,af k1];exact h1;rw[af k2]at h2;have :=kD h1 h2;rw[af oO];exact this
theorem iq (a:bf):¬fU a a<0:=by rw[XZ];decide
abbrev BD (l:List Dg):Prop:=l.Pairwise λa b=>eZ a b<0
abbrev Gr (l:List bf):Prop:=l.Pairwise λa b=>fU a b<0
theorem IU {l:List Dg}{x y:Dg}:y∈nS l x↔y=x\/y∈l:=by
 induction l with
 |nil=>simp[nS]
 |cons z l ih=>unfold nS;split;rw[aG,ih,aG];constructor;rintro(h|h|h);exact .inr (.inl h);exact .inl h;exact .inr (.inr h);rintro(h|h|h);exact .inr (.inl h);exact .inl h;exact .inr (.inr h);split;rename_i h;subst h;simp;simp[aG]
theorem Rx {l:List Dg}(h:BD l)(x:Dg):BD (nS l x):=by
 induction l with
 |nil=>simp[nS]
 |cons z l ih=>
  obtain⟨h1,h2⟩:=de.1 h;unfold nS;split;rename_i hz;refine de.2 ⟨λy hy=>?_,ih h2⟩;rcases IU.1 hy with rfl|hy;exact hz;exact h1 y hy;split;exact h;rename_i hz hne;have hx:eZ x z<0:=by have :=nU z x;have :eZ z x≠0:=λe=>hne (mM e);omega
  refine de.2 ⟨λy hy=>?_,h⟩;rcases aG.1 hy with rfl|hy;exact hx;exact kD hx (h1 y hy)
theorem Ry {l:List bf}{x y:bf}:y∈kX l x↔y=x\/y∈l:=by
 induction l with
 |nil=>simp[kX]
 |cons z l ih=>unfold kX;split;rw[aG,ih,aG];constructor;rintro(h|h|h);exact .inr (.inl h);exact .inl h;exact .inr (.inr h);rintro(h|h|h);exact .inr (.inl h);exact .inl h;exact .inr (.inr h);split;rename_i h;subst h;simp;simp[aG]
theorem abW {l:List bf}(h:Gr l)(x:bf):Gr (kX l x):=by
 induction l with
 |nil=>simp[kX]
 |cons z l ih=>
  obtain⟨h1,h2⟩:=de.1 h;unfold kX;split;rename_i hz;refine de.2 ⟨λy hy=>?_,ih h2⟩;rcases Ry.1 hy with rfl|hy;exact hz;exact h1 y hy;split;exact h;rename_i hz hne;have hx:fU x z<0:=by have :=lF z x;have :fU z x≠0:=λe=>hne (qU e);omega
  refine de.2 ⟨λy hy=>?_,h⟩;rcases aG.1 hy with rfl|hy;exact hx;exact qV hx (h1 y hy)
theorem EO {l acc:List Dg}{y:Dg}:y∈l.foldl nS acc↔y∈l\/y∈acc:=by
 induction l generalizing acc with
 |nil=>simp
 |cons x l ih=>rw[eD,ih,IU,aG];constructor;rintro(h|h|h);exact .inl (.inr h);exact .inl (.inl h);exact .inr h;rintro((h|h)|h);exact .inr (.inl h);exact .inl h;exact .inr (.inr h)
theorem LQ {l acc:List Dg}(h:BD acc):BD (l.foldl nS acc):=by
 induction l generalizing acc with
 |nil=>exact h
 |cons x l ih=>exact ih (Rx h x)
theorem vO {l acc:List bf}{y:bf}:y∈l.foldl kX acc↔y∈l\/y∈acc:=by
 induction l generalizing acc with
 |nil=>simp
 |cons x l ih=>rw[eD,ih,Ry,aG];constructor;rintro(h|h|h);exact .inl (.inr h);exact .inl (.inl h);exact .inr h;rintro((h|h)|h);exact .inr (.inl h);exact .inl h;exact .inr (.inr h)
theorem EP {l acc:List bf}(h:Gr acc):Gr (l.foldl kX acc):=by
 induction l generalizing acc with
 |nil=>exact h
 |cons x l ih=>exact ih (abW h x)
theorem BE {α:Type}(lt:α->α->Prop)(ir:∀a,¬lt a a)(tr:∀a b c,lt a b->lt b c->lt a c):∀{l m:List α},l.Pairwise lt->m.Pairwise lt->(∀x,x∈l↔x∈m)->l=m
 |[],[],_,_,_=>rfl
 |[],y::m,_,_,h=>by have :=(h y).2 (by simp);cases this
 |x::l,[],_,_,h=>by have :=(h x).1 (by simp);cases this
 |x::l,y::m,h1,h2,h=>by
  obtain⟨a1,a2⟩:=de.1 h1;obtain⟨b1,b2⟩:=de.1 h2;have e:x=y:=by rcases aG.1 ((h x).1 (by simp))with e|hx;exact e;rcases aG.1 ((h y).2 (by simp))with e|hy;exact e.symm;exact absurd (tr _ _ _ (a1 y hy) (b1 x hx)) (ir x)
  subst e;rw[BE lt ir tr a2 b2 λz=>?_];constructor;intro hz;rcases aG.1 ((h z).1 (bh _ hz))with rfl|hm;exact absurd (a1 z hz) (ir z);exact hm;intro hz;rcases aG.1 ((h z).2 (bh _ hz))with rfl|hm;exact absurd (b1 z hz) (ir z);exact hm
theorem Rz {l m:List Dg}(h1:BD l)(h2:BD m)(h:∀x,x∈l↔x∈m):l=m:=BE (λa b=>eZ a b<0) kr (λ_ _ _=>kD) h1 h2 h
theorem FU {l m:List bf}(h1:Gr l)(h2:Gr m)(h:∀x,x∈l↔x∈m):l=m:=BE (λa b=>fU a b<0) iq (λ_ _ _=>qV) h1 h2 h
def tO (l:List Dg):List Dg:=l.mergeSort λx y=>!decide (eZ y x<0)
def oF (l:List bf):List bf:=l.mergeSort λx y=>!decide (fU y x<0)
theorem LR {l:List Dg}{x:Dg}:x∈tO l↔x∈l:=List.mem_mergeSort
theorem LS {l:List bf}{x:bf}:x∈oF l↔x∈l:=List.mem_mergeSort
theorem TX (l:List Dg):(tO l).Pairwise λa b=>¬eZ b a<0:=by
 have :=List.pairwise_mergeSort (le:=λx y:Dg=>!decide (eZ y x<0)) (λa b c h1 h2=>by
  simp only[eP,decide_eq_false_iff_not]at*;intro h;by_cases e:eZ b a=0;rw[mM e]at h2;exact h2 h;have :=nU a b;have h3:eZ a b<0:=oO
  exact h2 (kD h h3)) (λa b=>by simp only[pV,eP,decide_eq_false_iff_not];have :=nU a b;omega) l;exact this.imp λ{a b} h=>by simpa using h
theorem TY (l:List bf):(oF l).Pairwise λa b=>¬fU b a<0:=by
 have :=List.pairwise_mergeSort (le:=λx y:bf=>!decide (fU y x<0)) (λa b c h1 h2=>by
  simp only[eP,decide_eq_false_iff_not]at*;intro h;by_cases e:fU b a=0;rw[qU e]at h2;exact h2 h;have :=lF a b;have h3:fU a b<0:=oO
  exact h2 (qV h h3)) (λa b=>by simp only[pV,eP,decide_eq_false_iff_not];have :=lF a b;omega) l;exact this.imp λ{a b} h=>by simpa using h
theorem LU {l:List bf}(h:l.Nodup):Gr (oF l):=by have h1:=TY l;have h2:(oF l).Nodup:=(List.mergeSort_perm l _).nodup_iff.2 h;refine(h1.and h2).imp λ{a b} h=>?_;have :=lF a b;have :fU a b≠0:=λe=>h.2 (qU e);omega
theorem TZ {l:List bf}(h:l.Nodup):oF l=l.foldl kX []:=FU (LU h) (EP List.Pairwise.nil) λx=>by rw[LS,vO];simp
def dn:List Dg->List Dg|[]=>[]|[x]=>[x]|x::y::l=>if x=y then dn (y::l)else x::dn (y::l)
theorem Ap {x:Dg}:∀{l:List Dg},x∈dn l↔x∈l|[]=>Iff.rfl|[y]=>Iff.rfl|y::z::l=>by unfold dn;split;rename_i h;subst h;rw[Ap];simp;rw[aG,Ap,aG (l:=z::l)]
theorem ER:∀{l:List Dg},l.Pairwise (λa b=>¬eZ b a<0)->BD (dn l)
 |[],_=>List.Pairwise.nil
 |[y],_=>by simp[dn]
 |y::z::l,h=>by
  obtain⟨h1,h2⟩:=de.1 h;unfold dn;split;exact ER h2;rename_i hne;refine de.2 ⟨λx hx=>?_,ER h2⟩;have hyz:eZ y z<0:=by have :=h1 z (by simp);have :=nU z y;have :eZ y z≠0:=λe=>hne (mM e);omega
  rcases aG.1 (Ap.1 hx)with rfl|hx;exact hyz;have :=(de.1 h2).1 x hx;by_cases e:eZ x z=0;rw[mM e];exact hyz;have e2:=nU x z;exact kD hyz oO
theorem zM {C:Ctx}{S:ah}{dst:Option Nat}{g:FuncId}{o:Nat}{T:TypeId}{bN:Nat}{rest cells:List FV}{zs xs:List AV}{K:ah->Prop}{R:Bool->List AV->Prop}(h1:AD S.aJ o=some cells)(h2:FV.fF rest=some xs)(h3:FV.fF cells=some zs)(hc:Zf C g T bN zs xs R)(hk:∀r ys,R r ys->Zm S dst o T bN r ys K):Pj C S dst g (.fc o T bN::rest) K:=by unfold Pj;simp only[h1,h2,h3];exact⟨R,hc,hk⟩
theorem sU {l:List Dg}:∀ys,ys∈jJ l->ys.length=32/\∀y,y∈ys->y.one=true:=by intro ys h;obtain⟨x,-,rfl⟩:=aA.1 h;exact⟨rfl,λy hy=>bU.1 (show(cD x).all AV.one=true from rfl) y hy⟩
def cM (l:List Dg):List FV:=aF (jJ l).flatten
theorem dm (l:List Dg):(cM l).length=l.length*32:=by unfold cM;rw[iP,gF (e:=32) λzs h=>(sU zs h).1];simp[jJ]
theorem jB (a b:List Dg):cM (a++b)=cM a++cM b:=by unfold cM jJ;rw[aN,xy,eO,eO,eO,aN]
theorem Dy (a:Dg):cM [a]=aF (cD a):=by unfold cM jJ;simp
theorem qW (a:Dg)(l:List Dg):cM (a::l)=aF (cD a)++cM l:=by rw[<-gV,jB,Dy]
theorem kE (l:List Dg)(k:Nat):FV.eL k (cM l)=cM l:=iX k _
theorem Aq (l:List Dg)(d:Dg)(o:Nat):FV.eL o (cM l++aF [cD d].flatten)=cM (l++[d]):=by rw[show cM l++aF [cD d].flatten=cM (l++[d])from by rw[jB,Dy];simp];exact kE _ _
theorem LV (a b:List Dg):(cM a++cM b).take (a.length*32)=cM a:=by rw[nI (by rw[dm];exact ay _),cF (by rw[dm];exact ay _)]
theorem Dz {l:List Dg}{k:Nat}(h:k<l.length):cM l=cM (l.take k)++(aF (cD l[k])++cM (l.drop (k+1))):=by rw[<-qW,<-bQ h,<-jB,dw]
theorem LW {aJ:List (Nat×List FV)}{o:Nat}{l:List Dg}(k:Nat)(h:Qv.getObj aJ o=some (FV.eL k (cM l))):∃ys,Qv.getObj aJ o=some ys/\ys.length=(cM l).length/\∀(i:Nat)(x y:FV),ys[i]?=some x->(cM l)[i]?=some y->aR x y:=by rw[kE]at h;exact aB h
theorem ahm (x:Dg):ahk (cD x):=by intro y hy;have :=bU.1 (show(cD x).all (λy=>match y with|.int _ _=>true|_=>false)=true from rfl) y hy;cases y<;>first|exact⟨_,_,rfl⟩|cases this
theorem alE:Sort.SWO (Proofs.ltOf eZ):=⟨λx=>by unfold Proofs.ltOf;exact ak (kr x),λx y z h1 h2=>by unfold Proofs.ltOf at*;exact av (kD (qm h1) (qm h2)),λx y z h1 h2=>by
 unfold Proofs.ltOf at*;refine ak λh=>?_;have h1:=xD h1;have h2:=xD h2;by_cases e:eZ y x=0;rw[mM e]at h2;exact h2 h;have :=nU x y;have h3:eZ y x<0:=oO
 exact h2 (kD h3 h)⟩
theorem BF (Cx:Ctx)(hP:Cx.P=Tryz.prog)(l:List Dg)(hl:l.length<=2^40):Zf Cx 239 31 32 (jJ l).flatten [.fn (.func 213) [] []] (λr ys=>r=false/\ys=(jJ (tO l)).flatten):=LM cD 32 (λ_=>rfl) ahm Tryz.sortD239 dD Tryz.isAgg31 Tryz.sizeOf31 eZ alE (λx y h1 h2=>by have :=nU x y;exact mM oO) 213 (enters_of Tryz.func213 kK rfl) XY Cx hP ⟨_,Tryz.func239,rfl,rfl⟩ 31 l oO
theorem ES (l:List Dg):(tO l).length=l.length:=List.length_mergeSort _
end Qv
