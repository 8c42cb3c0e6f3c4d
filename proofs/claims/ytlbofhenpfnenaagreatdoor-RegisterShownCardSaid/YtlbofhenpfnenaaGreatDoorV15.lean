/- Part 40 of the proof: its lemmas. No condition. -/
import Derived.Test.YtlbofhenpfnenaaGreatDoorV10
set_option maxRecDepth 10000
set_option maxHeartbeats 80000000
set_option linter.all false
open Go Go.Proofs Go.RowKit
namespace Qv
def fnK (c:eG)(n:Nat):AV:=if n<254 then kf n else gy n c
def EG (c:eG)(e:bg×Nat):List AV:=cI e.1++[fnK c e.2]
def gK (c:eG)(n:Nat)(x:bD):Bool:=if n=250 then decide (x.kind=1)else if n=251 then decide (x.kind=1)&&(decide (x.type=2)||decide (x.type=3))else if n=252 then decide (x.kind=1)&&decide (x.type=1)else if n=253 then decide (x.kind=1)&&decide (x.type=4)else if n=254 then decide (x.id=c.file)||(decide (x.kind=5)&&decide (x.file=c.file))else fG c.kind c.file x
def nF (x:bg)(own:List bD)(g:bD->Bool):Int:=if x.n<0\/(x.p=bF/\(own.length:Int)<=x.n)\/100000<=x.n then 7 else if x.p=bF/\g (own.getD x.n.toNat ef)=false then 8 else 0
def Md (c:eG):List Int:=[if c.kind=2/\c.parent=c.file then 20 else 0,if gM c.kind=true/\c.dm=c.dG/\(c.kind=6\/c.dm≠c.file)then 1 else 0]
def Me (c:eG)(own:List bD)(L:List (bg×Nat)):Int:=eo ((L.map λe=>nF e.1 own (gK c e.2))++Md c)
theorem Lf (c:eG)(own:List bD)(L:List (bg×Nat))(hl:own.length<=2^40)(hL:L.length<=2^40)(hn:∀e,e∈L->e.2=250\/e.2=251\/e.2=252\/e.2=253\/e.2=254\/e.2=255)(hk:∀e,e∈L->e.2=255->c.kind=2\/c.kind=3\/c.kind=4\/c.kind=6\/c.kind=7)(alA:ak C 216 [.agg (cC c)] (λr=>r=.val (.sl (L.map (EG c))))):ak C 187 [.agg (cC c),.sl (eU own)] (λr=>r=.val (.int .i64 (Me c own L))):=by
 obtain⟨E,hE⟩:∃E,Me c own L=E:=⟨_,rfl⟩;rw[hE];have hE:E=Me c own L:=hE.symm;unfold Me at hE;have hal:(((eU own).length:Nat):Int)=(own.length:Int):=by simp[eU]
 refine dM [13] Tryz.func187 rfl rfl rfl ?_;refine cl alA.cut ?_;refine bu 90 (λk:Nat=>[(1,.p (.sl (eU own))),(2,.ptr 2 0),(8,.p (.sl (L.map (EG c)))),(9,.p (.int .i64 ((L.map (EG c)).length:Int))),(10,.p (.int .i64 k))]) (λ_=>[(2,aH (cC c))]) (λk=>k<=L.length/\E=eo (((L.drop k).map λe=>nF e.1 own (gK c e.2))++Md c)) (λk=>L.length-k) 0 ⟨zL,hE⟩ rfl wS oS ?_;rintro k ⟨sO,hE⟩;refine bQ (l:=L) (f:=EG c) (λhlt=>?_) (λhge=>?_)
 ·have hm:=aK hlt;have VO:=hn _ hm;have hk2:=hk _ hm;have iX:(L.map (EG c))[((k:Nat):Int).toNat]?=some (EG c L[k]):=ct rfl hlt;rw[oP hlt]at hE;clear hm;generalize L[k]=e at VO hk2 iX hE;obtain⟨x,n⟩:=e;simp only at VO hk2 hE;have next:nF x own (gK c n)=0->k+1<=L.length/\E=eo (((L.drop (k+1)).map λe=>nF e.1 own (gK c e.2))++Md c):=λh=>⟨hlt,by rw[eZ h]at hE;exact hE⟩;have bad:∀z:Int,nF x own (gK c n)=z->z≠0->cQ.val (.int .i64 z)=cQ.val (.int .i64 E):=λz h h0=>by rw[eu (by rw[h];exact h0),h]at hE;rw[hE]
  clear hE;by_cases ho:x.p=bF
  ·rcases VO with rfl|rfl|rfl|rfl|rfl|rfl
   ·refine⟨oO,_,iX,rfl,?_⟩;refine az (λh=>?_) (λh0=>?_);exact bad 7 (af (.inl h)) dD;have h0:¬x.n<0:=h0;refine⟨none,?_⟩;refine cl (fA x).cut ?_;rw[an ho];refine az (λh=>?_) (λh1=>?_);have h:x.n≥(((eU own).length:Nat):Int):=h;exact bad 7 (af (.inr (.inl ⟨ho,oO⟩))) dD;have h1:¬x.n≥(((eU own).length:Nat):Int):=h1;refine az (λh=>?_) (λh2=>?_);exact bad 7 (af (.inr (.inr h))) dD;have h2:¬x.n≥100000:=h2;have hno:¬(x.n<0\/(x.p=bF/\(own.length:Int)<=x.n)\/100000<=x.n):=by rintro(g|g|g);omega;omega;omega
    refine cm 16 kK ?_;refine⟨_,(fA x).cut,?_⟩;rw[an ho];obtain⟨m,hm⟩:=gu (show 0<=x.n by omega);have PA:m<own.length:=oO
    have hgd:own.getD x.n.toNat ef=own[m]:=by rw[hm];simp[List.getD,PA]
    refine⟨oO,_,by rw[hm];exact ct rfl PA,rfl,?_⟩;refine⟨_,(ae5 own[m]).cut,?_⟩;refine bl ?_;have hv:nF x own (gK c 250)=if gK c 250 own[m]=false then 8 else 0:=by rw[nF,aa hno,hgd];by_cases hq:gK c 250 own[m]=false;rw[af ⟨ho,hq⟩,af hq];rw[aa (λg=>hq g.2),aa hq]
    cases hq:gK c 250 own[m]with
    |false=>rw[hq,af rfl]at hv;rw[show decide (own[m].kind=1)=false from hq];exact bad 8 hv dD
    |true=>rw[hq,aa dD]at hv;rw[show decide (own[m].kind=1)=true from hq];exact nx (k+1) (aO (k+1) (next hv) oO rfl wS oS)
   ·refine⟨oO,_,iX,rfl,?_⟩;refine az (λh=>?_) (λh0=>?_);exact bad 7 (af (.inl h)) dD;have h0:¬x.n<0:=h0;refine⟨none,?_⟩;refine cl (fA x).cut ?_;rw[an ho];refine az (λh=>?_) (λh1=>?_);have h:x.n≥(((eU own).length:Nat):Int):=h;exact bad 7 (af (.inr (.inl ⟨ho,oO⟩))) dD;have h1:¬x.n≥(((eU own).length:Nat):Int):=h1;refine az (λh=>?_) (λh2=>?_);exact bad 7 (af (.inr (.inr h))) dD;have h2:¬x.n≥100000:=h2;have hno:¬(x.n<0\/(x.p=bF/\(own.length:Int)<=x.n)\/100000<=x.n):=by rintro(g|g|g);omega;omega;omega
    refine cm 16 kK ?_;refine⟨_,(fA x).cut,?_⟩;rw[an ho];obtain⟨m,hm⟩:=gu (show 0<=x.n by omega);have PA:m<own.length:=oO
    have hgd:own.getD x.n.toNat ef=own[m]:=by rw[hm];simp[List.getD,PA]
    refine⟨oO,_,by rw[hm];exact ct rfl PA,rfl,?_⟩;refine⟨_,(ae6 own[m]).cut,?_⟩;refine bl ?_;have hv:nF x own (gK c 251)=if gK c 251 own[m]=false then 8 else 0:=by rw[nF,aa hno,hgd];by_cases hq:gK c 251 own[m]=false;rw[af ⟨ho,hq⟩,af hq];rw[aa (λg=>hq g.2),aa hq]
    cases hq:gK c 251 own[m]with
    |false=>rw[hq,af rfl]at hv;rw[show(decide (own[m].kind=1)&&(decide (own[m].type=2)||decide (own[m].type=3)))=false from hq];exact bad 8 hv dD
    |true=>rw[hq,aa dD]at hv;rw[show(decide (own[m].kind=1)&&(decide (own[m].type=2)||decide (own[m].type=3)))=true from hq];exact nx (k+1) (aO (k+1) (next hv) oO rfl wS oS)
   ·refine⟨oO,_,iX,rfl,?_⟩;refine az (λh=>?_) (λh0=>?_);exact bad 7 (af (.inl h)) dD;have h0:¬x.n<0:=h0;refine⟨none,?_⟩;refine cl (fA x).cut ?_;rw[an ho];refine az (λh=>?_) (λh1=>?_);have h:x.n≥(((eU own).length:Nat):Int):=h;exact bad 7 (af (.inr (.inl ⟨ho,oO⟩))) dD;have h1:¬x.n≥(((eU own).length:Nat):Int):=h1;refine az (λh=>?_) (λh2=>?_);exact bad 7 (af (.inr (.inr h))) dD;have h2:¬x.n≥100000:=h2;have hno:¬(x.n<0\/(x.p=bF/\(own.length:Int)<=x.n)\/100000<=x.n):=by rintro(g|g|g);omega;omega;omega
    refine cm 16 kK ?_;refine⟨_,(fA x).cut,?_⟩;rw[an ho];obtain⟨m,hm⟩:=gu (show 0<=x.n by omega);have PA:m<own.length:=oO
    have hgd:own.getD x.n.toNat ef=own[m]:=by rw[hm];simp[List.getD,PA]
    refine⟨oO,_,by rw[hm];exact ct rfl PA,rfl,?_⟩;refine⟨_,(ae7 own[m]).cut,?_⟩;refine bl ?_;have hv:nF x own (gK c 252)=if gK c 252 own[m]=false then 8 else 0:=by rw[nF,aa hno,hgd];by_cases hq:gK c 252 own[m]=false;rw[af ⟨ho,hq⟩,af hq];rw[aa (λg=>hq g.2),aa hq]
    cases hq:gK c 252 own[m]with
    |false=>rw[hq,af rfl]at hv;rw[show(decide (own[m].kind=1)&&decide (own[m].type=1))=false from hq];exact bad 8 hv dD
    |true=>rw[hq,aa dD]at hv;rw[show(decide (own[m].kind=1)&&decide (own[m].type=1))=true from hq];exact nx (k+1) (aO (k+1) (next hv) oO rfl wS oS)
   ·refine⟨oO,_,iX,rfl,?_⟩;refine az (λh=>?_) (λh0=>?_);exact bad 7 (af (.inl h)) dD;have h0:¬x.n<0:=h0;refine⟨none,?_⟩;refine cl (fA x).cut ?_;rw[an ho];refine az (λh=>?_) (λh1=>?_);have h:x.n≥(((eU own).length:Nat):Int):=h;exact bad 7 (af (.inr (.inl ⟨ho,oO⟩))) dD;have h1:¬x.n≥(((eU own).length:Nat):Int):=h1;refine az (λh=>?_) (λh2=>?_);exact bad 7 (af (.inr (.inr h))) dD;have h2:¬x.n≥100000:=h2;have hno:¬(x.n<0\/(x.p=bF/\(own.length:Int)<=x.n)\/100000<=x.n):=by rintro(g|g|g);omega;omega;omega
    refine cm 16 kK ?_;refine⟨_,(fA x).cut,?_⟩;rw[an ho];obtain⟨m,hm⟩:=gu (show 0<=x.n by omega);have PA:m<own.length:=oO
    have hgd:own.getD x.n.toNat ef=own[m]:=by rw[hm];simp[List.getD,PA]
    refine⟨oO,_,by rw[hm];exact ct rfl PA,rfl,?_⟩;refine⟨_,(ae8 own[m]).cut,?_⟩;refine bl ?_;have hv:nF x own (gK c 253)=if gK c 253 own[m]=false then 8 else 0:=by rw[nF,aa hno,hgd];by_cases hq:gK c 253 own[m]=false;rw[af ⟨ho,hq⟩,af hq];rw[aa (λg=>hq g.2),aa hq]
    cases hq:gK c 253 own[m]with
    |false=>rw[hq,af rfl]at hv;rw[show(decide (own[m].kind=1)&&decide (own[m].type=4))=false from hq];exact bad 8 hv dD
    |true=>rw[hq,aa dD]at hv;rw[show(decide (own[m].kind=1)&&decide (own[m].type=4))=true from hq];exact nx (k+1) (aO (k+1) (next hv) oO rfl wS oS)
   ·refine⟨oO,_,iX,rfl,?_⟩;refine az (λh=>?_) (λh0=>?_);exact bad 7 (af (.inl h)) dD;have h0:¬x.n<0:=h0;refine⟨none,?_⟩;refine cl (fA x).cut ?_;rw[an ho];refine az (λh=>?_) (λh1=>?_);have h:x.n≥(((eU own).length:Nat):Int):=h;exact bad 7 (af (.inr (.inl ⟨ho,oO⟩))) dD;have h1:¬x.n≥(((eU own).length:Nat):Int):=h1;refine az (λh=>?_) (λh2=>?_);exact bad 7 (af (.inr (.inr h))) dD;have h2:¬x.n≥100000:=h2;have hno:¬(x.n<0\/(x.p=bF/\(own.length:Int)<=x.n)\/100000<=x.n):=by rintro(g|g|g);omega;omega;omega
    refine cm 16 kK ?_;refine⟨_,(fA x).cut,?_⟩;rw[an ho];obtain⟨m,hm⟩:=gu (show 0<=x.n by omega);have PA:m<own.length:=oO
    have hgd:own.getD x.n.toNat ef=own[m]:=by rw[hm];simp[List.getD,PA]
    refine⟨oO,_,by rw[hm];exact ct rfl PA,rfl,?_⟩;refine⟨_,(ae9 own[m] c).cut,?_⟩;refine bl ?_;have hv:nF x own (gK c 254)=if gK c 254 own[m]=false then 8 else 0:=by rw[nF,aa hno,hgd];by_cases hq:gK c 254 own[m]=false;rw[af ⟨ho,hq⟩,af hq];rw[aa (λg=>hq g.2),aa hq]
    cases hq:gK c 254 own[m]with
    |false=>rw[hq,af rfl]at hv;rw[show(decide (own[m].id=c.file)||(decide (own[m].kind=5)&&decide (own[m].file=c.file)))=false from hq];exact bad 8 hv dD
    |true=>rw[hq,aa dD]at hv;rw[show(decide (own[m].id=c.file)||(decide (own[m].kind=5)&&decide (own[m].file=c.file)))=true from hq];exact nx (k+1) (aO (k+1) (next hv) oO rfl wS oS)
   refine⟨oO,_,iX,rfl,?_⟩;refine az (λh=>?_) (λh0=>?_);exact bad 7 (af (.inl h)) dD;have h0:¬x.n<0:=h0;refine⟨none,?_⟩;refine cl (fA x).cut ?_;rw[an ho];refine az (λh=>?_) (λh1=>?_);have h:x.n≥(((eU own).length:Nat):Int):=h;exact bad 7 (af (.inr (.inl ⟨ho,oO⟩))) dD;have h1:¬x.n≥(((eU own).length:Nat):Int):=h1;refine az (λh=>?_) (λh2=>?_);exact bad 7 (af (.inr (.inr h))) dD;have h2:¬x.n≥100000:=h2;have hno:¬(x.n<0\/(x.p=bF/\(own.length:Int)<=x.n)\/100000<=x.n):=by rintro(g|g|g);omega;omega;omega
   refine cm 16 kK ?_;refine⟨_,(fA x).cut,?_⟩;rw[an ho];obtain⟨m,hm⟩:=gu (show 0<=x.n by omega);have PA:m<own.length:=oO
   have hgd:own.getD x.n.toNat ef=own[m]:=by rw[hm];simp[List.getD,PA]
   refine⟨oO,_,by rw[hm];exact ct rfl PA,rfl,?_⟩;refine⟨_,(afa own[m] c (hk2 rfl)).cut,?_⟩;refine bl ?_;have hv:nF x own (gK c 255)=if gK c 255 own[m]=false then 8 else 0:=by rw[nF,aa hno,hgd];by_cases hq:gK c 255 own[m]=false;rw[af ⟨ho,hq⟩,af hq];rw[aa (λg=>hq g.2),aa hq]
   cases hq:gK c 255 own[m]with
   |false=>rw[hq,af rfl]at hv;rw[show fG c.kind c.file own[m]=false from hq];exact bad 8 hv dD
   |true=>rw[hq,aa dD]at hv;rw[show fG c.kind c.file own[m]=true from hq];exact nx (k+1) (aO (k+1) (next hv) oO rfl wS oS)
  rcases VO with rfl|rfl|rfl|rfl|rfl|rfl
  ·refine⟨oO,_,iX,rfl,?_⟩;refine az (λh=>?_) (λh0=>?_);exact bad 7 (af (.inl h)) dD;have h0:¬x.n<0:=h0;refine⟨none,?_⟩;refine cl (fA x).cut ?_;rw[ah ho];refine az (λh=>?_) (λh2=>?_);exact bad 7 (af (.inr (.inr h))) dD;have h2:¬x.n≥100000:=h2;have hno:¬(x.n<0\/(x.p=bF/\(own.length:Int)<=x.n)\/100000<=x.n):=by rintro(g|g|g);omega;exact ho g.1;omega
   refine cm 16 kK ?_;refine⟨_,(fA x).cut,?_⟩;rw[ah ho];have hv:nF x own (gK c 250)=0:=by rw[nF,aa hno,aa (λg=>ho g.1)]
   exact nx (k+1) (aO (k+1) (next hv) oO rfl wS oS)
  ·refine⟨oO,_,iX,rfl,?_⟩;refine az (λh=>?_) (λh0=>?_);exact bad 7 (af (.inl h)) dD;have h0:¬x.n<0:=h0;refine⟨none,?_⟩;refine cl (fA x).cut ?_;rw[ah ho];refine az (λh=>?_) (λh2=>?_);exact bad 7 (af (.inr (.inr h))) dD;have h2:¬x.n≥100000:=h2;have hno:¬(x.n<0\/(x.p=bF/\(own.length:Int)<=x.n)\/100000<=x.n):=by rintro(g|g|g);omega;exact ho g.1;omega
   refine cm 16 kK ?_;refine⟨_,(fA x).cut,?_⟩;rw[ah ho];have hv:nF x own (gK c 251)=0:=by rw[nF,aa hno,aa (λg=>ho g.1)]
   exact nx (k+1) (aO (k+1) (next hv) oO rfl wS oS)
  ·refine⟨oO,_,iX,rfl,?_⟩;refine az (λh=>?_) (λh0=>?_);exact bad 7 (af (.inl h)) dD;have h0:¬x.n<0:=h0;refine⟨none,?_⟩;refine cl (fA x).cut ?_;rw[ah ho];refine az (λh=>?_) (λh2=>?_);exact bad 7 (af (.inr (.inr h))) dD;have h2:¬x.n≥100000:=h2;have hno:¬(x.n<0\/(x.p=bF/\(own.length:Int)<=x.n)\/100000<=x.n):=by rintro(g|g|g);omega;exact ho g.1;omega
   refine cm 16 kK ?_;refine⟨_,(fA x).cut,?_⟩;rw[ah ho];have hv:nF x own (gK c 252)=0:=by rw[nF,aa hno,aa (λg=>ho g.1)]
   exact nx (k+1) (aO (k+1) (next hv) oO rfl wS oS)
  ·refine⟨oO,_,iX,rfl,?_⟩;refine az (λh=>?_) (λh0=>?_);exact bad 7 (af (.inl h)) dD;have h0:¬x.n<0:=h0;refine⟨none,?_⟩;refine cl (fA x).cut ?_;rw[ah ho];refine az (λh=>?_) (λh2=>?_);exact bad 7 (af (.inr (.inr h))) dD;have h2:¬x.n≥100000:=h2;have hno:¬(x.n<0\/(x.p=bF/\(own.length:Int)<=x.n)\/100000<=x.n):=by rintro(g|g|g);omega;exact ho g.1;omega
   refine cm 16 kK ?_;refine⟨_,(fA x).cut,?_⟩;rw[ah ho];have hv:nF x own (gK c 253)=0:=by rw[nF,aa hno,aa (λg=>ho g.1)]
   exact nx (k+1) (aO (k+1) (next hv) oO rfl wS oS)
  ·refine⟨oO,_,iX,rfl,?_⟩;refine az (λh=>?_) (λh0=>?_);exact bad 7 (af (.inl h)) dD;have h0:¬x.n<0:=h0;refine⟨none,?_⟩;refine cl (fA x).cut ?_;rw[ah ho];refine az (λh=>?_) (λh2=>?_);exact bad 7 (af (.inr (.inr h))) dD;have h2:¬x.n≥100000:=h2;have hno:¬(x.n<0\/(x.p=bF/\(own.length:Int)<=x.n)\/100000<=x.n):=by rintro(g|g|g);omega;exact ho g.1;omega
   refine cm 16 kK ?_;refine⟨_,(fA x).cut,?_⟩;rw[ah ho];have hv:nF x own (gK c 254)=0:=by rw[nF,aa hno,aa (λg=>ho g.1)]
   exact nx (k+1) (aO (k+1) (next hv) oO rfl wS oS)
  refine⟨oO,_,iX,rfl,?_⟩;refine az (λh=>?_) (λh0=>?_);exact bad 7 (af (.inl h)) dD;have h0:¬x.n<0:=h0;refine⟨none,?_⟩;refine cl (fA x).cut ?_;rw[ah ho];refine az (λh=>?_) (λh2=>?_);exact bad 7 (af (.inr (.inr h))) dD;have h2:¬x.n≥100000:=h2;have hno:¬(x.n<0\/(x.p=bF/\(own.length:Int)<=x.n)\/100000<=x.n):=by rintro(g|g|g);omega;exact ho g.1;omega
  refine cm 16 kK ?_;refine⟨_,(fA x).cut,?_⟩;rw[ah ho];have hv:nF x own (gK c 255)=0:=by rw[nF,aa hno,aa (λg=>ho g.1)]
  exact nx (k+1) (aO (k+1) (next hv) oO rfl wS oS)
 obtain rfl:k=L.length:=oO
 rw[qv]at hE;have hE:E=eo (Md c):=hE;unfold Md at hE;refine⟨none,?_⟩;refine share (T:=?T1) (λH1=>?m1) ?r1;case m1=>refine aA (λh1=>?_) (λh1=>?_);have h1:c.kind=2:=h1;refine ou ?_;refine iu (a:=c.parent) (b:=c.file) ?_;by_cases h2:c.parent=c.file;rw[an h2];rw[qY ⟨h1,h2⟩,eu dD]at hE;rw[hE];exact rfl;rw[ah h2];rw[jZ (λg=>h2 g.2)]at hE;refine dL 90 [(2,.ptr 2 0)] [(2,aH (cC c))] rfl wS oS ?_;revert hE;exact H1.out;have h1:¬c.kind=2:=h1;rw[jZ (λg=>h1 g.1)]at hE;refine dL 90 [(2,.ptr 2 0)] [(2,aH (cC c))] rfl wS oS ?_;revert hE;exact H1.out
 case r1=>
  intro hE;have yes:(gM c.kind=true/\c.dm=c.dG/\(c.kind=6\/c.dm≠c.file))->cQ.val (.int .i64 1)=cQ.val (.int .i64 E):=λh=>by rw[qY h,eu dD]at hE;rw[hE]
  have no:¬(gM c.kind=true/\c.dm=c.dG/\(c.kind=6\/c.dm≠c.file))->cQ.val (.int .i64 0)=cQ.val (.int .i64 E):=λh=>by rw[jZ h]at hE;rw[hE];rfl
  clear hE;refine⟨none,?_⟩;refine aA (λh6=>?_) (λh6=>?_);have h6:c.kind=6:=h6;refine ou ?_;refine iu (a:=c.dm) (b:=c.dG) ?_;by_cases h2:c.dm=c.dG;rw[an h2];exact yes ⟨by rw[h6];rfl,h2,.inl h6⟩;rw[ah h2];refine⟨none,?_⟩;refine aA (λh=>absurd (show c.kind=5 from h) oO) (λ_=>?_);exact no λg=>h2 g.2.1;have h6:¬c.kind=6:=h6;refine⟨none,?_⟩;refine aA (λh5=>?_) (λh5=>?_);have h5:c.kind=5:=h5;refine ou ?_;refine iu (a:=c.dm) (b:=c.dG) ?_;by_cases h2:c.dm=c.dG;rw[an h2];refine ou ?_;refine DA (a:=c.dm) (b:=c.file) ?_;by_cases h3:c.dm=c.file;rw[an h3];exact no λg=>g.2.2.elim h6 (λq=>q h3);rw[ah h3];exact yes ⟨by rw[h5];rfl,h2,.inr h3⟩;rw[ah h2];exact no λg=>h2 g.2.1;have h5:¬c.kind=5:=h5;refine no λg=>?_;have :=g.1;simp only[gM,qd,decide_eq_true_eq]at this;omega
def dH (c:eG):List (bg×Nat):=(if 2<=c.kind/\c.kind<=6 then[(c.file,if c.kind<=3 then 250 else if c.kind=4 then 251 else 252)]else[])++((if c.kind=2/\c.parent≠qK then[(c.parent,253)]else[])++((if gM c.kind=true then[(c.dm,254),(c.dG,254)]else[])++c.over.map λx=>(x,255)))
theorem Un (c:eG):(c.over.map λx=>((x,255):bg×Nat)).map (EG c)=(c.over.map λx=>((x,gy 255 c):oC)).map rc:=by rw[gZ,gZ];rfl
theorem yc (c:eG)(h1:1<=c.kind)(h7:c.kind<=7)(ho:c.over.length<=2^40):ak C 216 [.agg (cC c)] (λr=>r=.val (.sl ((dH c).map (EG c)))):=by
 have go:∀(L:List (bg×Nat))(M:List oC),dH c=L++c.over.map (λx=>(x,255))->L.map (EG c)=M.map rc->ak C 216 [.agg (cC c)] (λr=>r=.val (.sl (((M++c.over.map λx=>(x,gy 255 c)):List oC).map rc)))->ak C 216 [.agg (cC c)] (λr=>r=.val (.sl ((dH c).map (EG c)))):=λL M e1 e2 h=>by rw[e1,aM,Un,e2,<-aM];exact h
 unfold dH at go⊢;by_cases e1:c.kind=1;exact go [] [] (by simp[gM,e1]) rfl (afb c e1 ho);by_cases e2:c.kind=2;by_cases hp:c.parent=qK;exact go [(c.file,250)] _ (by simp[gM,e2,hp]) rfl (RE c e2 hp ho);exact go [(c.file,250),(c.parent,253)] _ (by simp[gM,e2,hp]) rfl (afh c e2 hp ho);by_cases e3:c.kind=3;exact go [(c.file,250)] _ (by simp[gM,e3]) rfl (afc c e3 ho);by_cases e4:c.kind=4;exact go [(c.file,251)] _ (by simp[gM,e4]) rfl (afd c e4 ho);by_cases e5:c.kind=5;exact go [(c.file,252),(c.dm,254),(c.dG,254)] _ (by simp[gM,e5]) rfl (afe c e5 ho);by_cases e6:c.kind=6;exact go [(c.file,252),(c.dm,254),(c.dG,254)] _ (by simp[gM,e6]) rfl (aff c e6 ho);have e7:c.kind=7:=oO
 exact go [] [] (by simp[gM,e7]) rfl (afg c e7 ho)
theorem OF {α:Type}(p:Prop)[Decidable p](l:List α):(if p then l else[]).length<=l.length:=by split;exact ay _;exact zL
theorem Yr (c:eG):(dH c).length<=4+c.over.length:=by unfold dH;simp only[aq,aj];have a1:=OF (2<=c.kind/\c.kind<=6) [(c.file,if c.kind<=3 then 250 else if c.kind=4 then 251 else 252)];have a2:=OF (c.kind=2/\c.parent≠qK) [(c.parent,253)];have a3:=OF (gM c.kind=true) [(c.dm,254),(c.dG,254)];simp only[aL,br]at a1 a2 a3;omega
def yd (c:eG)(own:List bD):Int:=Me c own (dH c)
theorem Bu (c:eG)(own:List bD)(h1:1<=c.kind)(h7:c.kind<=7)(hl:own.length<=2^40)(ho:c.over.length<=400)(h15:c.kind=1\/c.kind=5->c.over=[]):ak C 187 [.agg (cC c),.sl (eU own)] (λr=>r=.val (.int .i64 (yd c own))):=by
 have hmem:∀e,e∈dH c->(e.2=250\/e.2=251\/e.2=252\/e.2=253\/e.2=254\/(e.2=255/\c.over≠[])):=by intro e he;unfold dH at he;simp only[bh,aI]at he;rcases he with he|he|he|⟨x,hx,rfl⟩;split at he;simp only[aS]at he;subst he;simp only;split;simp;split<;>simp;cases he;split at he;simp only[aS]at he;subst he;simp;cases he;split at he;simp only[aQ,gr,or_false]at he;rcases he with rfl|rfl<;>simp;cases he;refine .inr (.inr (.inr (.inr (.inr ⟨rfl,λg=>?_⟩))));rw[g]at hx;cases hx
 refine Lf c own (dH c) hl (by have :=Yr c;omega) (λe he=>?_) (λe he h=>?_) (yc c h1 h7 oO);rcases hmem e he with h|h|h|h|h|h;exact .inl h;exact .inr (.inl h);exact .inr (.inr (.inl h));exact .inr (.inr (.inr (.inl h)));exact .inr (.inr (.inr (.inr (.inl h))));exact .inr (.inr (.inr (.inr (.inr h.1))));have AN:c.over≠[]:=by rcases hmem e he with g|g|g|g|g|g;omega;omega;omega;omega;omega;exact g.2
 have :¬(c.kind=1\/c.kind=5):=λg=>AN (h15 g);omega
theorem GD (l:List Int):eo (0::l)=eo l:=eZ rfl
theorem RF {a:Int}{l l':List Int}(h:eo l=eo l'):eo (a::l)=eo (a::l'):=by rw[eo,eo,h]
theorem HD {x:bg}{own:List bD}{g:bD->Bool}{fits:Bool}(hl:own.length<=100000)(hg:x.p=bF->0<=x.n->x.n<own.length->g (own.getD x.n.toNat ef)=fits):nF x own g=uG x own.length fits:=by
 unfold nF uG BU;by_cases hp:x.p=bF;by_cases h0:x.n<0\/(own.length:Int)<=x.n\/100000<=x.n;rw[af (show x.n<0\/(x.p=bF/\(own.length:Int)<=x.n)\/100000<=x.n from h0.imp id λg=>g.imp (λq=>⟨hp,q⟩) id),af hp];have ha:(decide (0<=x.n)&&decide (x.n<(own.length:Int)))=false:=by simp only[Bool.and_eq_false_iff,decide_eq_false_iff_not];omega
 rw[ha];rfl;rw[aa (show¬(x.n<0\/(x.p=bF/\(own.length:Int)<=x.n)\/100000<=x.n)fromλh=>h0 (h.imp id λg=>g.imp (λq=>q.2) id)),af hp,hg hp oO oO];have ha:(decide (0<=x.n)&&decide (x.n<(own.length:Int)))=true:=by simp only[aW,decide_eq_true_eq];omega
 rw[ha,af rfl];by_cases h0:x.n<0\/100000<=x.n;rw[af (show x.n<0\/(x.p=bF/\(own.length:Int)<=x.n)\/100000<=x.n from h0.imp id .inr),aa hp];have ha:(decide (0<=x.n)&&decide (x.n<100000))=false:=by simp only[Bool.and_eq_false_iff,decide_eq_false_iff_not];omega
 rw[ha];rfl;rw[aa (show¬(x.n<0\/(x.p=bF/\(own.length:Int)<=x.n)\/100000<=x.n)fromλh=>h0 (h.imp id λg=>g.elim (λq=>absurd q.1 hp) id)),aa hp];have ha:(decide (0<=x.n)&&decide (x.n<100000))=true:=by simp only[aW,decide_eq_true_eq];omega
 rw[ha,af rfl,aa (λg=>hp g.1),aa (λg=>hp g.1)]
def OG (own:List bD):Prop:=∀n (h:n<own.length),own[n].id=⟨bF,(n:Int)⟩
theorem DY {own:List bD}{x:bg}(hp:x.p=bF)(h0:0<=x.n)(h1:x.n<own.length):mo own x=own.getD x.n.toNat ef:=af ⟨hp,h0,h1⟩
theorem Ys (c:eG)(own:List bD)(hl:own.length<=100000)(hid:OG own):yd c own=mY c own:=by
 have alB:∀x:bg,nF x own (gK c 254)=uG x own.length (decide (x=c.file)||lI c.file (mo own x)):=λx=>by
  refine HD hl λhp h0 h1=>?_;rw[DY hp h0 h1];have hlt:x.n.toNat<own.length:=oO
  have hq:=hid _ hlt;have hg:own.getD x.n.toNat ef=own[x.n.toNat]:=by simp[List.getD,hlt]
  rw[hg];show(decide (own[x.n.toNat].id=c.file)||_)=_;have hx:own[x.n.toNat].id=x:=by rw[hq];obtain⟨p,n⟩:=x;simp only at hp h0;subst hp;simp only[bg.mk.injEq,true_and];omega
  rw[hx];rfl
 have AN:(c.over.map λx=>((x,255):bg×Nat)).map (λe=>nF e.1 own (gK c e.2))=c.over.map λx=>uG x own.length (fG c.kind c.file (mo own x)):=by rw[gZ];refine fQ λx _=>?_;exact HD hl λhp h0 h1=>by rw[DY hp h0 h1];rfl
 have ach:2<=c.kind/\c.kind<=6->nF c.file own (gK c (if c.kind<=3 then 250 else if c.kind=4 then 251 else 252))=uG c.file own.length (er c.kind (mo own c.file)):=λhk=>by
  refine HD hl λhp h0 h1=>?_;rw[DY hp h0 h1];generalize own.getD c.file.n.toNat ef=a;by_cases h3:c.kind<=3;rw[af h3];have h4:c.kind≠4:=oO
  have ht:gM c.kind=false:=by simp only[gM,kH,decide_eq_false_iff_not];omega
  simp[gK,er,ht,h4];rw[aa h3];by_cases h4:c.kind=4;rw[af h4];simp[gK,er,gM,h4];rw[aa h4];have ht:gM c.kind=true:=by simp only[gM,qd,decide_eq_true_eq];omega
  simp[gK,er,ht]
 have hpar:nF c.parent own (gK c 253)=uG c.parent own.length (Be (mo own c.parent)):=HD hl λhp h0 h1=>by rw[DY hp h0 h1];rfl
 unfold yd Me mY Ru dH;by_cases h1:2<=c.kind/\c.kind<=6<;>by_cases h2:c.kind=2/\c.parent≠qK<;>by_cases h3:gM c.kind=true;all_goals first|rw[af h1,af h1]|rw[aa h1,aa h1]
 all_goals first|rw[af h2,af h2]|rw[aa h2,aa h2]
 all_goals first|rw[af h3,af h3,af h3]|rw[aa h3,aa h3,aa h3]
 all_goals simp only[aM,cS,iN,nN,eB,bf,GD,AN,hpar,alB,Md]
 all_goals try rw[ach h1]
 all_goals repeat (first|rfl|rw[GD]|refine RF ?_)
end Qv
