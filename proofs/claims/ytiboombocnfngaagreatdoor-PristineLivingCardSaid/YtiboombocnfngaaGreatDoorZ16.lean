/- Part 22 of the proof: its lemmas. No condition. -/
import Derived.Test.YtiboombocnfngaaGreatDoorZ11
set_option maxRecDepth 10000
set_option maxHeartbeats 80000000
set_option linter.all false
open Go Go.Proofs Go.RowKit
namespace Qv
def fnK (c:dH)(n:Nat):AV:=if n<185 then jT n else gz n c
def DV (c:dH)(e:bB×Nat):List AV:=cI e.1++[fnK c e.2]
def gK (c:dH)(n:Nat)(x:bO):Bool:=if n=181 then decide (x.kind=1)else if n=182 then decide (x.kind=1)&&(decide (x.type=2)||decide (x.type=3))else if n=183 then decide (x.kind=1)&&decide (x.type=1)else if n=184 then decide (x.kind=1)&&decide (x.type=4)else if n=185 then decide (x.id=c.file)||(decide (x.kind=5)&&decide (x.file=c.file))else gj c.kind c.file x
def mR (x:bB)(own:List bO)(g:bO->Bool):Int:=if x.n<0\/(x.p=bg/\(own.length:Int)<=x.n)\/100000<=x.n then 7 else if x.p=bg/\g (own.getD x.n.toNat de)=false then 8 else 0
def Le (c:dH):List Int:=[if c.kind=2/\c.parent=c.file then 20 else 0,if iS c.kind=true/\c.eH=c.eY/\(c.kind=6\/c.eH≠c.file)then 1 else 0]
def Lf (c:dH)(own:List bO)(L:List (bB×Nat)):Int:=bk ((L.map λe=>mR e.1 own (gK c e.2))++Le c)
theorem Kg (c:dH)(own:List bO)(L:List (bB×Nat))(hl:own.length<=2^40)(hL:L.length<=2^40)(hn:∀e,e∈L->e.2=181\/e.2=182\/e.2=183\/e.2=184\/e.2=185\/e.2=186)(hk:∀e,e∈L->e.2=186->c.kind=2\/c.kind=3\/c.kind=4\/c.kind=6\/c.kind=7)(akG:au C 112 [.agg (cC c)] (λr=>r=.val (.sl (L.map (DV c))))):au C 251 [.agg (cC c),.sl (kB own)] (λr=>r=.val (.int .i64 (Lf c own L))):=by
 obtain⟨E,hE⟩:∃E,Lf c own L=E:=⟨_,rfl⟩;rw[hE];have hE:E=Lf c own L:=hE.symm;unfold Lf at hE;have hal:(((kB own).length:Nat):Int)=(own.length:Int):=by simp[kB]
 refine ia [13] Tryz.func251 rfl rfl rfl (cl akG.cut (bW 90 (λk:Nat=>[(1,.p (.sl (kB own))),(2,.ptr 2 0),(8,.p (.sl (L.map (DV c)))),(9,.p (.int .i64 ((L.map (DV c)).length:Int))),(10,.p (.int .i64 k))]) (λ_=>[(2,aI (cC c))]) (λk=>k<=L.length/\E=bk (((L.drop k).map λe=>mR e.1 own (gK c e.2))++Le c)) (λk=>L.length-k) 0 ⟨zL,hE⟩ rfl wS oS ?_));rintro k ⟨Sg,hE⟩;refine cu (l:=L) (f:=DV c) (λhlt=>?_) (λhge=>?_)
 ·have hm:=aT hlt;have VX:=hn _ hm;have hk2:=hk _ hm;have gP:(L.map (DV c))[((k:Nat):Int).toNat]?=some (DV c L[k]):=fh rfl hlt;rw[JZ hlt]at hE;clear hm;generalize L[k]=e at VX hk2 gP hE;obtain⟨x,n⟩:=e;simp only at VX hk2 hE;have next:mR x own (gK c n)=0->k+1<=L.length/\E=bk (((L.drop (k+1)).map λe=>mR e.1 own (gK c e.2))++Le c):=λh=>⟨hlt,by rw[ef h]at hE;exact hE⟩;have bad:∀z:Int,mR x own (gK c n)=z->z≠0->fN.val (.int .i64 z)=fN.val (.int .i64 E):=λz h h0=>by rw[fW (by rw[h];exact h0),h]at hE;rw[hE]
  clear hE;by_cases ho:x.p=bg
  ·rcases VX with rfl|rfl|rfl|rfl|rfl|rfl
   ·refine⟨oO,_,gP,rfl,?_⟩;refine aQ (λh=>?_) (λh0=>?_);exact bad 7 (af (.inl h)) dD;have h0:¬x.n<0:=h0;refine⟨none,cl (fG x).cut ?_⟩;rw[ai ho];refine aQ (λh=>?_) (λh1=>?_);have h:x.n≥(((kB own).length:Nat):Int):=h;exact bad 7 (af (.inr (.inl ⟨ho,oO⟩))) dD;have h1:¬x.n≥(((kB own).length:Nat):Int):=h1;refine aQ (λh=>?_) (λh2=>?_);exact bad 7 (af (.inr (.inr h))) dD;have h2:¬x.n≥100000:=h2;have hno:¬(x.n<0\/(x.p=bg/\(own.length:Int)<=x.n)\/100000<=x.n):=by rintro(g|g|g);omega;omega;omega
    refine cw 16 kK ⟨_,(fG x).cut,?_⟩;rw[ai ho];obtain⟨m,hm⟩:=pM (show 0<=x.n by omega);have Lg:m<own.length:=oO
    have hgd:own.getD x.n.toNat de=own[m]:=by rw[hm];simp[List.getD,Lg]
    refine⟨oO,_,by rw[hm];exact fh rfl Lg,rfl,?_⟩;refine⟨_,(ac5 own[m]).cut,bR ?_⟩;have hv:mR x own (gK c 181)=if gK c 181 own[m]=false then 8 else 0:=by rw[mR,aa hno,hgd];by_cases hq:gK c 181 own[m]=false;rw[af ⟨ho,hq⟩,af hq];rw[aa (λg=>hq g.2),aa hq]
    cases hq:gK c 181 own[m]with
    |false=>rw[hq,af rfl]at hv;rw[show decide (own[m].kind=1)=false from hq];exact bad 8 hv dD
    |true=>rw[hq,aa dD]at hv;rw[show decide (own[m].kind=1)=true from hq];exact nx (k+1) (aU (k+1) (next hv) oO rfl wS oS)
   ·refine⟨oO,_,gP,rfl,?_⟩;refine aQ (λh=>?_) (λh0=>?_);exact bad 7 (af (.inl h)) dD;have h0:¬x.n<0:=h0;refine⟨none,cl (fG x).cut ?_⟩;rw[ai ho];refine aQ (λh=>?_) (λh1=>?_);have h:x.n≥(((kB own).length:Nat):Int):=h;exact bad 7 (af (.inr (.inl ⟨ho,oO⟩))) dD;have h1:¬x.n≥(((kB own).length:Nat):Int):=h1;refine aQ (λh=>?_) (λh2=>?_);exact bad 7 (af (.inr (.inr h))) dD;have h2:¬x.n≥100000:=h2;have hno:¬(x.n<0\/(x.p=bg/\(own.length:Int)<=x.n)\/100000<=x.n):=by rintro(g|g|g);omega;omega;omega
    refine cw 16 kK ⟨_,(fG x).cut,?_⟩;rw[ai ho];obtain⟨m,hm⟩:=pM (show 0<=x.n by omega);have Lg:m<own.length:=oO
    have hgd:own.getD x.n.toNat de=own[m]:=by rw[hm];simp[List.getD,Lg]
    refine⟨oO,_,by rw[hm];exact fh rfl Lg,rfl,?_⟩;refine⟨_,(ac6 own[m]).cut,bR ?_⟩;have hv:mR x own (gK c 182)=if gK c 182 own[m]=false then 8 else 0:=by rw[mR,aa hno,hgd];by_cases hq:gK c 182 own[m]=false;rw[af ⟨ho,hq⟩,af hq];rw[aa (λg=>hq g.2),aa hq]
    cases hq:gK c 182 own[m]with
    |false=>rw[hq,af rfl]at hv;rw[show(decide (own[m].kind=1)&&(decide (own[m].type=2)||decide (own[m].type=3)))=false from hq];exact bad 8 hv dD
    |true=>rw[hq,aa dD]at hv;rw[show(decide (own[m].kind=1)&&(decide (own[m].type=2)||decide (own[m].type=3)))=true from hq];exact nx (k+1) (aU (k+1) (next hv) oO rfl wS oS)
   ·refine⟨oO,_,gP,rfl,?_⟩;refine aQ (λh=>?_) (λh0=>?_);exact bad 7 (af (.inl h)) dD;have h0:¬x.n<0:=h0;refine⟨none,cl (fG x).cut ?_⟩;rw[ai ho];refine aQ (λh=>?_) (λh1=>?_);have h:x.n≥(((kB own).length:Nat):Int):=h;exact bad 7 (af (.inr (.inl ⟨ho,oO⟩))) dD;have h1:¬x.n≥(((kB own).length:Nat):Int):=h1;refine aQ (λh=>?_) (λh2=>?_);exact bad 7 (af (.inr (.inr h))) dD;have h2:¬x.n≥100000:=h2;have hno:¬(x.n<0\/(x.p=bg/\(own.length:Int)<=x.n)\/100000<=x.n):=by rintro(g|g|g);omega;omega;omega
    refine cw 16 kK ⟨_,(fG x).cut,?_⟩;rw[ai ho];obtain⟨m,hm⟩:=pM (show 0<=x.n by omega);have Lg:m<own.length:=oO
    have hgd:own.getD x.n.toNat de=own[m]:=by rw[hm];simp[List.getD,Lg]
    refine⟨oO,_,by rw[hm];exact fh rfl Lg,rfl,?_⟩;refine⟨_,(ac7 own[m]).cut,bR ?_⟩;have hv:mR x own (gK c 183)=if gK c 183 own[m]=false then 8 else 0:=by rw[mR,aa hno,hgd];by_cases hq:gK c 183 own[m]=false;rw[af ⟨ho,hq⟩,af hq];rw[aa (λg=>hq g.2),aa hq]
    cases hq:gK c 183 own[m]with
    |false=>rw[hq,af rfl]at hv;rw[show(decide (own[m].kind=1)&&decide (own[m].type=1))=false from hq];exact bad 8 hv dD
    |true=>rw[hq,aa dD]at hv;rw[show(decide (own[m].kind=1)&&decide (own[m].type=1))=true from hq];exact nx (k+1) (aU (k+1) (next hv) oO rfl wS oS)
   ·refine⟨oO,_,gP,rfl,?_⟩;refine aQ (λh=>?_) (λh0=>?_);exact bad 7 (af (.inl h)) dD;have h0:¬x.n<0:=h0;refine⟨none,cl (fG x).cut ?_⟩;rw[ai ho];refine aQ (λh=>?_) (λh1=>?_);have h:x.n≥(((kB own).length:Nat):Int):=h;exact bad 7 (af (.inr (.inl ⟨ho,oO⟩))) dD;have h1:¬x.n≥(((kB own).length:Nat):Int):=h1;refine aQ (λh=>?_) (λh2=>?_);exact bad 7 (af (.inr (.inr h))) dD;have h2:¬x.n≥100000:=h2;have hno:¬(x.n<0\/(x.p=bg/\(own.length:Int)<=x.n)\/100000<=x.n):=by rintro(g|g|g);omega;omega;omega
    refine cw 16 kK ⟨_,(fG x).cut,?_⟩;rw[ai ho];obtain⟨m,hm⟩:=pM (show 0<=x.n by omega);have Lg:m<own.length:=oO
    have hgd:own.getD x.n.toNat de=own[m]:=by rw[hm];simp[List.getD,Lg]
    refine⟨oO,_,by rw[hm];exact fh rfl Lg,rfl,?_⟩;refine⟨_,(ac8 own[m]).cut,bR ?_⟩;have hv:mR x own (gK c 184)=if gK c 184 own[m]=false then 8 else 0:=by rw[mR,aa hno,hgd];by_cases hq:gK c 184 own[m]=false;rw[af ⟨ho,hq⟩,af hq];rw[aa (λg=>hq g.2),aa hq]
    cases hq:gK c 184 own[m]with
    |false=>rw[hq,af rfl]at hv;rw[show(decide (own[m].kind=1)&&decide (own[m].type=4))=false from hq];exact bad 8 hv dD
    |true=>rw[hq,aa dD]at hv;rw[show(decide (own[m].kind=1)&&decide (own[m].type=4))=true from hq];exact nx (k+1) (aU (k+1) (next hv) oO rfl wS oS)
   ·refine⟨oO,_,gP,rfl,?_⟩;refine aQ (λh=>?_) (λh0=>?_);exact bad 7 (af (.inl h)) dD;have h0:¬x.n<0:=h0;refine⟨none,cl (fG x).cut ?_⟩;rw[ai ho];refine aQ (λh=>?_) (λh1=>?_);have h:x.n≥(((kB own).length:Nat):Int):=h;exact bad 7 (af (.inr (.inl ⟨ho,oO⟩))) dD;have h1:¬x.n≥(((kB own).length:Nat):Int):=h1;refine aQ (λh=>?_) (λh2=>?_);exact bad 7 (af (.inr (.inr h))) dD;have h2:¬x.n≥100000:=h2;have hno:¬(x.n<0\/(x.p=bg/\(own.length:Int)<=x.n)\/100000<=x.n):=by rintro(g|g|g);omega;omega;omega
    refine cw 16 kK ⟨_,(fG x).cut,?_⟩;rw[ai ho];obtain⟨m,hm⟩:=pM (show 0<=x.n by omega);have Lg:m<own.length:=oO
    have hgd:own.getD x.n.toNat de=own[m]:=by rw[hm];simp[List.getD,Lg]
    refine⟨oO,_,by rw[hm];exact fh rfl Lg,rfl,?_⟩;refine⟨_,(ac9 own[m] c).cut,bR ?_⟩;have hv:mR x own (gK c 185)=if gK c 185 own[m]=false then 8 else 0:=by rw[mR,aa hno,hgd];by_cases hq:gK c 185 own[m]=false;rw[af ⟨ho,hq⟩,af hq];rw[aa (λg=>hq g.2),aa hq]
    cases hq:gK c 185 own[m]with
    |false=>rw[hq,af rfl]at hv;rw[show(decide (own[m].id=c.file)||(decide (own[m].kind=5)&&decide (own[m].file=c.file)))=false from hq];exact bad 8 hv dD
    |true=>rw[hq,aa dD]at hv;rw[show(decide (own[m].id=c.file)||(decide (own[m].kind=5)&&decide (own[m].file=c.file)))=true from hq];exact nx (k+1) (aU (k+1) (next hv) oO rfl wS oS)
   refine⟨oO,_,gP,rfl,?_⟩;refine aQ (λh=>?_) (λh0=>?_);exact bad 7 (af (.inl h)) dD;have h0:¬x.n<0:=h0;refine⟨none,cl (fG x).cut ?_⟩;rw[ai ho];refine aQ (λh=>?_) (λh1=>?_);have h:x.n≥(((kB own).length:Nat):Int):=h;exact bad 7 (af (.inr (.inl ⟨ho,oO⟩))) dD;have h1:¬x.n≥(((kB own).length:Nat):Int):=h1;refine aQ (λh=>?_) (λh2=>?_);exact bad 7 (af (.inr (.inr h))) dD;have h2:¬x.n≥100000:=h2;have hno:¬(x.n<0\/(x.p=bg/\(own.length:Int)<=x.n)\/100000<=x.n):=by rintro(g|g|g);omega;omega;omega
   refine cw 16 kK ⟨_,(fG x).cut,?_⟩;rw[ai ho];obtain⟨m,hm⟩:=pM (show 0<=x.n by omega);have Lg:m<own.length:=oO
   have hgd:own.getD x.n.toNat de=own[m]:=by rw[hm];simp[List.getD,Lg]
   refine⟨oO,_,by rw[hm];exact fh rfl Lg,rfl,?_⟩;refine⟨_,(ada own[m] c (hk2 rfl)).cut,bR ?_⟩;have hv:mR x own (gK c 186)=if gK c 186 own[m]=false then 8 else 0:=by rw[mR,aa hno,hgd];by_cases hq:gK c 186 own[m]=false;rw[af ⟨ho,hq⟩,af hq];rw[aa (λg=>hq g.2),aa hq]
   cases hq:gK c 186 own[m]with
   |false=>rw[hq,af rfl]at hv;rw[show gj c.kind c.file own[m]=false from hq];exact bad 8 hv dD
   |true=>rw[hq,aa dD]at hv;rw[show gj c.kind c.file own[m]=true from hq];exact nx (k+1) (aU (k+1) (next hv) oO rfl wS oS)
  rcases VX with rfl|rfl|rfl|rfl|rfl|rfl
  ·refine⟨oO,_,gP,rfl,?_⟩;refine aQ (λh=>?_) (λh0=>?_);exact bad 7 (af (.inl h)) dD;have h0:¬x.n<0:=h0;refine⟨none,cl (fG x).cut ?_⟩;rw[ah ho];refine aQ (λh=>?_) (λh2=>?_);exact bad 7 (af (.inr (.inr h))) dD;have h2:¬x.n≥100000:=h2;have hno:¬(x.n<0\/(x.p=bg/\(own.length:Int)<=x.n)\/100000<=x.n):=by rintro(g|g|g);omega;exact ho g.1;omega
   refine cw 16 kK ⟨_,(fG x).cut,?_⟩;rw[ah ho];have hv:mR x own (gK c 181)=0:=by rw[mR,aa hno,aa (λg=>ho g.1)]
   exact nx (k+1) (aU (k+1) (next hv) oO rfl wS oS)
  ·refine⟨oO,_,gP,rfl,?_⟩;refine aQ (λh=>?_) (λh0=>?_);exact bad 7 (af (.inl h)) dD;have h0:¬x.n<0:=h0;refine⟨none,cl (fG x).cut ?_⟩;rw[ah ho];refine aQ (λh=>?_) (λh2=>?_);exact bad 7 (af (.inr (.inr h))) dD;have h2:¬x.n≥100000:=h2;have hno:¬(x.n<0\/(x.p=bg/\(own.length:Int)<=x.n)\/100000<=x.n):=by rintro(g|g|g);omega;exact ho g.1;omega
   refine cw 16 kK ⟨_,(fG x).cut,?_⟩;rw[ah ho];have hv:mR x own (gK c 182)=0:=by rw[mR,aa hno,aa (λg=>ho g.1)]
   exact nx (k+1) (aU (k+1) (next hv) oO rfl wS oS)
  ·refine⟨oO,_,gP,rfl,?_⟩;refine aQ (λh=>?_) (λh0=>?_);exact bad 7 (af (.inl h)) dD;have h0:¬x.n<0:=h0;refine⟨none,cl (fG x).cut ?_⟩;rw[ah ho];refine aQ (λh=>?_) (λh2=>?_);exact bad 7 (af (.inr (.inr h))) dD;have h2:¬x.n≥100000:=h2;have hno:¬(x.n<0\/(x.p=bg/\(own.length:Int)<=x.n)\/100000<=x.n):=by rintro(g|g|g);omega;exact ho g.1;omega
   refine cw 16 kK ⟨_,(fG x).cut,?_⟩;rw[ah ho];have hv:mR x own (gK c 183)=0:=by rw[mR,aa hno,aa (λg=>ho g.1)]
   exact nx (k+1) (aU (k+1) (next hv) oO rfl wS oS)
  ·refine⟨oO,_,gP,rfl,?_⟩;refine aQ (λh=>?_) (λh0=>?_);exact bad 7 (af (.inl h)) dD;have h0:¬x.n<0:=h0;refine⟨none,cl (fG x).cut ?_⟩;rw[ah ho];refine aQ (λh=>?_) (λh2=>?_);exact bad 7 (af (.inr (.inr h))) dD;have h2:¬x.n≥100000:=h2;have hno:¬(x.n<0\/(x.p=bg/\(own.length:Int)<=x.n)\/100000<=x.n):=by rintro(g|g|g);omega;exact ho g.1;omega
   refine cw 16 kK ⟨_,(fG x).cut,?_⟩;rw[ah ho];have hv:mR x own (gK c 184)=0:=by rw[mR,aa hno,aa (λg=>ho g.1)]
   exact nx (k+1) (aU (k+1) (next hv) oO rfl wS oS)
  ·refine⟨oO,_,gP,rfl,?_⟩;refine aQ (λh=>?_) (λh0=>?_);exact bad 7 (af (.inl h)) dD;have h0:¬x.n<0:=h0;refine⟨none,cl (fG x).cut ?_⟩;rw[ah ho];refine aQ (λh=>?_) (λh2=>?_);exact bad 7 (af (.inr (.inr h))) dD;have h2:¬x.n≥100000:=h2;have hno:¬(x.n<0\/(x.p=bg/\(own.length:Int)<=x.n)\/100000<=x.n):=by rintro(g|g|g);omega;exact ho g.1;omega
   refine cw 16 kK ⟨_,(fG x).cut,?_⟩;rw[ah ho];have hv:mR x own (gK c 185)=0:=by rw[mR,aa hno,aa (λg=>ho g.1)]
   exact nx (k+1) (aU (k+1) (next hv) oO rfl wS oS)
  refine⟨oO,_,gP,rfl,?_⟩;refine aQ (λh=>?_) (λh0=>?_);exact bad 7 (af (.inl h)) dD;have h0:¬x.n<0:=h0;refine⟨none,cl (fG x).cut ?_⟩;rw[ah ho];refine aQ (λh=>?_) (λh2=>?_);exact bad 7 (af (.inr (.inr h))) dD;have h2:¬x.n≥100000:=h2;have hno:¬(x.n<0\/(x.p=bg/\(own.length:Int)<=x.n)\/100000<=x.n):=by rintro(g|g|g);omega;exact ho g.1;omega
  refine cw 16 kK ⟨_,(fG x).cut,?_⟩;rw[ah ho];have hv:mR x own (gK c 186)=0:=by rw[mR,aa hno,aa (λg=>ho g.1)]
  exact nx (k+1) (aU (k+1) (next hv) oO rfl wS oS)
 obtain rfl:k=L.length:=oO
 rw[List.drop_length]at hE;have hE:E=bk (Le c):=hE;unfold Le at hE;refine⟨none,share (T:=?T1) (λH1=>?m1) ?r1⟩;case m1=>refine aH (λh1=>?_) (λh1=>?_);have h1:c.kind=2:=h1;refine pZ (jH (a:=c.parent) (b:=c.file) ?_);by_cases h2:c.parent=c.file;rw[ai h2];rw[Iu ⟨h1,h2⟩,fW dD]at hE;rw[hE];exact rfl;rw[ah h2];rw[EA (λg=>h2 g.2)]at hE;refine ee 90 [(2,.ptr 2 0)] [(2,aI (cC c))] rfl wS oS ?_;revert hE;exact H1.out;have h1:¬c.kind=2:=h1;rw[EA (λg=>h1 g.1)]at hE;refine ee 90 [(2,.ptr 2 0)] [(2,aI (cC c))] rfl wS oS ?_;revert hE;exact H1.out
 case r1=>
  intro hE;have yes:(iS c.kind=true/\c.eH=c.eY/\(c.kind=6\/c.eH≠c.file))->fN.val (.int .i64 1)=fN.val (.int .i64 E):=λh=>by rw[Iu h,fW dD]at hE;rw[hE]
  have no:¬(iS c.kind=true/\c.eH=c.eY/\(c.kind=6\/c.eH≠c.file))->fN.val (.int .i64 0)=fN.val (.int .i64 E):=λh=>by rw[EA h]at hE;rw[hE];rfl
  clear hE;refine⟨none,aH (λh6=>?_) (λh6=>?_)⟩;have h6:c.kind=6:=h6;refine pZ (jH (a:=c.eH) (b:=c.eY) ?_);by_cases h2:c.eH=c.eY;rw[ai h2];exact yes ⟨by rw[h6];rfl,h2,.inl h6⟩;rw[ah h2];exact⟨none,aH (λh=>absurd (show c.kind=5 from h) oO) (λ_=>no λg=>h2 g.2.1)⟩;have h6:¬c.kind=6:=h6;refine⟨none,aH (λh5=>?_) (λh5=>?_)⟩;have h5:c.kind=5:=h5;refine pZ (jH (a:=c.eH) (b:=c.eY) ?_);by_cases h2:c.eH=c.eY;rw[ai h2];refine pZ (AD (a:=c.eH) (b:=c.file) ?_);by_cases h3:c.eH=c.file;rw[ai h3];exact no λg=>g.2.2.elim h6 (λq=>q h3);rw[ah h3];exact yes ⟨by rw[h5];rfl,h2,.inr h3⟩;rw[ah h2];exact no λg=>h2 g.2.1;have h5:¬c.kind=5:=h5;refine no λg=>?_;have :=g.1;simp only[iS,kr,decide_eq_true_eq]at this;omega
def di (c:dH):List (bB×Nat):=(if 2<=c.kind/\c.kind<=6 then[(c.file,if c.kind<=3 then 181 else if c.kind=4 then 182 else 183)]else[])++((if c.kind=2/\c.parent≠lD then[(c.parent,184)]else[])++((if iS c.kind=true then[(c.eH,185),(c.eY,185)]else[])++c.over.map λx=>(x,186)))
theorem SO (c:dH):(c.over.map λx=>((x,186):bB×Nat)).map (DV c)=(c.over.map λx=>((x,gz 186 c):nQ)).map rc:=by rw[dV,dV];rfl
theorem wE (c:dH)(h1:1<=c.kind)(h7:c.kind<=7)(ho:c.over.length<=2^40):au C 112 [.agg (cC c)] (λr=>r=.val (.sl ((di c).map (DV c)))):=by
 have go:∀(L:List (bB×Nat))(M:List nQ),di c=L++c.over.map (λx=>(x,186))->L.map (DV c)=M.map rc->au C 112 [.agg (cC c)] (λr=>r=.val (.sl (((M++c.over.map λx=>(x,gz 186 c)):List nQ).map rc)))->au C 112 [.agg (cC c)] (λr=>r=.val (.sl ((di c).map (DV c)))):=λL M e1 e2 h=>by rw[e1,aF,SO,e2,<-aF];exact h
 unfold di at go⊢;by_cases e1:c.kind=1;exact go [] [] (by simp[iS,e1]) rfl (adb c e1 ho);by_cases e2:c.kind=2;by_cases hp:c.parent=lD;exact go [(c.file,181)] _ (by simp[iS,e2,hp]) rfl (Qa c e2 hp ho);exact go [(c.file,181),(c.parent,184)] _ (by simp[iS,e2,hp]) rfl (adj c e2 hp ho);by_cases e3:c.kind=3;exact go [(c.file,181)] _ (by simp[iS,e3]) rfl (ade c e3 ho);by_cases e4:c.kind=4;exact go [(c.file,182)] _ (by simp[iS,e4]) rfl (adf c e4 ho);by_cases e5:c.kind=5;exact go [(c.file,183),(c.eH,185),(c.eY,185)] _ (by simp[iS,e5]) rfl (adg c e5 ho);by_cases e6:c.kind=6;exact go [(c.file,183),(c.eH,185),(c.eY,185)] _ (by simp[iS,e6]) rfl (adh c e6 ho);have e7:c.kind=7:=oO
 exact go [] [] (by simp[iS,e7]) rfl (adi c e7 ho)
theorem Ns {α:Type}(p:Prop)[Decidable p](l:List α):(if p then l else[]).length<=l.length:=by split;exact av _;exact zL
theorem WM (c:dH):(di c).length<=4+c.over.length:=by unfold di;simp only[ay,aj];have a1:=Ns (2<=c.kind/\c.kind<=6) [(c.file,if c.kind<=3 then 181 else if c.kind=4 then 182 else 183)];have a2:=Ns (c.kind=2/\c.parent≠lD) [(c.parent,184)];have a3:=Ns (iS c.kind=true) [(c.eH,185),(c.eY,185)];simp only[aS,bA]at a1 a2 a3;omega
def wF (c:dH)(own:List bO):Int:=Lf c own (di c)
theorem AG (c:dH)(own:List bO)(h1:1<=c.kind)(h7:c.kind<=7)(hl:own.length<=2^40)(ho:c.over.length<=400)(h15:c.kind=1\/c.kind=5->c.over=[]):au C 251 [.agg (cC c),.sl (kB own)] (λr=>r=.val (.int .i64 (wF c own))):=by
 have hmem:∀e,e∈di c->(e.2=181\/e.2=182\/e.2=183\/e.2=184\/e.2=185\/(e.2=186/\c.over≠[])):=by intro e he;unfold di at he;simp only[bf,aB]at he;rcases he with he|he|he|⟨x,hx,rfl⟩;split at he;simp only[aL]at he;subst he;simp only;split;simp;split<;>simp;cases he;split at he;simp only[aL]at he;subst he;simp;cases he;split at he;simp only[aC,gy,or_false]at he;rcases he with rfl|rfl<;>simp;cases he;refine .inr (.inr (.inr (.inr (.inr ⟨rfl,λg=>?_⟩))));rw[g]at hx;cases hx
 refine Kg c own (di c) hl (by have :=WM c;omega) (λe he=>?_) (λe he h=>?_) (wE c h1 h7 oO);rcases hmem e he with h|h|h|h|h|h;exact .inl h;exact .inr (.inl h);exact .inr (.inr (.inl h));exact .inr (.inr (.inr (.inl h)));exact .inr (.inr (.inr (.inr (.inl h))));exact .inr (.inr (.inr (.inr (.inr h.1))));have Ke:c.over≠[]:=by rcases hmem e he with g|g|g|g|g|g;omega;omega;omega;omega;omega;exact g.2
 have :¬(c.kind=1\/c.kind=5):=λg=>Ke (h15 g);omega
theorem FH (l:List Int):bk (0::l)=bk l:=ef rfl
theorem Qb {a:Int}{l l':List Int}(h:bk l=bk l'):bk (a::l)=bk (a::l'):=by rw[bk,bk,h]
theorem GI {x:bB}{own:List bO}{g:bO->Bool}{fits:Bool}(hl:own.length<=100000)(hg:x.p=bg->0<=x.n->x.n<own.length->g (own.getD x.n.toNat de)=fits):mR x own g=Da x own.length fits:=by
 unfold mR Da Ng;by_cases hp:x.p=bg;by_cases h0:x.n<0\/(own.length:Int)<=x.n\/100000<=x.n;rw[af (show x.n<0\/(x.p=bg/\(own.length:Int)<=x.n)\/100000<=x.n from h0.imp id λg=>g.imp (λq=>⟨hp,q⟩) id),af hp];have ha:(decide (0<=x.n)&&decide (x.n<(own.length:Int)))=false:=by simp only[Bool.and_eq_false_iff,decide_eq_false_iff_not];omega
 rw[ha];rfl;rw[aa (show¬(x.n<0\/(x.p=bg/\(own.length:Int)<=x.n)\/100000<=x.n)fromλh=>h0 (h.imp id λg=>g.imp (λq=>q.2) id)),af hp,hg hp oO oO];have ha:(decide (0<=x.n)&&decide (x.n<(own.length:Int)))=true:=by simp only[aR,decide_eq_true_eq];omega
 rw[ha,af rfl];by_cases h0:x.n<0\/100000<=x.n;rw[af (show x.n<0\/(x.p=bg/\(own.length:Int)<=x.n)\/100000<=x.n from h0.imp id .inr),aa hp];have ha:(decide (0<=x.n)&&decide (x.n<100000))=false:=by simp only[Bool.and_eq_false_iff,decide_eq_false_iff_not];omega
 rw[ha];rfl;rw[aa (show¬(x.n<0\/(x.p=bg/\(own.length:Int)<=x.n)\/100000<=x.n)fromλh=>h0 (h.imp id λg=>g.elim (λq=>absurd q.1 hp) id)),aa hp];have ha:(decide (0<=x.n)&&decide (x.n<100000))=true:=by simp only[aR,decide_eq_true_eq];omega
 rw[ha,af rfl,aa (λg=>hp g.1),aa (λg=>hp g.1)]
def Nt (own:List bO):Prop:=∀n (h:n<own.length),own[n].id=⟨bg,(n:Int)⟩
theorem Df {own:List bO}{x:bB}(hp:x.p=bg)(h0:0<=x.n)(h1:x.n<own.length):Is own x=own.getD x.n.toNat de:=af ⟨hp,h0,h1⟩
theorem WN (c:dH)(own:List bO)(hl:own.length<=100000)(hid:Nt own):wF c own=oa c own:=by
 have akI:∀x:bB,mR x own (gK c 185)=Da x own.length (decide (x=c.file)||gH c.file (Is own x)):=λx=>by
  refine GI hl λhp h0 h1=>?_;rw[Df hp h0 h1];have hlt:x.n.toNat<own.length:=oO
  have hq:=hid _ hlt;have hg:own.getD x.n.toNat de=own[x.n.toNat]:=by simp[List.getD,hlt]
  rw[hg];show(decide (own[x.n.toNat].id=c.file)||_)=_;have hx:own[x.n.toNat].id=x:=by rw[hq];obtain⟨p,n⟩:=x;simp only at hp h0;subst hp;simp only[bB.mk.injEq,true_and];omega
  rw[hx];rfl
 have Ke:(c.over.map λx=>((x,186):bB×Nat)).map (λe=>mR e.1 own (gK c e.2))=c.over.map λx=>Da x own.length (gj c.kind c.file (Is own x)):=by rw[dV];refine dF λx _=>?_;exact GI hl λhp h0 h1=>by rw[Df hp h0 h1];rfl
 have aas:2<=c.kind/\c.kind<=6->mR c.file own (gK c (if c.kind<=3 then 181 else if c.kind=4 then 182 else 183))=Da c.file own.length (bH c.kind (Is own c.file)):=λhk=>by
  refine GI hl λhp h0 h1=>?_;rw[Df hp h0 h1];generalize own.getD c.file.n.toNat de=a;by_cases h3:c.kind<=3;rw[af h3];have h4:c.kind≠4:=oO
  have ht:iS c.kind=false:=by simp only[iS,nA,decide_eq_false_iff_not];omega
  simp[gK,bH,ht,h4];rw[aa h3];by_cases h4:c.kind=4;rw[af h4];simp[gK,bH,iS,h4];rw[aa h4];have ht:iS c.kind=true:=by simp only[iS,kr,decide_eq_true_eq];omega
  simp[gK,bH,ht]
 have hpar:mR c.parent own (gK c 184)=Da c.parent own.length (lJ (Is own c.parent)):=GI hl λhp h0 h1=>by rw[Df hp h0 h1];rfl
 unfold wF Lf oa ZU di;by_cases h1:2<=c.kind/\c.kind<=6<;>by_cases h2:c.kind=2/\c.parent≠lD<;>by_cases h3:iS c.kind=true;all_goals first|rw[af h1,af h1]|rw[aa h1,aa h1]
 all_goals first|rw[af h2,af h2]|rw[aa h2,aa h2]
 all_goals first|rw[af h3,af h3,af h3]|rw[aa h3,aa h3,aa h3]
 all_goals simp only[aF,bw,fV,dS,cr,bl,FH,Ke,hpar,akI,Le]
 all_goals try rw[aas h1]
 all_goals repeat (first|rfl|rw[FH]|refine Qb ?_)
end Qv
