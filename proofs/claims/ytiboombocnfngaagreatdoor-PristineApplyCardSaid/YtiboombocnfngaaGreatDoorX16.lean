/- Part 22 of the proof: its lemmas. No condition. -/
import Derived.Test.YtiboombocnfngaaGreatDoorX11
set_option maxRecDepth 10000
set_option maxHeartbeats 80000000
set_option linter.all false
open Go Go.Proofs Go.RowKit
namespace Qv
def fnK (c:dw)(n:Nat):AV:=if n<185 then kJ n else gU n c
def EE (c:dw)(e:bQ×Nat):List AV:=cI e.1++[fnK c e.2]
def gK (c:dw)(n:Nat)(x:bR):Bool:=if n=181 then decide (x.kind=1)else if n=182 then decide (x.kind=1)&&(decide (x.type=2)||decide (x.type=3))else if n=183 then decide (x.kind=1)&&decide (x.type=1)else if n=184 then decide (x.kind=1)&&decide (x.type=4)else if n=185 then decide (x.id=c.file)||(decide (x.kind=5)&&decide (x.file=c.file))else dR c.kind c.file x
def nN (x:bQ)(own:List bR)(g:bR->Bool):Int:=if x.n<0\/(x.p=aZ/\(own.length:Int)<=x.n)\/100000<=x.n then 7 else if x.p=aZ/\g (own.getD x.n.toNat dK)=false then 8 else 0
def Md (c:dw):List Int:=[if c.kind=2/\c.parent=c.file then 20 else 0,if fC c.kind=true/\c.cQ=c.dc/\(c.kind=6\/c.cQ≠c.file)then 1 else 0]
def Me (c:dw)(own:List bR)(L:List (bQ×Nat)):Int:=bf ((L.map λe=>nN e.1 own (gK c e.2))++Md c)
theorem KX (c:dw)(own:List bR)(L:List (bQ×Nat))(hl:own.length<=2^40)(hL:L.length<=2^40)(hn:∀e,e∈L->e.2=181\/e.2=182\/e.2=183\/e.2=184\/e.2=185\/e.2=186)(hk:∀e,e∈L->e.2=186->c.kind=2\/c.kind=3\/c.kind=4\/c.kind=6\/c.kind=7)(alC:av C 112 [.agg (cC c)] (λr=>r=.val (.sl (L.map (EE c))))):av C 251 [.agg (cC c),.sl (gI own)] (λr=>r=.val (.int .i64 (Me c own L))):=by
 obtain⟨E,hE⟩:∃E,Me c own L=E:=⟨_,rfl⟩;rw[hE];have hE:E=Me c own L:=hE.symm;unfold Me at hE;have hal:(((gI own).length:Nat):Int)=(own.length:Int):=by simp[gI]
 refine dY [13] Tryz.func251 rfl rfl rfl (cl alC.cut (bJ 90 (λk:Nat=>[(1,.p (.sl (gI own))),(2,.ptr 2 0),(8,.p (.sl (L.map (EE c)))),(9,.p (.int .i64 ((L.map (EE c)).length:Int))),(10,.p (.int .i64 k))]) (λ_=>[(2,aH (cC c))]) (λk=>k<=L.length/\E=bf (((L.drop k).map λe=>nN e.1 own (gK c e.2))++Md c)) (λk=>L.length-k) 0 ⟨zL,hE⟩ rfl wS oS ?_));rintro k ⟨hk1,hE⟩;refine cq (l:=L) (f:=EE c) (λhlt=>?_) (λhge=>?_)
 ·have hm:=aQ hlt;have WR:=hn _ hm;have hk2:=hk _ hm;have fW:(L.map (EE c))[((k:Nat):Int).toNat]?=some (EE c L[k]):=eC rfl hlt;rw[By hlt]at hE;clear hm;generalize L[k]=e at WR hk2 fW hE;obtain⟨x,n⟩:=e;simp only at WR hk2 hE;have next:nN x own (gK c n)=0->k+1<=L.length/\E=bf (((L.drop (k+1)).map λe=>nN e.1 own (gK c e.2))++Md c):=λh=>⟨hlt,by rw[dz h]at hE;exact hE⟩;have bad:∀z:Int,nN x own (gK c n)=z->z≠0->dJ.val (.int .i64 z)=dJ.val (.int .i64 E):=λz h h0=>by rw[ee (by rw[h];exact h0),h]at hE;rw[hE]
  clear hE;by_cases ho:x.p=aZ
  ·rcases WR with rfl|rfl|rfl|rfl|rfl|rfl
   ·refine⟨oO,_,fW,rfl,?_⟩;refine aF (λh=>?_) (λh0=>?_);exact bad 7 (ag (.inl h)) dD;have h0:¬x.n<0:=h0;refine⟨none,cl (fV x).cut ?_⟩;rw[ah ho];refine aF (λh=>?_) (λh1=>?_);have h:x.n≥(((gI own).length:Nat):Int):=h;exact bad 7 (ag (.inr (.inl ⟨ho,oO⟩))) dD;have h1:¬x.n≥(((gI own).length:Nat):Int):=h1;refine aF (λh=>?_) (λh2=>?_);exact bad 7 (ag (.inr (.inr h))) dD;have h2:¬x.n≥100000:=h2;have hno:¬(x.n<0\/(x.p=aZ/\(own.length:Int)<=x.n)\/100000<=x.n):=by rintro(g|g|g);omega;omega;omega
    refine bZ 16 kK ⟨_,(fV x).cut,?_⟩;rw[ah ho];obtain⟨m,hm⟩:=lC (show 0<=x.n by omega);have OA:m<own.length:=oO
    have hgd:own.getD x.n.toNat dK=own[m]:=by rw[hm];simp[List.getD,OA]
    refine⟨oO,_,by rw[hm];exact eC rfl OA,rfl,?_⟩;refine⟨_,(aez own[m]).cut,bF ?_⟩;have hv:nN x own (gK c 181)=if gK c 181 own[m]=false then 8 else 0:=by rw[nN,af hno,hgd];by_cases hq:gK c 181 own[m]=false;rw[ag ⟨ho,hq⟩,ag hq];rw[af (λg=>hq g.2),af hq]
    cases hq:gK c 181 own[m]with
    |false=>rw[hq,ag rfl]at hv;rw[show decide (own[m].kind=1)=false from hq];exact bad 8 hv dD
    |true=>rw[hq,af dD]at hv;rw[show decide (own[m].kind=1)=true from hq];exact nx (k+1) (aT (k+1) (next hv) oO rfl wS oS)
   ·refine⟨oO,_,fW,rfl,?_⟩;refine aF (λh=>?_) (λh0=>?_);exact bad 7 (ag (.inl h)) dD;have h0:¬x.n<0:=h0;refine⟨none,cl (fV x).cut ?_⟩;rw[ah ho];refine aF (λh=>?_) (λh1=>?_);have h:x.n≥(((gI own).length:Nat):Int):=h;exact bad 7 (ag (.inr (.inl ⟨ho,oO⟩))) dD;have h1:¬x.n≥(((gI own).length:Nat):Int):=h1;refine aF (λh=>?_) (λh2=>?_);exact bad 7 (ag (.inr (.inr h))) dD;have h2:¬x.n≥100000:=h2;have hno:¬(x.n<0\/(x.p=aZ/\(own.length:Int)<=x.n)\/100000<=x.n):=by rintro(g|g|g);omega;omega;omega
    refine bZ 16 kK ⟨_,(fV x).cut,?_⟩;rw[ah ho];obtain⟨m,hm⟩:=lC (show 0<=x.n by omega);have OA:m<own.length:=oO
    have hgd:own.getD x.n.toNat dK=own[m]:=by rw[hm];simp[List.getD,OA]
    refine⟨oO,_,by rw[hm];exact eC rfl OA,rfl,?_⟩;refine⟨_,(aeA own[m]).cut,bF ?_⟩;have hv:nN x own (gK c 182)=if gK c 182 own[m]=false then 8 else 0:=by rw[nN,af hno,hgd];by_cases hq:gK c 182 own[m]=false;rw[ag ⟨ho,hq⟩,ag hq];rw[af (λg=>hq g.2),af hq]
    cases hq:gK c 182 own[m]with
    |false=>rw[hq,ag rfl]at hv;rw[show(decide (own[m].kind=1)&&(decide (own[m].type=2)||decide (own[m].type=3)))=false from hq];exact bad 8 hv dD
    |true=>rw[hq,af dD]at hv;rw[show(decide (own[m].kind=1)&&(decide (own[m].type=2)||decide (own[m].type=3)))=true from hq];exact nx (k+1) (aT (k+1) (next hv) oO rfl wS oS)
   ·refine⟨oO,_,fW,rfl,?_⟩;refine aF (λh=>?_) (λh0=>?_);exact bad 7 (ag (.inl h)) dD;have h0:¬x.n<0:=h0;refine⟨none,cl (fV x).cut ?_⟩;rw[ah ho];refine aF (λh=>?_) (λh1=>?_);have h:x.n≥(((gI own).length:Nat):Int):=h;exact bad 7 (ag (.inr (.inl ⟨ho,oO⟩))) dD;have h1:¬x.n≥(((gI own).length:Nat):Int):=h1;refine aF (λh=>?_) (λh2=>?_);exact bad 7 (ag (.inr (.inr h))) dD;have h2:¬x.n≥100000:=h2;have hno:¬(x.n<0\/(x.p=aZ/\(own.length:Int)<=x.n)\/100000<=x.n):=by rintro(g|g|g);omega;omega;omega
    refine bZ 16 kK ⟨_,(fV x).cut,?_⟩;rw[ah ho];obtain⟨m,hm⟩:=lC (show 0<=x.n by omega);have OA:m<own.length:=oO
    have hgd:own.getD x.n.toNat dK=own[m]:=by rw[hm];simp[List.getD,OA]
    refine⟨oO,_,by rw[hm];exact eC rfl OA,rfl,?_⟩;refine⟨_,(aeB own[m]).cut,bF ?_⟩;have hv:nN x own (gK c 183)=if gK c 183 own[m]=false then 8 else 0:=by rw[nN,af hno,hgd];by_cases hq:gK c 183 own[m]=false;rw[ag ⟨ho,hq⟩,ag hq];rw[af (λg=>hq g.2),af hq]
    cases hq:gK c 183 own[m]with
    |false=>rw[hq,ag rfl]at hv;rw[show(decide (own[m].kind=1)&&decide (own[m].type=1))=false from hq];exact bad 8 hv dD
    |true=>rw[hq,af dD]at hv;rw[show(decide (own[m].kind=1)&&decide (own[m].type=1))=true from hq];exact nx (k+1) (aT (k+1) (next hv) oO rfl wS oS)
   ·refine⟨oO,_,fW,rfl,?_⟩;refine aF (λh=>?_) (λh0=>?_);exact bad 7 (ag (.inl h)) dD;have h0:¬x.n<0:=h0;refine⟨none,cl (fV x).cut ?_⟩;rw[ah ho];refine aF (λh=>?_) (λh1=>?_);have h:x.n≥(((gI own).length:Nat):Int):=h;exact bad 7 (ag (.inr (.inl ⟨ho,oO⟩))) dD;have h1:¬x.n≥(((gI own).length:Nat):Int):=h1;refine aF (λh=>?_) (λh2=>?_);exact bad 7 (ag (.inr (.inr h))) dD;have h2:¬x.n≥100000:=h2;have hno:¬(x.n<0\/(x.p=aZ/\(own.length:Int)<=x.n)\/100000<=x.n):=by rintro(g|g|g);omega;omega;omega
    refine bZ 16 kK ⟨_,(fV x).cut,?_⟩;rw[ah ho];obtain⟨m,hm⟩:=lC (show 0<=x.n by omega);have OA:m<own.length:=oO
    have hgd:own.getD x.n.toNat dK=own[m]:=by rw[hm];simp[List.getD,OA]
    refine⟨oO,_,by rw[hm];exact eC rfl OA,rfl,?_⟩;refine⟨_,(aeC own[m]).cut,bF ?_⟩;have hv:nN x own (gK c 184)=if gK c 184 own[m]=false then 8 else 0:=by rw[nN,af hno,hgd];by_cases hq:gK c 184 own[m]=false;rw[ag ⟨ho,hq⟩,ag hq];rw[af (λg=>hq g.2),af hq]
    cases hq:gK c 184 own[m]with
    |false=>rw[hq,ag rfl]at hv;rw[show(decide (own[m].kind=1)&&decide (own[m].type=4))=false from hq];exact bad 8 hv dD
    |true=>rw[hq,af dD]at hv;rw[show(decide (own[m].kind=1)&&decide (own[m].type=4))=true from hq];exact nx (k+1) (aT (k+1) (next hv) oO rfl wS oS)
   ·refine⟨oO,_,fW,rfl,?_⟩;refine aF (λh=>?_) (λh0=>?_);exact bad 7 (ag (.inl h)) dD;have h0:¬x.n<0:=h0;refine⟨none,cl (fV x).cut ?_⟩;rw[ah ho];refine aF (λh=>?_) (λh1=>?_);have h:x.n≥(((gI own).length:Nat):Int):=h;exact bad 7 (ag (.inr (.inl ⟨ho,oO⟩))) dD;have h1:¬x.n≥(((gI own).length:Nat):Int):=h1;refine aF (λh=>?_) (λh2=>?_);exact bad 7 (ag (.inr (.inr h))) dD;have h2:¬x.n≥100000:=h2;have hno:¬(x.n<0\/(x.p=aZ/\(own.length:Int)<=x.n)\/100000<=x.n):=by rintro(g|g|g);omega;omega;omega
    refine bZ 16 kK ⟨_,(fV x).cut,?_⟩;rw[ah ho];obtain⟨m,hm⟩:=lC (show 0<=x.n by omega);have OA:m<own.length:=oO
    have hgd:own.getD x.n.toNat dK=own[m]:=by rw[hm];simp[List.getD,OA]
    refine⟨oO,_,by rw[hm];exact eC rfl OA,rfl,?_⟩;refine⟨_,(aeD own[m] c).cut,bF ?_⟩;have hv:nN x own (gK c 185)=if gK c 185 own[m]=false then 8 else 0:=by rw[nN,af hno,hgd];by_cases hq:gK c 185 own[m]=false;rw[ag ⟨ho,hq⟩,ag hq];rw[af (λg=>hq g.2),af hq]
    cases hq:gK c 185 own[m]with
    |false=>rw[hq,ag rfl]at hv;rw[show(decide (own[m].id=c.file)||(decide (own[m].kind=5)&&decide (own[m].file=c.file)))=false from hq];exact bad 8 hv dD
    |true=>rw[hq,af dD]at hv;rw[show(decide (own[m].id=c.file)||(decide (own[m].kind=5)&&decide (own[m].file=c.file)))=true from hq];exact nx (k+1) (aT (k+1) (next hv) oO rfl wS oS)
   refine⟨oO,_,fW,rfl,?_⟩;refine aF (λh=>?_) (λh0=>?_);exact bad 7 (ag (.inl h)) dD;have h0:¬x.n<0:=h0;refine⟨none,cl (fV x).cut ?_⟩;rw[ah ho];refine aF (λh=>?_) (λh1=>?_);have h:x.n≥(((gI own).length:Nat):Int):=h;exact bad 7 (ag (.inr (.inl ⟨ho,oO⟩))) dD;have h1:¬x.n≥(((gI own).length:Nat):Int):=h1;refine aF (λh=>?_) (λh2=>?_);exact bad 7 (ag (.inr (.inr h))) dD;have h2:¬x.n≥100000:=h2;have hno:¬(x.n<0\/(x.p=aZ/\(own.length:Int)<=x.n)\/100000<=x.n):=by rintro(g|g|g);omega;omega;omega
   refine bZ 16 kK ⟨_,(fV x).cut,?_⟩;rw[ah ho];obtain⟨m,hm⟩:=lC (show 0<=x.n by omega);have OA:m<own.length:=oO
   have hgd:own.getD x.n.toNat dK=own[m]:=by rw[hm];simp[List.getD,OA]
   refine⟨oO,_,by rw[hm];exact eC rfl OA,rfl,?_⟩;refine⟨_,(aeE own[m] c (hk2 rfl)).cut,bF ?_⟩;have hv:nN x own (gK c 186)=if gK c 186 own[m]=false then 8 else 0:=by rw[nN,af hno,hgd];by_cases hq:gK c 186 own[m]=false;rw[ag ⟨ho,hq⟩,ag hq];rw[af (λg=>hq g.2),af hq]
   cases hq:gK c 186 own[m]with
   |false=>rw[hq,ag rfl]at hv;rw[show dR c.kind c.file own[m]=false from hq];exact bad 8 hv dD
   |true=>rw[hq,af dD]at hv;rw[show dR c.kind c.file own[m]=true from hq];exact nx (k+1) (aT (k+1) (next hv) oO rfl wS oS)
  rcases WR with rfl|rfl|rfl|rfl|rfl|rfl
  ·refine⟨oO,_,fW,rfl,?_⟩;refine aF (λh=>?_) (λh0=>?_);exact bad 7 (ag (.inl h)) dD;have h0:¬x.n<0:=h0;refine⟨none,cl (fV x).cut ?_⟩;rw[ai ho];refine aF (λh=>?_) (λh2=>?_);exact bad 7 (ag (.inr (.inr h))) dD;have h2:¬x.n≥100000:=h2;have hno:¬(x.n<0\/(x.p=aZ/\(own.length:Int)<=x.n)\/100000<=x.n):=by rintro(g|g|g);omega;exact ho g.1;omega
   refine bZ 16 kK ⟨_,(fV x).cut,?_⟩;rw[ai ho];have hv:nN x own (gK c 181)=0:=by rw[nN,af hno,af (λg=>ho g.1)]
   exact nx (k+1) (aT (k+1) (next hv) oO rfl wS oS)
  ·refine⟨oO,_,fW,rfl,?_⟩;refine aF (λh=>?_) (λh0=>?_);exact bad 7 (ag (.inl h)) dD;have h0:¬x.n<0:=h0;refine⟨none,cl (fV x).cut ?_⟩;rw[ai ho];refine aF (λh=>?_) (λh2=>?_);exact bad 7 (ag (.inr (.inr h))) dD;have h2:¬x.n≥100000:=h2;have hno:¬(x.n<0\/(x.p=aZ/\(own.length:Int)<=x.n)\/100000<=x.n):=by rintro(g|g|g);omega;exact ho g.1;omega
   refine bZ 16 kK ⟨_,(fV x).cut,?_⟩;rw[ai ho];have hv:nN x own (gK c 182)=0:=by rw[nN,af hno,af (λg=>ho g.1)]
   exact nx (k+1) (aT (k+1) (next hv) oO rfl wS oS)
  ·refine⟨oO,_,fW,rfl,?_⟩;refine aF (λh=>?_) (λh0=>?_);exact bad 7 (ag (.inl h)) dD;have h0:¬x.n<0:=h0;refine⟨none,cl (fV x).cut ?_⟩;rw[ai ho];refine aF (λh=>?_) (λh2=>?_);exact bad 7 (ag (.inr (.inr h))) dD;have h2:¬x.n≥100000:=h2;have hno:¬(x.n<0\/(x.p=aZ/\(own.length:Int)<=x.n)\/100000<=x.n):=by rintro(g|g|g);omega;exact ho g.1;omega
   refine bZ 16 kK ⟨_,(fV x).cut,?_⟩;rw[ai ho];have hv:nN x own (gK c 183)=0:=by rw[nN,af hno,af (λg=>ho g.1)]
   exact nx (k+1) (aT (k+1) (next hv) oO rfl wS oS)
  ·refine⟨oO,_,fW,rfl,?_⟩;refine aF (λh=>?_) (λh0=>?_);exact bad 7 (ag (.inl h)) dD;have h0:¬x.n<0:=h0;refine⟨none,cl (fV x).cut ?_⟩;rw[ai ho];refine aF (λh=>?_) (λh2=>?_);exact bad 7 (ag (.inr (.inr h))) dD;have h2:¬x.n≥100000:=h2;have hno:¬(x.n<0\/(x.p=aZ/\(own.length:Int)<=x.n)\/100000<=x.n):=by rintro(g|g|g);omega;exact ho g.1;omega
   refine bZ 16 kK ⟨_,(fV x).cut,?_⟩;rw[ai ho];have hv:nN x own (gK c 184)=0:=by rw[nN,af hno,af (λg=>ho g.1)]
   exact nx (k+1) (aT (k+1) (next hv) oO rfl wS oS)
  ·refine⟨oO,_,fW,rfl,?_⟩;refine aF (λh=>?_) (λh0=>?_);exact bad 7 (ag (.inl h)) dD;have h0:¬x.n<0:=h0;refine⟨none,cl (fV x).cut ?_⟩;rw[ai ho];refine aF (λh=>?_) (λh2=>?_);exact bad 7 (ag (.inr (.inr h))) dD;have h2:¬x.n≥100000:=h2;have hno:¬(x.n<0\/(x.p=aZ/\(own.length:Int)<=x.n)\/100000<=x.n):=by rintro(g|g|g);omega;exact ho g.1;omega
   refine bZ 16 kK ⟨_,(fV x).cut,?_⟩;rw[ai ho];have hv:nN x own (gK c 185)=0:=by rw[nN,af hno,af (λg=>ho g.1)]
   exact nx (k+1) (aT (k+1) (next hv) oO rfl wS oS)
  refine⟨oO,_,fW,rfl,?_⟩;refine aF (λh=>?_) (λh0=>?_);exact bad 7 (ag (.inl h)) dD;have h0:¬x.n<0:=h0;refine⟨none,cl (fV x).cut ?_⟩;rw[ai ho];refine aF (λh=>?_) (λh2=>?_);exact bad 7 (ag (.inr (.inr h))) dD;have h2:¬x.n≥100000:=h2;have hno:¬(x.n<0\/(x.p=aZ/\(own.length:Int)<=x.n)\/100000<=x.n):=by rintro(g|g|g);omega;exact ho g.1;omega
  refine bZ 16 kK ⟨_,(fV x).cut,?_⟩;rw[ai ho];have hv:nN x own (gK c 186)=0:=by rw[nN,af hno,af (λg=>ho g.1)]
  exact nx (k+1) (aT (k+1) (next hv) oO rfl wS oS)
 obtain rfl:k=L.length:=oO
 rw[List.drop_length]at hE;have hE:E=bf (Md c):=hE;unfold Md at hE;refine⟨none,share (T:=?T1) (λH1=>?m1) ?r1⟩;case m1=>refine aC (λh1=>?_) (λh1=>?_);have h1:c.kind=2:=h1;refine pW (jw (a:=c.parent) (b:=c.file) ?_);by_cases h2:c.parent=c.file;rw[ah h2];rw[rH ⟨h1,h2⟩,ee dD]at hE;rw[hE];exact rfl;rw[ai h2];rw[kI (λg=>h2 g.2)]at hE;refine de 90 [(2,.ptr 2 0)] [(2,aH (cC c))] rfl wS oS ?_;revert hE;exact H1.out;have h1:¬c.kind=2:=h1;rw[kI (λg=>h1 g.1)]at hE;refine de 90 [(2,.ptr 2 0)] [(2,aH (cC c))] rfl wS oS ?_;revert hE;exact H1.out
 case r1=>
  intro hE;have yes:(fC c.kind=true/\c.cQ=c.dc/\(c.kind=6\/c.cQ≠c.file))->dJ.val (.int .i64 1)=dJ.val (.int .i64 E):=λh=>by rw[rH h,ee dD]at hE;rw[hE]
  have no:¬(fC c.kind=true/\c.cQ=c.dc/\(c.kind=6\/c.cQ≠c.file))->dJ.val (.int .i64 0)=dJ.val (.int .i64 E):=λh=>by rw[kI h]at hE;rw[hE];rfl
  clear hE;refine⟨none,aC (λh6=>?_) (λh6=>?_)⟩;have h6:c.kind=6:=h6;refine pW (jw (a:=c.cQ) (b:=c.dc) ?_);by_cases h2:c.cQ=c.dc;rw[ah h2];exact yes ⟨by rw[h6];rfl,h2,.inl h6⟩;rw[ai h2];exact⟨none,aC (λh=>absurd (show c.kind=5 from h) oO) (λ_=>no λg=>h2 g.2.1)⟩;have h6:¬c.kind=6:=h6;refine⟨none,aC (λh5=>?_) (λh5=>?_)⟩;have h5:c.kind=5:=h5;refine pW (jw (a:=c.cQ) (b:=c.dc) ?_);by_cases h2:c.cQ=c.dc;rw[ah h2];refine pW (zO (a:=c.cQ) (b:=c.file) ?_);by_cases h3:c.cQ=c.file;rw[ah h3];exact no λg=>g.2.2.elim h6 (λq=>q h3);rw[ai h3];exact yes ⟨by rw[h5];rfl,h2,.inr h3⟩;rw[ai h2];exact no λg=>h2 g.2.1;have h5:¬c.kind=5:=h5;refine no λg=>?_;have :=g.1;simp only[fC,qn,decide_eq_true_eq]at this;omega
def dI (c:dw):List (bQ×Nat):=(if 2<=c.kind/\c.kind<=6 then[(c.file,if c.kind<=3 then 181 else if c.kind=4 then 182 else 183)]else[])++((if c.kind=2/\c.parent≠iS then[(c.parent,184)]else[])++((if fC c.kind=true then[(c.cQ,185),(c.dc,185)]else[])++c.over.map λx=>(x,186)))
theorem TT (c:dw):(c.over.map λx=>((x,186):bQ×Nat)).map (EE c)=(c.over.map λx=>((x,gU 186 c):oF)).map rc:=by rw[fP,fP];rfl
theorem xQ (c:dw)(h1:1<=c.kind)(h7:c.kind<=7)(ho:c.over.length<=2^40):av C 112 [.agg (cC c)] (λr=>r=.val (.sl ((dI c).map (EE c)))):=by
 have go:∀(L:List (bQ×Nat))(M:List oF),dI c=L++c.over.map (λx=>(x,186))->L.map (EE c)=M.map rc->av C 112 [.agg (cC c)] (λr=>r=.val (.sl (((M++c.over.map λx=>(x,gU 186 c)):List oF).map rc)))->av C 112 [.agg (cC c)] (λr=>r=.val (.sl ((dI c).map (EE c)))):=λL M e1 e2 h=>by rw[e1,aD,TT,e2,<-aD];exact h
 unfold dI at go⊢;by_cases e1:c.kind=1;exact go [] [] (by simp[fC,e1]) rfl (aeF c e1 ho);by_cases e2:c.kind=2;by_cases hp:c.parent=iS;exact go [(c.file,181)] _ (by simp[fC,e2,hp]) rfl (Rq c e2 hp ho);exact go [(c.file,181),(c.parent,184)] _ (by simp[fC,e2,hp]) rfl (aeL c e2 hp ho);by_cases e3:c.kind=3;exact go [(c.file,181)] _ (by simp[fC,e3]) rfl (aeG c e3 ho);by_cases e4:c.kind=4;exact go [(c.file,182)] _ (by simp[fC,e4]) rfl (aeH c e4 ho);by_cases e5:c.kind=5;exact go [(c.file,183),(c.cQ,185),(c.dc,185)] _ (by simp[fC,e5]) rfl (aeI c e5 ho);by_cases e6:c.kind=6;exact go [(c.file,183),(c.cQ,185),(c.dc,185)] _ (by simp[fC,e6]) rfl (aeJ c e6 ho);have e7:c.kind=7:=oO
 exact go [] [] (by simp[fC,e7]) rfl (aeK c e7 ho)
theorem OB {α:Type}(p:Prop)[Decidable p](l:List α):(if p then l else[]).length<=l.length:=by split;exact aB _;exact zL
theorem XG (c:dw):(dI c).length<=4+c.over.length:=by unfold dI;simp only[aA,aj];have a1:=OB (2<=c.kind/\c.kind<=6) [(c.file,if c.kind<=3 then 181 else if c.kind=4 then 182 else 183)];have a2:=OB (c.kind=2/\c.parent≠iS) [(c.parent,184)];have a3:=OB (fC c.kind=true) [(c.cQ,185),(c.dc,185)];simp only[aW,bt]at a1 a2 a3;omega
def xR (c:dw)(own:List bR):Int:=Me c own (dI c)
theorem BB (c:dw)(own:List bR)(h1:1<=c.kind)(h7:c.kind<=7)(hl:own.length<=2^40)(ho:c.over.length<=400)(h15:c.kind=1\/c.kind=5->c.over=[]):av C 251 [.agg (cC c),.sl (gI own)] (λr=>r=.val (.int .i64 (xR c own))):=by
 have hmem:∀e,e∈dI c->(e.2=181\/e.2=182\/e.2=183\/e.2=184\/e.2=185\/(e.2=186/\c.over≠[])):=by intro e he;unfold dI at he;simp only[bk,aJ]at he;rcases he with he|he|he|⟨x,hx,rfl⟩;split at he;simp only[aO]at he;subst he;simp only;split;simp;split<;>simp;cases he;split at he;simp only[aO]at he;subst he;simp;cases he;split at he;simp only[aL,gQ,or_false]at he;rcases he with rfl|rfl<;>simp;cases he;refine .inr (.inr (.inr (.inr (.inr ⟨rfl,λg=>?_⟩))));rw[g]at hx;cases hx
 refine KX c own (dI c) hl (by have :=XG c;omega) (λe he=>?_) (λe he h=>?_) (xQ c h1 h7 oO);rcases hmem e he with h|h|h|h|h|h;exact .inl h;exact .inr (.inl h);exact .inr (.inr (.inl h));exact .inr (.inr (.inr (.inl h)));exact .inr (.inr (.inr (.inr (.inl h))));exact .inr (.inr (.inr (.inr (.inr h.1))));have Aa:c.over≠[]:=by rcases hmem e he with g|g|g|g|g|g;omega;omega;omega;omega;omega;exact g.2
 have :¬(c.kind=1\/c.kind=5):=λg=>Aa (h15 g);omega
theorem Gq (l:List Int):bf (0::l)=bf l:=dz rfl
theorem Rr {a:Int}{l l':List Int}(h:bf l=bf l'):bf (a::l)=bf (a::l'):=by rw[bf,bf,h]
theorem Hv {x:bQ}{own:List bR}{g:bR->Bool}{fits:Bool}(hl:own.length<=100000)(hg:x.p=aZ->0<=x.n->x.n<own.length->g (own.getD x.n.toNat dK)=fits):nN x own g=pY x own.length fits:=by
 unfold nN pY sI;by_cases hp:x.p=aZ;by_cases h0:x.n<0\/(own.length:Int)<=x.n\/100000<=x.n;rw[ag (show x.n<0\/(x.p=aZ/\(own.length:Int)<=x.n)\/100000<=x.n from h0.imp id λg=>g.imp (λq=>⟨hp,q⟩) id),ag hp];have ha:(decide (0<=x.n)&&decide (x.n<(own.length:Int)))=false:=by simp only[Bool.and_eq_false_iff,decide_eq_false_iff_not];omega
 rw[ha];rfl;rw[af (show¬(x.n<0\/(x.p=aZ/\(own.length:Int)<=x.n)\/100000<=x.n)fromλh=>h0 (h.imp id λg=>g.imp (λq=>q.2) id)),ag hp,hg hp oO oO];have ha:(decide (0<=x.n)&&decide (x.n<(own.length:Int)))=true:=by simp only[bn,decide_eq_true_eq];omega
 rw[ha,ag rfl];by_cases h0:x.n<0\/100000<=x.n;rw[ag (show x.n<0\/(x.p=aZ/\(own.length:Int)<=x.n)\/100000<=x.n from h0.imp id .inr),af hp];have ha:(decide (0<=x.n)&&decide (x.n<100000))=false:=by simp only[Bool.and_eq_false_iff,decide_eq_false_iff_not];omega
 rw[ha];rfl;rw[af (show¬(x.n<0\/(x.p=aZ/\(own.length:Int)<=x.n)\/100000<=x.n)fromλh=>h0 (h.imp id λg=>g.elim (λq=>absurd q.1 hp) id)),af hp];have ha:(decide (0<=x.n)&&decide (x.n<100000))=true:=by simp only[bn,decide_eq_true_eq];omega
 rw[ha,ag rfl,af (λg=>hp g.1),af (λg=>hp g.1)]
def KY (own:List bR):Prop:=∀n (h:n<own.length),own[n].id=⟨aZ,(n:Int)⟩
theorem DY {own:List bR}{x:bQ}(hp:x.p=aZ)(h0:0<=x.n)(h1:x.n<own.length):lM own x=own.getD x.n.toNat dK:=ag ⟨hp,h0,h1⟩
theorem Mf (c:dw)(own:List bR)(hl:own.length<=100000)(hid:KY own):xR c own=jA c own:=by
 have alE:∀x:bQ,nN x own (gK c 185)=pY x own.length (decide (x=c.file)||fk c.file (lM own x)):=λx=>by
  refine Hv hl λhp h0 h1=>?_;rw[DY hp h0 h1];have hlt:x.n.toNat<own.length:=oO
  have hq:=hid _ hlt;have hg:own.getD x.n.toNat dK=own[x.n.toNat]:=by simp[List.getD,hlt]
  rw[hg];show(decide (own[x.n.toNat].id=c.file)||_)=_;have hx:own[x.n.toNat].id=x:=by rw[hq];obtain⟨p,n⟩:=x;simp only at hp h0;subst hp;simp only[bQ.mk.injEq,true_and];omega
  rw[hx];rfl
 have Aa:(c.over.map λx=>((x,186):bQ×Nat)).map (λe=>nN e.1 own (gK c e.2))=c.over.map λx=>pY x own.length (dR c.kind c.file (lM own x)):=by rw[fP];refine en λx _=>?_;exact Hv hl λhp h0 h1=>by rw[DY hp h0 h1];rfl
 have abL:2<=c.kind/\c.kind<=6->nN c.file own (gK c (if c.kind<=3 then 181 else if c.kind=4 then 182 else 183))=pY c.file own.length (bg c.kind (lM own c.file)):=λhk=>by
  refine Hv hl λhp h0 h1=>?_;rw[DY hp h0 h1];generalize own.getD c.file.n.toNat dK=a;by_cases h3:c.kind<=3;rw[ag h3];have h4:c.kind≠4:=oO
  have ht:fC c.kind=false:=by simp only[fC,mO,decide_eq_false_iff_not];omega
  simp[gK,bg,ht,h4];rw[af h3];by_cases h4:c.kind=4;rw[ag h4];simp[gK,bg,fC,h4];rw[af h4];have ht:fC c.kind=true:=by simp only[fC,qn,decide_eq_true_eq];omega
  simp[gK,bg,ht]
 have hpar:nN c.parent own (gK c 184)=pY c.parent own.length (jg (lM own c.parent)):=Hv hl λhp h0 h1=>by rw[DY hp h0 h1];rfl
 unfold xR Me jA vr dI;by_cases h1:2<=c.kind/\c.kind<=6<;>by_cases h2:c.kind=2/\c.parent≠iS<;>by_cases h3:fC c.kind=true;all_goals first|rw[ag h1,ag h1]|rw[af h1,af h1]
 all_goals first|rw[ag h2,ag h2]|rw[af h2,af h2]
 all_goals first|rw[ag h3,ag h3,ag h3]|rw[af h3,af h3,af h3]
 all_goals simp only[aD,bB,fM,dM,cr,bq,Gq,Aa,hpar,alE,Md]
 all_goals try rw[abL h1]
 all_goals repeat (first|rfl|rw[Gq]|refine Rr ?_)
end Qv
