/- Part 31 of the proof: its lemmas. No condition. -/
import Derived.Test.YtlbofhenpfnenaaGreatDoorX16
set_option maxRecDepth 10000
set_option maxHeartbeats 80000000
set_option linter.all false
open Go Go.Proofs Go.RowKit
namespace Qv
def fnK (c:ew)(n:Nat):AV:=if n<254 then jP n else gx n c
def DW (c:ew)(e:bf×Nat):List AV:=cI e.1++[fnK c e.2]
def gK (c:ew)(n:Nat)(x:bw):Bool:=if n=250 then decide (x.kind=1)else if n=251 then decide (x.kind=1)&&(decide (x.type=2)||decide (x.type=3))else if n=252 then decide (x.kind=1)&&decide (x.type=1)else if n=253 then decide (x.kind=1)&&decide (x.type=4)else if n=254 then decide (x.id=c.file)||(decide (x.kind=5)&&decide (x.file=c.file))else fh c.kind c.file x
def nC (x:bf)(own:List bw)(g:bw->Bool):Int:=if x.n<0\/(x.p=bz/\(own.length:Int)<=x.n)\/100000<=x.n then 7 else if x.p=bz/\g (own.getD x.n.toNat hU)=false then 8 else 0
def LA (c:ew):List Int:=[if c.kind=2/\c.parent=c.file then 20 else 0,if gM c.kind=true/\c.dc=c.dy/\(c.kind=6\/c.dc≠c.file)then 1 else 0]
def LB (c:ew)(own:List bw)(L:List (bf×Nat)):Int:=ep ((L.map λe=>nC e.1 own (gK c e.2))++LA c)
theorem Kv (c:ew)(own:List bw)(L:List (bf×Nat))(hl:own.length<=2^40)(hL:L.length<=2^40)(hn:∀e,e∈L->e.2=250\/e.2=251\/e.2=252\/e.2=253\/e.2=254\/e.2=255)(hk:∀e,e∈L->e.2=255->c.kind=2\/c.kind=3\/c.kind=4\/c.kind=6\/c.kind=7)(aln:aj C 216 [.agg (cC c)] (λr=>r=.val (.sl (L.map (DW c))))):aj C 187 [.agg (cC c),.sl (fH own)] (λr=>r=.val (.int .i64 (LB c own L))):=by
 obtain⟨E,hE⟩:∃E,LB c own L=E:=⟨_,rfl⟩;rw[hE];have hE:E=LB c own L:=hE.symm;unfold LB at hE;have hal:(((fH own).length:Nat):Int)=(own.length:Int):=by simp[fH]
 refine dQ [13] Tryz.func187 rfl rfl rfl ?_;refine cl aln.cut ?_;refine bI 90 (λk:Nat=>[(1,.p (.sl (fH own))),(2,.ptr 2 0),(8,.p (.sl (L.map (DW c)))),(9,.p (.int .i64 ((L.map (DW c)).length:Int))),(10,.p (.int .i64 k))]) (λ_=>[(2,aF (cC c))]) (λk=>k<=L.length/\E=ep (((L.drop k).map λe=>nC e.1 own (gK c e.2))++LA c)) (λk=>L.length-k) 0 ⟨zL,hE⟩ rfl wS oS ?_;rintro k ⟨tW,hE⟩;refine bY (l:=L) (f:=DW c) (λhlt=>?_) (λhge=>?_)
 ·have hm:=aL hlt;have WR:=hn _ hm;have hk2:=hk _ hm;have jc:(L.map (DW c))[((k:Nat):Int).toNat]?=some (DW c L[k]):=cO rfl hlt;rw[oD hlt]at hE;clear hm;generalize L[k]=e at WR hk2 jc hE;obtain⟨x,n⟩:=e;simp only at WR hk2 hE;have next:nC x own (gK c n)=0->k+1<=L.length/\E=ep (((L.drop (k+1)).map λe=>nC e.1 own (gK c e.2))++LA c):=λh=>⟨hlt,by rw[eW h]at hE;exact hE⟩;have bad:∀z:Int,nC x own (gK c n)=z->z≠0->dh.val (.int .i64 z)=dh.val (.int .i64 E):=λz h h0=>by rw[eA (by rw[h];exact h0),h]at hE;rw[hE]
  clear hE;by_cases ho:x.p=bz
  ·rcases WR with rfl|rfl|rfl|rfl|rfl|rfl
   ·refine⟨oO,_,jc,rfl,?_⟩;refine az (λh=>?_) (λh0=>?_);exact bad 7 (af (.inl h)) dD;have h0:¬x.n<0:=h0;refine⟨none,?_⟩;refine cl (fC x).cut ?_;rw[av ho];refine az (λh=>?_) (λh1=>?_);have h:x.n≥(((fH own).length:Nat):Int):=h;exact bad 7 (af (.inr (.inl ⟨ho,oO⟩))) dD;have h1:¬x.n≥(((fH own).length:Nat):Int):=h1;refine az (λh=>?_) (λh2=>?_);exact bad 7 (af (.inr (.inr h))) dD;have h2:¬x.n≥100000:=h2;have hno:¬(x.n<0\/(x.p=bz/\(own.length:Int)<=x.n)\/100000<=x.n):=by rintro(g|g|g);omega;omega;omega
    refine cG 16 kK ?_;refine⟨_,(fC x).cut,?_⟩;rw[av ho];obtain⟨m,hm⟩:=ji (show 0<=x.n by omega);have Rc:m<own.length:=oO
    have hgd:own.getD x.n.toNat hU=own[m]:=by rw[hm];simp[List.getD,Rc]
    refine⟨oO,_,by rw[hm];exact cO rfl Rc,rfl,?_⟩;refine⟨_,(aeI own[m]).cut,?_⟩;refine bq ?_;have hv:nC x own (gK c 250)=if gK c 250 own[m]=false then 8 else 0:=by rw[nC,aa hno,hgd];by_cases hq:gK c 250 own[m]=false;rw[af ⟨ho,hq⟩,af hq];rw[aa (λg=>hq g.2),aa hq]
    cases hq:gK c 250 own[m]with
    |false=>rw[hq,af rfl]at hv;rw[show decide (own[m].kind=1)=false from hq];exact bad 8 hv dD
    |true=>rw[hq,aa dD]at hv;rw[show decide (own[m].kind=1)=true from hq];exact nx (k+1) (aU (k+1) (next hv) oO rfl wS oS)
   ·refine⟨oO,_,jc,rfl,?_⟩;refine az (λh=>?_) (λh0=>?_);exact bad 7 (af (.inl h)) dD;have h0:¬x.n<0:=h0;refine⟨none,?_⟩;refine cl (fC x).cut ?_;rw[av ho];refine az (λh=>?_) (λh1=>?_);have h:x.n≥(((fH own).length:Nat):Int):=h;exact bad 7 (af (.inr (.inl ⟨ho,oO⟩))) dD;have h1:¬x.n≥(((fH own).length:Nat):Int):=h1;refine az (λh=>?_) (λh2=>?_);exact bad 7 (af (.inr (.inr h))) dD;have h2:¬x.n≥100000:=h2;have hno:¬(x.n<0\/(x.p=bz/\(own.length:Int)<=x.n)\/100000<=x.n):=by rintro(g|g|g);omega;omega;omega
    refine cG 16 kK ?_;refine⟨_,(fC x).cut,?_⟩;rw[av ho];obtain⟨m,hm⟩:=ji (show 0<=x.n by omega);have Rc:m<own.length:=oO
    have hgd:own.getD x.n.toNat hU=own[m]:=by rw[hm];simp[List.getD,Rc]
    refine⟨oO,_,by rw[hm];exact cO rfl Rc,rfl,?_⟩;refine⟨_,(aeJ own[m]).cut,?_⟩;refine bq ?_;have hv:nC x own (gK c 251)=if gK c 251 own[m]=false then 8 else 0:=by rw[nC,aa hno,hgd];by_cases hq:gK c 251 own[m]=false;rw[af ⟨ho,hq⟩,af hq];rw[aa (λg=>hq g.2),aa hq]
    cases hq:gK c 251 own[m]with
    |false=>rw[hq,af rfl]at hv;rw[show(decide (own[m].kind=1)&&(decide (own[m].type=2)||decide (own[m].type=3)))=false from hq];exact bad 8 hv dD
    |true=>rw[hq,aa dD]at hv;rw[show(decide (own[m].kind=1)&&(decide (own[m].type=2)||decide (own[m].type=3)))=true from hq];exact nx (k+1) (aU (k+1) (next hv) oO rfl wS oS)
   ·refine⟨oO,_,jc,rfl,?_⟩;refine az (λh=>?_) (λh0=>?_);exact bad 7 (af (.inl h)) dD;have h0:¬x.n<0:=h0;refine⟨none,?_⟩;refine cl (fC x).cut ?_;rw[av ho];refine az (λh=>?_) (λh1=>?_);have h:x.n≥(((fH own).length:Nat):Int):=h;exact bad 7 (af (.inr (.inl ⟨ho,oO⟩))) dD;have h1:¬x.n≥(((fH own).length:Nat):Int):=h1;refine az (λh=>?_) (λh2=>?_);exact bad 7 (af (.inr (.inr h))) dD;have h2:¬x.n≥100000:=h2;have hno:¬(x.n<0\/(x.p=bz/\(own.length:Int)<=x.n)\/100000<=x.n):=by rintro(g|g|g);omega;omega;omega
    refine cG 16 kK ?_;refine⟨_,(fC x).cut,?_⟩;rw[av ho];obtain⟨m,hm⟩:=ji (show 0<=x.n by omega);have Rc:m<own.length:=oO
    have hgd:own.getD x.n.toNat hU=own[m]:=by rw[hm];simp[List.getD,Rc]
    refine⟨oO,_,by rw[hm];exact cO rfl Rc,rfl,?_⟩;refine⟨_,(aeK own[m]).cut,?_⟩;refine bq ?_;have hv:nC x own (gK c 252)=if gK c 252 own[m]=false then 8 else 0:=by rw[nC,aa hno,hgd];by_cases hq:gK c 252 own[m]=false;rw[af ⟨ho,hq⟩,af hq];rw[aa (λg=>hq g.2),aa hq]
    cases hq:gK c 252 own[m]with
    |false=>rw[hq,af rfl]at hv;rw[show(decide (own[m].kind=1)&&decide (own[m].type=1))=false from hq];exact bad 8 hv dD
    |true=>rw[hq,aa dD]at hv;rw[show(decide (own[m].kind=1)&&decide (own[m].type=1))=true from hq];exact nx (k+1) (aU (k+1) (next hv) oO rfl wS oS)
   ·refine⟨oO,_,jc,rfl,?_⟩;refine az (λh=>?_) (λh0=>?_);exact bad 7 (af (.inl h)) dD;have h0:¬x.n<0:=h0;refine⟨none,?_⟩;refine cl (fC x).cut ?_;rw[av ho];refine az (λh=>?_) (λh1=>?_);have h:x.n≥(((fH own).length:Nat):Int):=h;exact bad 7 (af (.inr (.inl ⟨ho,oO⟩))) dD;have h1:¬x.n≥(((fH own).length:Nat):Int):=h1;refine az (λh=>?_) (λh2=>?_);exact bad 7 (af (.inr (.inr h))) dD;have h2:¬x.n≥100000:=h2;have hno:¬(x.n<0\/(x.p=bz/\(own.length:Int)<=x.n)\/100000<=x.n):=by rintro(g|g|g);omega;omega;omega
    refine cG 16 kK ?_;refine⟨_,(fC x).cut,?_⟩;rw[av ho];obtain⟨m,hm⟩:=ji (show 0<=x.n by omega);have Rc:m<own.length:=oO
    have hgd:own.getD x.n.toNat hU=own[m]:=by rw[hm];simp[List.getD,Rc]
    refine⟨oO,_,by rw[hm];exact cO rfl Rc,rfl,?_⟩;refine⟨_,(aeL own[m]).cut,?_⟩;refine bq ?_;have hv:nC x own (gK c 253)=if gK c 253 own[m]=false then 8 else 0:=by rw[nC,aa hno,hgd];by_cases hq:gK c 253 own[m]=false;rw[af ⟨ho,hq⟩,af hq];rw[aa (λg=>hq g.2),aa hq]
    cases hq:gK c 253 own[m]with
    |false=>rw[hq,af rfl]at hv;rw[show(decide (own[m].kind=1)&&decide (own[m].type=4))=false from hq];exact bad 8 hv dD
    |true=>rw[hq,aa dD]at hv;rw[show(decide (own[m].kind=1)&&decide (own[m].type=4))=true from hq];exact nx (k+1) (aU (k+1) (next hv) oO rfl wS oS)
   ·refine⟨oO,_,jc,rfl,?_⟩;refine az (λh=>?_) (λh0=>?_);exact bad 7 (af (.inl h)) dD;have h0:¬x.n<0:=h0;refine⟨none,?_⟩;refine cl (fC x).cut ?_;rw[av ho];refine az (λh=>?_) (λh1=>?_);have h:x.n≥(((fH own).length:Nat):Int):=h;exact bad 7 (af (.inr (.inl ⟨ho,oO⟩))) dD;have h1:¬x.n≥(((fH own).length:Nat):Int):=h1;refine az (λh=>?_) (λh2=>?_);exact bad 7 (af (.inr (.inr h))) dD;have h2:¬x.n≥100000:=h2;have hno:¬(x.n<0\/(x.p=bz/\(own.length:Int)<=x.n)\/100000<=x.n):=by rintro(g|g|g);omega;omega;omega
    refine cG 16 kK ?_;refine⟨_,(fC x).cut,?_⟩;rw[av ho];obtain⟨m,hm⟩:=ji (show 0<=x.n by omega);have Rc:m<own.length:=oO
    have hgd:own.getD x.n.toNat hU=own[m]:=by rw[hm];simp[List.getD,Rc]
    refine⟨oO,_,by rw[hm];exact cO rfl Rc,rfl,?_⟩;refine⟨_,(aeM own[m] c).cut,?_⟩;refine bq ?_;have hv:nC x own (gK c 254)=if gK c 254 own[m]=false then 8 else 0:=by rw[nC,aa hno,hgd];by_cases hq:gK c 254 own[m]=false;rw[af ⟨ho,hq⟩,af hq];rw[aa (λg=>hq g.2),aa hq]
    cases hq:gK c 254 own[m]with
    |false=>rw[hq,af rfl]at hv;rw[show(decide (own[m].id=c.file)||(decide (own[m].kind=5)&&decide (own[m].file=c.file)))=false from hq];exact bad 8 hv dD
    |true=>rw[hq,aa dD]at hv;rw[show(decide (own[m].id=c.file)||(decide (own[m].kind=5)&&decide (own[m].file=c.file)))=true from hq];exact nx (k+1) (aU (k+1) (next hv) oO rfl wS oS)
   refine⟨oO,_,jc,rfl,?_⟩;refine az (λh=>?_) (λh0=>?_);exact bad 7 (af (.inl h)) dD;have h0:¬x.n<0:=h0;refine⟨none,?_⟩;refine cl (fC x).cut ?_;rw[av ho];refine az (λh=>?_) (λh1=>?_);have h:x.n≥(((fH own).length:Nat):Int):=h;exact bad 7 (af (.inr (.inl ⟨ho,oO⟩))) dD;have h1:¬x.n≥(((fH own).length:Nat):Int):=h1;refine az (λh=>?_) (λh2=>?_);exact bad 7 (af (.inr (.inr h))) dD;have h2:¬x.n≥100000:=h2;have hno:¬(x.n<0\/(x.p=bz/\(own.length:Int)<=x.n)\/100000<=x.n):=by rintro(g|g|g);omega;omega;omega
   refine cG 16 kK ?_;refine⟨_,(fC x).cut,?_⟩;rw[av ho];obtain⟨m,hm⟩:=ji (show 0<=x.n by omega);have Rc:m<own.length:=oO
   have hgd:own.getD x.n.toNat hU=own[m]:=by rw[hm];simp[List.getD,Rc]
   refine⟨oO,_,by rw[hm];exact cO rfl Rc,rfl,?_⟩;refine⟨_,(aeN own[m] c (hk2 rfl)).cut,?_⟩;refine bq ?_;have hv:nC x own (gK c 255)=if gK c 255 own[m]=false then 8 else 0:=by rw[nC,aa hno,hgd];by_cases hq:gK c 255 own[m]=false;rw[af ⟨ho,hq⟩,af hq];rw[aa (λg=>hq g.2),aa hq]
   cases hq:gK c 255 own[m]with
   |false=>rw[hq,af rfl]at hv;rw[show fh c.kind c.file own[m]=false from hq];exact bad 8 hv dD
   |true=>rw[hq,aa dD]at hv;rw[show fh c.kind c.file own[m]=true from hq];exact nx (k+1) (aU (k+1) (next hv) oO rfl wS oS)
  rcases WR with rfl|rfl|rfl|rfl|rfl|rfl
  ·refine⟨oO,_,jc,rfl,?_⟩;refine az (λh=>?_) (λh0=>?_);exact bad 7 (af (.inl h)) dD;have h0:¬x.n<0:=h0;refine⟨none,?_⟩;refine cl (fC x).cut ?_;rw[ak ho];refine az (λh=>?_) (λh2=>?_);exact bad 7 (af (.inr (.inr h))) dD;have h2:¬x.n≥100000:=h2;have hno:¬(x.n<0\/(x.p=bz/\(own.length:Int)<=x.n)\/100000<=x.n):=by rintro(g|g|g);omega;exact ho g.1;omega
   refine cG 16 kK ?_;refine⟨_,(fC x).cut,?_⟩;rw[ak ho];have hv:nC x own (gK c 250)=0:=by rw[nC,aa hno,aa (λg=>ho g.1)]
   exact nx (k+1) (aU (k+1) (next hv) oO rfl wS oS)
  ·refine⟨oO,_,jc,rfl,?_⟩;refine az (λh=>?_) (λh0=>?_);exact bad 7 (af (.inl h)) dD;have h0:¬x.n<0:=h0;refine⟨none,?_⟩;refine cl (fC x).cut ?_;rw[ak ho];refine az (λh=>?_) (λh2=>?_);exact bad 7 (af (.inr (.inr h))) dD;have h2:¬x.n≥100000:=h2;have hno:¬(x.n<0\/(x.p=bz/\(own.length:Int)<=x.n)\/100000<=x.n):=by rintro(g|g|g);omega;exact ho g.1;omega
   refine cG 16 kK ?_;refine⟨_,(fC x).cut,?_⟩;rw[ak ho];have hv:nC x own (gK c 251)=0:=by rw[nC,aa hno,aa (λg=>ho g.1)]
   exact nx (k+1) (aU (k+1) (next hv) oO rfl wS oS)
  ·refine⟨oO,_,jc,rfl,?_⟩;refine az (λh=>?_) (λh0=>?_);exact bad 7 (af (.inl h)) dD;have h0:¬x.n<0:=h0;refine⟨none,?_⟩;refine cl (fC x).cut ?_;rw[ak ho];refine az (λh=>?_) (λh2=>?_);exact bad 7 (af (.inr (.inr h))) dD;have h2:¬x.n≥100000:=h2;have hno:¬(x.n<0\/(x.p=bz/\(own.length:Int)<=x.n)\/100000<=x.n):=by rintro(g|g|g);omega;exact ho g.1;omega
   refine cG 16 kK ?_;refine⟨_,(fC x).cut,?_⟩;rw[ak ho];have hv:nC x own (gK c 252)=0:=by rw[nC,aa hno,aa (λg=>ho g.1)]
   exact nx (k+1) (aU (k+1) (next hv) oO rfl wS oS)
  ·refine⟨oO,_,jc,rfl,?_⟩;refine az (λh=>?_) (λh0=>?_);exact bad 7 (af (.inl h)) dD;have h0:¬x.n<0:=h0;refine⟨none,?_⟩;refine cl (fC x).cut ?_;rw[ak ho];refine az (λh=>?_) (λh2=>?_);exact bad 7 (af (.inr (.inr h))) dD;have h2:¬x.n≥100000:=h2;have hno:¬(x.n<0\/(x.p=bz/\(own.length:Int)<=x.n)\/100000<=x.n):=by rintro(g|g|g);omega;exact ho g.1;omega
   refine cG 16 kK ?_;refine⟨_,(fC x).cut,?_⟩;rw[ak ho];have hv:nC x own (gK c 253)=0:=by rw[nC,aa hno,aa (λg=>ho g.1)]
   exact nx (k+1) (aU (k+1) (next hv) oO rfl wS oS)
  ·refine⟨oO,_,jc,rfl,?_⟩;refine az (λh=>?_) (λh0=>?_);exact bad 7 (af (.inl h)) dD;have h0:¬x.n<0:=h0;refine⟨none,?_⟩;refine cl (fC x).cut ?_;rw[ak ho];refine az (λh=>?_) (λh2=>?_);exact bad 7 (af (.inr (.inr h))) dD;have h2:¬x.n≥100000:=h2;have hno:¬(x.n<0\/(x.p=bz/\(own.length:Int)<=x.n)\/100000<=x.n):=by rintro(g|g|g);omega;exact ho g.1;omega
   refine cG 16 kK ?_;refine⟨_,(fC x).cut,?_⟩;rw[ak ho];have hv:nC x own (gK c 254)=0:=by rw[nC,aa hno,aa (λg=>ho g.1)]
   exact nx (k+1) (aU (k+1) (next hv) oO rfl wS oS)
  refine⟨oO,_,jc,rfl,?_⟩;refine az (λh=>?_) (λh0=>?_);exact bad 7 (af (.inl h)) dD;have h0:¬x.n<0:=h0;refine⟨none,?_⟩;refine cl (fC x).cut ?_;rw[ak ho];refine az (λh=>?_) (λh2=>?_);exact bad 7 (af (.inr (.inr h))) dD;have h2:¬x.n≥100000:=h2;have hno:¬(x.n<0\/(x.p=bz/\(own.length:Int)<=x.n)\/100000<=x.n):=by rintro(g|g|g);omega;exact ho g.1;omega
  refine cG 16 kK ?_;refine⟨_,(fC x).cut,?_⟩;rw[ak ho];have hv:nC x own (gK c 255)=0:=by rw[nC,aa hno,aa (λg=>ho g.1)]
  exact nx (k+1) (aU (k+1) (next hv) oO rfl wS oS)
 obtain rfl:k=L.length:=oO
 rw[qj]at hE;have hE:E=ep (LA c):=hE;unfold LA at hE;refine⟨none,?_⟩;refine share (T:=?T1) (λH1=>?m1) ?r1;case m1=>refine aD (λh1=>?_) (λh1=>?_);have h1:c.kind=2:=h1;refine rB ?_;refine jK (a:=c.parent) (b:=c.file) ?_;by_cases h2:c.parent=c.file;rw[av h2];rw[qO ⟨h1,h2⟩,eA dD]at hE;rw[hE];exact rfl;rw[ak h2];rw[jO (λg=>h2 g.2)]at hE;refine dI 90 [(2,.ptr 2 0)] [(2,aF (cC c))] rfl wS oS ?_;revert hE;exact H1.out;have h1:¬c.kind=2:=h1;rw[jO (λg=>h1 g.1)]at hE;refine dI 90 [(2,.ptr 2 0)] [(2,aF (cC c))] rfl wS oS ?_;revert hE;exact H1.out
 case r1=>
  intro hE;have yes:(gM c.kind=true/\c.dc=c.dy/\(c.kind=6\/c.dc≠c.file))->dh.val (.int .i64 1)=dh.val (.int .i64 E):=λh=>by rw[qO h,eA dD]at hE;rw[hE]
  have no:¬(gM c.kind=true/\c.dc=c.dy/\(c.kind=6\/c.dc≠c.file))->dh.val (.int .i64 0)=dh.val (.int .i64 E):=λh=>by rw[jO h]at hE;rw[hE];rfl
  clear hE;refine⟨none,?_⟩;refine aD (λh6=>?_) (λh6=>?_);have h6:c.kind=6:=h6;refine rB ?_;refine jK (a:=c.dc) (b:=c.dy) ?_;by_cases h2:c.dc=c.dy;rw[av h2];exact yes ⟨by rw[h6];rfl,h2,.inl h6⟩;rw[ak h2];refine⟨none,?_⟩;refine aD (λh=>absurd (show c.kind=5 from h) oO) (λ_=>?_);exact no λg=>h2 g.2.1;have h6:¬c.kind=6:=h6;refine⟨none,?_⟩;refine aD (λh5=>?_) (λh5=>?_);have h5:c.kind=5:=h5;refine rB ?_;refine jK (a:=c.dc) (b:=c.dy) ?_;by_cases h2:c.dc=c.dy;rw[av h2];refine rB ?_;refine FE (a:=c.dc) (b:=c.file) ?_;by_cases h3:c.dc=c.file;rw[av h3];exact no λg=>g.2.2.elim h6 (λq=>q h3);rw[ak h3];exact yes ⟨by rw[h5];rfl,h2,.inr h3⟩;rw[ak h2];exact no λg=>h2 g.2.1;have h5:¬c.kind=5:=h5;refine no λg=>?_;have :=g.1;simp only[gM,pV,decide_eq_true_eq]at this;omega
def dz (c:ew):List (bf×Nat):=(if 2<=c.kind/\c.kind<=6 then[(c.file,if c.kind<=3 then 250 else if c.kind=4 then 251 else 252)]else[])++((if c.kind=2/\c.parent≠qD then[(c.parent,253)]else[])++((if gM c.kind=true then[(c.dc,254),(c.dy,254)]else[])++c.over.map λx=>(x,255)))
theorem TO (c:ew):(c.over.map λx=>((x,255):bf×Nat)).map (DW c)=(c.over.map λx=>((x,gx 255 c):ot)).map rc:=by rw[gY,gY];rfl
theorem xw (c:ew)(h1:1<=c.kind)(h7:c.kind<=7)(ho:c.over.length<=2^40):aj C 216 [.agg (cC c)] (λr=>r=.val (.sl ((dz c).map (DW c)))):=by
 have go:∀(L:List (bf×Nat))(M:List ot),dz c=L++c.over.map (λx=>(x,255))->L.map (DW c)=M.map rc->aj C 216 [.agg (cC c)] (λr=>r=.val (.sl (((M++c.over.map λx=>(x,gx 255 c)):List ot).map rc)))->aj C 216 [.agg (cC c)] (λr=>r=.val (.sl ((dz c).map (DW c)))):=λL M e1 e2 h=>by rw[e1,aN,TO,e2,<-aN];exact h
 unfold dz at go⊢;by_cases e1:c.kind=1;exact go [] [] (by simp[gM,e1]) rfl (aeO c e1 ho);by_cases e2:c.kind=2;by_cases hp:c.parent=qD;exact go [(c.file,250)] _ (by simp[gM,e2,hp]) rfl (Rb c e2 hp ho);exact go [(c.file,250),(c.parent,253)] _ (by simp[gM,e2,hp]) rfl (aeU c e2 hp ho);by_cases e3:c.kind=3;exact go [(c.file,250)] _ (by simp[gM,e3]) rfl (aeP c e3 ho);by_cases e4:c.kind=4;exact go [(c.file,251)] _ (by simp[gM,e4]) rfl (aeQ c e4 ho);by_cases e5:c.kind=5;exact go [(c.file,252),(c.dc,254),(c.dy,254)] _ (by simp[gM,e5]) rfl (aeR c e5 ho);by_cases e6:c.kind=6;exact go [(c.file,252),(c.dc,254),(c.dy,254)] _ (by simp[gM,e6]) rfl (aeS c e6 ho);have e7:c.kind=7:=oO
 exact go [] [] (by simp[gM,e7]) rfl (aeT c e7 ho)
theorem NW {α:Type}(p:Prop)[Decidable p](l:List α):(if p then l else[]).length<=l.length:=by split;exact ay _;exact zL
theorem XO (c:ew):(dz c).length<=4+c.over.length:=by unfold dz;simp only[au,ai];have a1:=NW (2<=c.kind/\c.kind<=6) [(c.file,if c.kind<=3 then 250 else if c.kind=4 then 251 else 252)];have a2:=NW (c.kind=2/\c.parent≠qD) [(c.parent,253)];have a3:=NW (gM c.kind=true) [(c.dc,254),(c.dy,254)];simp only[aI,bk]at a1 a2 a3;omega
def xx (c:ew)(own:List bw):Int:=LB c own (dz c)
theorem AY (c:ew)(own:List bw)(h1:1<=c.kind)(h7:c.kind<=7)(hl:own.length<=2^40)(ho:c.over.length<=400)(h15:c.kind=1\/c.kind=5->c.over=[]):aj C 187 [.agg (cC c),.sl (fH own)] (λr=>r=.val (.int .i64 (xx c own))):=by
 have hmem:∀e,e∈dz c->(e.2=250\/e.2=251\/e.2=252\/e.2=253\/e.2=254\/(e.2=255/\c.over≠[])):=by intro e he;unfold dz at he;simp only[aW,aA]at he;rcases he with he|he|he|⟨x,hx,rfl⟩;split at he;simp only[aO]at he;subst he;simp only;split;simp;split<;>simp;cases he;split at he;simp only[aO]at he;subst he;simp;cases he;split at he;simp only[aG,fQ,or_false]at he;rcases he with rfl|rfl<;>simp;cases he;refine .inr (.inr (.inr (.inr (.inr ⟨rfl,λg=>?_⟩))));rw[g]at hx;cases hx
 refine Kv c own (dz c) hl (by have :=XO c;omega) (λe he=>?_) (λe he h=>?_) (xw c h1 h7 oO);rcases hmem e he with h|h|h|h|h|h;exact .inl h;exact .inr (.inl h);exact .inr (.inr (.inl h));exact .inr (.inr (.inr (.inl h)));exact .inr (.inr (.inr (.inr (.inl h))));exact .inr (.inr (.inr (.inr (.inr h.1))));have EC:c.over≠[]:=by rcases hmem e he with g|g|g|g|g|g;omega;omega;omega;omega;omega;exact g.2
 have :¬(c.kind=1\/c.kind=5):=λg=>EC (h15 g);omega
theorem FP (l:List Int):ep (0::l)=ep l:=eW rfl
theorem Re {a:Int}{l l':List Int}(h:ep l=ep l'):ep (a::l)=ep (a::l'):=by rw[ep,ep,h]
theorem GH {x:bf}{own:List bw}{g:bw->Bool}{fits:Bool}(hl:own.length<=100000)(hg:x.p=bz->0<=x.n->x.n<own.length->g (own.getD x.n.toNat hU)=fits):nC x own g=rP x own.length fits:=by
 unfold nC rP tM;by_cases hp:x.p=bz;by_cases h0:x.n<0\/(own.length:Int)<=x.n\/100000<=x.n;rw[af (show x.n<0\/(x.p=bz/\(own.length:Int)<=x.n)\/100000<=x.n from h0.imp id λg=>g.imp (λq=>⟨hp,q⟩) id),af hp];have ha:(decide (0<=x.n)&&decide (x.n<(own.length:Int)))=false:=by simp only[Bool.and_eq_false_iff,decide_eq_false_iff_not];omega
 rw[ha];rfl;rw[aa (show¬(x.n<0\/(x.p=bz/\(own.length:Int)<=x.n)\/100000<=x.n)fromλh=>h0 (h.imp id λg=>g.imp (λq=>q.2) id)),af hp,hg hp oO oO];have ha:(decide (0<=x.n)&&decide (x.n<(own.length:Int)))=true:=by simp only[aY,decide_eq_true_eq];omega
 rw[ha,af rfl];by_cases h0:x.n<0\/100000<=x.n;rw[af (show x.n<0\/(x.p=bz/\(own.length:Int)<=x.n)\/100000<=x.n from h0.imp id .inr),aa hp];have ha:(decide (0<=x.n)&&decide (x.n<100000))=false:=by simp only[Bool.and_eq_false_iff,decide_eq_false_iff_not];omega
 rw[ha];rfl;rw[aa (show¬(x.n<0\/(x.p=bz/\(own.length:Int)<=x.n)\/100000<=x.n)fromλh=>h0 (h.imp id λg=>g.elim (λq=>absurd q.1 hp) id)),aa hp];have ha:(decide (0<=x.n)&&decide (x.n<100000))=true:=by simp only[aY,decide_eq_true_eq];omega
 rw[ha,af rfl,aa (λg=>hp g.1),aa (λg=>hp g.1)]
def NX (own:List bw):Prop:=∀n (h:n<own.length),own[n].id=⟨bz,(n:Int)⟩
theorem Dt {own:List bw}{x:bf}(hp:x.p=bz)(h0:0<=x.n)(h1:x.n<own.length):kH own x=own.getD x.n.toNat hU:=af ⟨hp,h0,h1⟩
theorem XP (c:ew)(own:List bw)(hl:own.length<=100000)(hid:NX own):xx c own=lp c own:=by
 have alp:∀x:bf,nC x own (gK c 254)=rP x own.length (decide (x=c.file)||kZ c.file (kH own x)):=λx=>by
  refine GH hl λhp h0 h1=>?_;rw[Dt hp h0 h1];have hlt:x.n.toNat<own.length:=oO
  have hq:=hid _ hlt;have hg:own.getD x.n.toNat hU=own[x.n.toNat]:=by simp[List.getD,hlt]
  rw[hg];show(decide (own[x.n.toNat].id=c.file)||_)=_;have hx:own[x.n.toNat].id=x:=by rw[hq];obtain⟨p,n⟩:=x;simp only at hp h0;subst hp;simp only[bf.mk.injEq,true_and];omega
  rw[hx];rfl
 have EC:(c.over.map λx=>((x,255):bf×Nat)).map (λe=>nC e.1 own (gK c e.2))=c.over.map λx=>rP x own.length (fh c.kind c.file (kH own x)):=by rw[gY];refine fR λx _=>?_;exact GH hl λhp h0 h1=>by rw[Dt hp h0 h1];rfl
 have abK:2<=c.kind/\c.kind<=6->nC c.file own (gK c (if c.kind<=3 then 250 else if c.kind=4 then 251 else 252))=rP c.file own.length (ej c.kind (kH own c.file)):=λhk=>by
  refine GH hl λhp h0 h1=>?_;rw[Dt hp h0 h1];generalize own.getD c.file.n.toNat hU=a;by_cases h3:c.kind<=3;rw[af h3];have h4:c.kind≠4:=oO
  have ht:gM c.kind=false:=by simp only[gM,jj,decide_eq_false_iff_not];omega
  simp[gK,ej,ht,h4];rw[aa h3];by_cases h4:c.kind=4;rw[af h4];simp[gK,ej,gM,h4];rw[aa h4];have ht:gM c.kind=true:=by simp only[gM,pV,decide_eq_true_eq];omega
  simp[gK,ej,ht]
 have hpar:nC c.parent own (gK c 253)=rP c.parent own.length (AH (kH own c.parent)):=GH hl λhp h0 h1=>by rw[Dt hp h0 h1];rfl
 unfold xx LB lp FL dz;by_cases h1:2<=c.kind/\c.kind<=6<;>by_cases h2:c.kind=2/\c.parent≠qD<;>by_cases h3:gM c.kind=true;all_goals first|rw[af h1,af h1]|rw[aa h1,aa h1]
 all_goals first|rw[af h2,af h2]|rw[aa h2,aa h2]
 all_goals first|rw[af h3,af h3,af h3]|rw[aa h3,aa h3,aa h3]
 all_goals simp only[aN,cE,iG,jU,dZ,br,FP,EC,hpar,alp,LA]
 all_goals try rw[abK h1]
 all_goals repeat (first|rfl|rw[FP]|refine Re ?_)
end Qv
