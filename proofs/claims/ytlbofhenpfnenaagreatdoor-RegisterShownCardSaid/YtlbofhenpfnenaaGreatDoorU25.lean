/- Part 25 of the proof: its lemmas. No condition. -/
import Derived.Test.YtlbofhenpfnenaaGreatDoorU24
import Derived.Lib.ItoaLen
set_option maxRecDepth 10000
set_option maxHeartbeats 80000000
set_option linter.all false
open Go Go.Proofs Go.RowKit
namespace Qv
inductive Sx where|atom (s:Bytes)|list (l:List Sx)
theorem Sx.ind {P:Sx->Prop}(h1:∀s,P (.atom s))(h2:∀l,(∀x,x∈l->P x)->P (.list l))(x:Sx):P x:=Sx.rec (motive_1:=P) (motive_2:=λl=>∀x,x∈l->P x) h1 (λl ih=>h2 l ih) (λx hx=>by cases hx) (λq l hq hl x hx=>by rcases aQ.1 hx with rfl|hx;exact hq;exact hl x hx) x
mutual def cX:Sx->List AV|.atom s=>[.bool false,.str s,.sl []]|.list l=>[.bool true,.str [],.sl (mE l)] def mE:List Sx->List (List AV)|[]=>[]|x::l=>cX x::mE l end
mutual def nX:Sx->Nat|.atom _=>1|.list l=>1+tD l def tD:List Sx->Nat|[]=>0|x::l=>nX x+tD l end
mutual def dX:Sx->Nat|.atom _=>1|.list l=>1+Wp l def Wp:List Sx->Nat|[]=>0|x::l=>max (dX x) (Wp l) end
mutual def aX:Sx->Nat|.atom s=>s.length|.list l=>aXs l def aXs:List Sx->Nat|[]=>0|x::l=>max (aX x) (aXs l) end
mutual def eX:Sx->Bytes|.atom s=>Lib.itoa (s.length:Int)++[58]++s|.list l=>[40]++KA l++[41] def KA:List Sx->Bytes|[]=>[]|x::l=>eX x++KA l end
theorem uX:∀l,mE l=l.map cX|[]=>rfl|x::l=>by show cX x::mE l=_;rw[uX l];rfl
theorem uY:∀l,tD l=(l.map nX).sum|[]=>rfl|x::l=>by show nX x+tD l=_;rw[uY l];simp
theorem wu:∀l,KA l=l.flatMap eX|[]=>rfl|x::l=>by show eX x++KA l=_;rw[wu l];simp
theorem Oc:∀{l:List Sx}{x:Sx},x∈l->dX x<=Wp l|y::l,x,h=>by show _<=max (dX y) (Wp l);rcases aQ.1 h with rfl|h;omega;have :=Oc h;omega
theorem HB:∀{l:List Sx}{x:Sx},x∈l->aX x<=aXs l|y::l,x,h=>by show _<=max (aX y) (aXs l);rcases aQ.1 h with rfl|h;omega;have :=HB h;omega
theorem ahf (x:Sx):1<=nX x:=by cases x<;>simp[nX]
theorem wv {l:List Sx}{k:Nat}(h:k<l.length):tD (l.take (k+1))=tD (l.take k)+nX l[k]:=by rw[uY,uY,<-dn h,aM,nW];simp
theorem nC (l:List Sx)(k:Nat):tD (l.take k)<=tD l:=by rw[uY,uY];exact Gv nX l k
theorem xQ:∀l,l.length<=tD l|[]=>ay _|x::l=>by have :=xQ l;have :=ahf x;show l.length+1<=nX x+tD l;omega
theorem Rs {l:List Sx}{k:Nat}(h:k<l.length):KA (l.take (k+1))=KA (l.take k)++eX l[k]:=by rw[wu,wu,<-dn h,oc];simp
theorem XY (l:List Sx)(k:Nat):KA l=KA (l.take k)++KA (l.drop k):=by rw[wu,wu,wu,<-oc,cT]
theorem Gw (l:List Sx)(k:Nat):(KA (l.take k)).length<=(KA l).length:=by rw[XY l k,aq];omega
theorem ahg (x:Sx):(cX x).length=3:=by cases x<;>rfl
theorem XZ {l:List Sx}{k:Nat}(h:k<l.length):(mE l)[((k:Nat):Int).toNat]?=some (cX l[k]):=by rw[uX,gR,aR,av h];rfl
theorem rP (l:List Sx):(mE l).length=l.length:=by rw[uX,aj]
theorem Fq {k:Nat}{l:List Sx}{K:Bool->Prop}(h1:k<l.length->K true)(h2:¬k<l.length->K false):Al λt:Bool=>t=decide ((k:Int)<((mE l).length:Int))->K t:=by rw[uX];exact bQ h1 h2
theorem abj (x:Sx):∀lim d:Nat,nX x<=lim->dX x<=d->lim<=2^20->d<=100->ak C 240 [.agg (cX x),.int .i64 (lim:Int),.int .i64 (d:Int)] (λr=>r=.val (.int .i64 (nX x:Int))):=by
 induction x using Sx.ind with
 |h1 s=>intro lim d h1 h2 h3 h4;have h1:1<=lim:=h1;have h2:1<=d:=h2;refine ag Tryz.func240 rfl rfl rfl ?_;refine⟨none,?_⟩;refine az (λh=>absurd h oO) (λ_=>az (λh=>absurd h oO) (λ_=>?_));refine bl ?_;exact rfl
 |h2 l ih=>
  intro lim d h1 h2 h3 h4;have h1:1+tD l<=lim:=h1;have h2:1+Wp l<=d:=h2;refine ag Tryz.func240 rfl rfl rfl ?_;refine⟨none,?_⟩;refine az (λh=>absurd h oO) (λ_=>az (λh=>absurd h oO) (λ_=>?_));refine bl ?_;have hlen:=xQ l;refine bu 47 (λk:Nat=>[(1,.p (.int .i64 (lim:Int))),(2,.p (.int .i64 (d:Int))),(3,.ptr 3 0),(7,.p (.int .i64 ((1+tD (l.take k):Nat):Int))),(8,.p (.int .i64 k))]) (λ_=>[(3,aH [.bool true,.str [],.sl (mE l)])]) (λk=>k<=l.length) (λk=>l.length-k) 0 (zL) rfl wS oS ?_;intro k hk;have ht:=nC l k;refine⟨none,?_⟩;refine Fq (λhlt=>?_) (λhge=>?_)
  ·refine az (λ_=>?_) (λh=>absurd (show((1+tD (l.take k):Nat):Int)<=(lim:Int)by omega) h);have ht2:=nC l (k+1);have hs:=wv hlt;have hm:=aK hlt;have hi:=ih l[k] hm (lim-(1+tD (l.take k))) (d-1) oO (by have :=Oc hm;omega) oO oO;have iX:=XZ hlt;generalize l[k]=y at hi iX hs;cases y;all_goals refine⟨oO,_,iX,rfl,?_⟩;refine⟨((lim-(1+tD (l.take k)):Nat):Int),by rw[wrap64 oO oO];omega,?_⟩;refine nx (d-1) ?_;refine cl hi ?_;refine⟨((1+tD (l.take (k+1)):Nat):Int),by rw[wrap64 oO oO];omega,?_⟩;exact nx (k+1) (aO (k+1) hlt oO rfl wS oS)
  have :k=l.length:=oO
  subst this;rw[aJ];exact rfl
theorem ahh (x:Sx):aX x<=65536->nX x<=2^20->ak C 241 [.agg (cX x)] (λr=>r=.val (.int .i64 0)):=by
 induction x using Sx.ind with
 |h1 s=>intro h1 _;have h1:s.length<=65536:=h1;refine ag Tryz.func241 rfl rfl rfl ?_;refine bl ?_;refine az (λh=>absurd h dD) (λ_=>?_);refine az (λh=>absurd h oO) (λ_=>?_);exact rfl
 |h2 l ih=>
  intro h1 h2;have h1:aXs l<=65536:=h1;have h2:1+tD l<=2^20:=h2;have hlen:=xQ l;refine ag Tryz.func241 rfl rfl rfl ?_;refine bl ?_;refine uo (λh=>absurd rfl h) (λ_=>?_);refine bu 35 (λk:Nat=>[(1,.ptr 1 0),(3,.p (.int .i64 k))]) (λ_=>[(1,aH [.bool true,.str [],.sl (mE l)])]) (λk=>k<=l.length) (λk=>l.length-k) 0 (zL) rfl wS oS ?_;intro k hk;refine Fq (λhlt=>?_) (λhge=>?_)
  ·have hm:=aK hlt;have hs:=wv hlt;have ht2:=nC l (k+1);have hi:=ih l[k] hm (by have :=HB hm;omega) oO;have iX:=XZ hlt;generalize l[k]=y at hi iX hs;cases y;all_goals refine⟨oO,_,iX,rfl,?_⟩;refine cl hi ?_;refine cF (λh=>absurd rfl h) (λ_=>?_);exact nx (k+1) (aO (k+1) hlt oO rfl wS oS)
  exact rfl
theorem Ya (x:Sx)(h1:nX x<=20000)(h2:dX x<=12)(h3:aX x<=65536):ak C 200 [.agg (cX x)] (λr=>r=.val (.int .i64 0)):=by have hc:=abj x 20000 12 h1 h2 dD dD;have hk:=ahh x h3 oO;cases x;all_goals refine ag Tryz.func200 rfl rfl rfl ?_;refine cl hc ?_;refine az (λh=>absurd h oO) (λ_=>?_);refine cl hk ?_;exact rfl
theorem abk (u:Nat)(h:u<10):Lib.itoa (u:Int)=[UInt8.ofNat (48+u)]:=by unfold Lib.itoa;rw[aa oO];show Lib.decDigits (Int.toNat (u:Int))=_;rw[gR,Lib.decDigits,dif_pos h]
theorem Yb (u:Nat)(h:¬u<10):Lib.itoa (u:Int)=Lib.itoa ((u/10:Nat):Int)++[UInt8.ofNat (48+u%10)]:=by
 unfold Lib.itoa;rw[aa oO,aa oO];show Lib.decDigits (Int.toNat (u:Int))=Lib.decDigits (Int.toNat ((u/10:Nat):Int))++_;rw[gR,gR];conv=>lhs;rw[Lib.decDigits]
 rw[dif_neg h]
theorem BT (u:Nat)(hu:u<=2^60):ak C 242 [.int .i64 (u:Int)] (λr=>r=.val (.str (Lib.itoa u))):=by
 induction u using Nat.strongRecOn with
 |_ u ih=>
  have dig:∀d:Nat,d<10->((48+d:Nat):Int)=((UInt8.ofNat (48+d)).toNat:Int):=λd hd=>by simp;omega
  refine ag Tryz.func242 rfl rfl rfl ?_;refine az (λh=>absurd h oO) (λ_=>?_);refine az (λh=>?_) (λh=>?_);have hu:u<10:=oO
  refine⟨_,(show IntKind.i64.wrap (48+(u:Int))=((48+u:Nat):Int)from by rw[wrap64 oO oO];omega),?_⟩;refine⟨((48+u:Nat):Int),aaD oO oO,?_⟩;refine⟨[UInt8.ofNat (48+u)],(by show[[AV.int .u8 ((48+u:Nat):Int)]]=[[AV.int .u8 ((UInt8.ofNat (48+u)).toNat:Int)]];rw[dig u hu]),?_⟩;show cQ.val _=_;rw[abk u hu];have hu':¬u<10:=oO
  have l1:=Lib.itoa_length_le ((u/10:Nat):Int) oO oO;refine cm 11 kK ?_;refine⟨dD,((u/10:Nat):Int),(by rw[show((u:Int).tdiv 10)=((u/10:Nat):Int)from rfl];exact wrap64 oO oO),?_⟩;refine⟨_,ih (u/10) oO oO,?_⟩;refine⟨dD,((u%10:Nat):Int),rfl,?_⟩;refine⟨_,(show IntKind.i64.wrap (48+((u%10:Nat):Int))=((48+u%10:Nat):Int)from by rw[wrap64 oO oO];omega),?_⟩;refine⟨.p (.int .u8 ((48+u%10:Nat):Int)),⟨_,aaD oO oO,rfl⟩,?_⟩;refine⟨_,rfl,?_⟩;refine⟨.p (.str [UInt8.ofNat (48+u%10)]),⟨[UInt8.ofNat (48+u%10)],(by show[[AV.int .u8 ((48+u%10:Nat):Int)]]=[[AV.int .u8 ((UInt8.ofNat (48+u%10)).toNat:Int)]];rw[dig _ oO]),rfl⟩,?_⟩;refine⟨by simp only[aq,fP];omega,?_⟩;show cQ.val _=_;rw[Yb u hu']
theorem itoa_neg (n:Int)(h:n<0):Lib.itoa n=[45]++Lib.itoa (-n):=by unfold Lib.itoa;rw[af h,aa oO,show n.natAbs=(-n).toNat from oO];rfl
theorem aeG (n:Int)(h0:-2^60<=n)(h1:n<=2^60):ak C 242 [.int .i64 n] (λr=>r=.val (.str (Lib.itoa n))):=by by_cases h:n<0;obtain⟨u,hu⟩:=gu (show 0<=-n by omega);refine ag Tryz.func242 rfl rfl rfl ?_;refine az (λ_=>?_) (λh2=>absurd h h2);refine az (λh2=>absurd h2 oO) (λ_=>?_);refine⟨(u:Int),by rw[wrap64 oO oO];omega,?_⟩;have l1:=Lib.itoa_length_le (u:Int) oO oO;refine cl (BT u oO) ?_;refine⟨by simp only[aL,br];omega,?_⟩;rw[itoa_neg n h,hu];exact rfl;obtain⟨u,rfl⟩:=gu (show 0<=n by omega);exact BT u oO
theorem TW (x:Sx):(eX x).length<=2^40->nX x<=2^20->ak C 201 [.agg (cX x)] (λr=>r=.val (.str (eX x))):=by
 induction x using Sx.ind with
 |h1 s=>intro h1 _;have h1:(Lib.itoa (s.length:Int)++[58]++s).length<=2^40:=h1;simp only[aq,aL,br]at h1;refine ag Tryz.func201 rfl rfl rfl ?_;refine bl ?_;refine cm 9 kK ?_;refine⟨_,BT s.length oO,?_⟩;refine⟨by simp only[aL,br];omega,?_⟩;refine⟨by simp only[aq,aL,br];omega,?_⟩;exact rfl
 |h2 l ih=>
  intro h1 h2;have h1:([40]++KA l++[41]).length<=2^40:=h1;have h2:1+tD l<=2^20:=h2;simp only[aq,aL,br]at h1;have hlen:=xQ l;refine ag Tryz.func201 rfl rfl rfl ?_;refine bl ?_;refine bu 33 (λk:Nat=>[(1,.ptr 1 0),(3,.p (.str ([40]++KA (l.take k)))),(4,.p (.int .i64 k))]) (λ_=>[(1,aH [.bool true,.str [],.sl (mE l)])]) (λk=>k<=l.length) (λk=>l.length-k) 0 (zL) rfl wS oS ?_;intro k hk;refine Fq (λhlt=>?_) (λhge=>?_)
  ·have hm:=aK hlt;have hs:=wv hlt;have he:=Rs hlt;have hel:=aB List.length he;rw[aq]at hel;have ht2:=nC l (k+1);have hb:=Gw l (k+1);have hi:=ih l[k] hm oO oO;have iX:=XZ hlt;generalize l[k]=y at hi iX hs he hel;cases y;all_goals refine⟨oO,_,iX,rfl,?_⟩;refine cl hi ?_;refine⟨by simp only[aq,aL,br];omega,?_⟩;exact nx (k+1) (aO (k+1) hlt oO rfl ⟨aF.refl _,aF.eq (by rw[he,<-bf];rfl),aF.refl _,trivial⟩ oS)
  have :k=l.length:=oO
  subst this;rw[aJ];refine⟨by simp only[aq,aL,br];omega,?_⟩;exact rfl
structure OkX (x:Sx):Prop where
 nodes:nX x<=20000
 depth:dX x<=12
 atoms:aX x<=65536
 len:(eX x).length<=2^40
theorem TX (x:Sx)(h:OkX x):ak C 159 [.agg (cX x)] (λr=>r=.val (.eV [.str (eX x),.int .i64 0])):=by have hc:=Ya x h.nodes h.depth h.atoms;have hk:=TW x h.len (by have :=h.nodes;omega);clear h;cases x;all_goals refine ag Tryz.func159 rfl rfl rfl ?_;refine cl hc ?_;refine cF (λh=>absurd rfl h) (λ_=>?_);refine cl hk ?_;exact rfl
def alw (n:Int):Sx:=.atom (Lib.itoa n)
theorem aeH (n:Int)(h0:-1099511627776<=n)(h1:n<=1099511627776):ak C 202 [.int .i64 n] (λr=>r=.val (.eV [.agg (cX (alw n)),.int .i64 0])):=by refine ag Tryz.func202 rfl rfl rfl ?_;refine⟨none,?_⟩;refine az (λh=>absurd h oO) (λ_=>az (λh=>absurd h oO) (λ_=>?_));refine cl (aeG n oO oO) ?_;exact rfl
def Rt (n:Int):Bytes:=if-1099511627776<=n/\n<=1099511627776 then Lib.itoa n else[]
def dgB (d:Dg):Bytes:=if d=bF then[]else d.1
abbrev zX:List FV:=[.p (.bool false),.p (.str []),.full []]
def cG (n:Int):Sx:=.atom (Rt n)
def nj (d:Dg):Sx:=.atom (dgB d)
def bR (x:bg):Sx:=.list [nj x.p,cG x.n]
def si (l:List bg):Sx:=.list (l.map bR)
def SU (l:List Bytes):Sx:=.list (l.map Sx.atom)
theorem sj (s:Bytes):ak C 161 [.str s] (λr=>r=.val (.agg (cX (.atom s)))):=by refine ag Tryz.func161 rfl rfl rfl ?_;exact rfl
theorem lH (l:List Sx):ak C 160 [.sl (mE l)] (λr=>r=.val (.agg (cX (.list l)))):=by refine ag Tryz.func160 rfl rfl rfl ?_;exact rfl
theorem Yc (n:Int)(h:¬(-1099511627776<=n/\n<=1099511627776)):ak C 202 [.int .i64 n] (λr=>r=.val (.eV [.agg (cX (.atom [])),.int .i64 2])):=by refine ag Tryz.func202 rfl rfl rfl ?_;refine⟨none,?_⟩;refine az (λ_=>?_) (λh1=>az (λ_=>?_) (λh2=>absurd (show-1099511627776<=n/\n<=1099511627776 by omega) h));exact rfl;exact rfl
theorem qn (n:Int):ak C 162 [.int .i64 n] (λr=>r=.val (.agg (cX (cG n)))):=by by_cases h:-1099511627776<=n/\n<=1099511627776;have e:Rt n=Lib.itoa n:=af h;unfold cG;rw[e];refine ag Tryz.func162 rfl rfl rfl ?_;refine cl (aeH n h.1 h.2) ?_;exact rfl;have e:Rt n=[]:=aa h;unfold cG;rw[e];refine ag Tryz.func162 rfl rfl rfl ?_;refine cl (Yc n h) ?_;exact rfl
theorem Yd (d:Dg):ak C 197 [.agg (cD d)] (λr=>r=.val (.str d.1)):=by refine bn {opens:=[],BB:=[],full:=false,fzo:=[1]} [] Tryz.func197 rfl rfl rfl ?_;refine⟨[1],cu (cells:=aH (cD d)) (ys:=cD d) rfl (bk _) rfl ?_⟩;refine⟨dD,dD,rfl,(by show 32<=32;decide),_,TP d,?_⟩;refine⟨d.1,rfl,?_⟩;exact rfl
theorem Wq (d:Dg):ak C 157 [.agg (cD d)] (λr=>r=.val (.agg (cX (nj d)))):=by refine ag Tryz.func157 rfl rfl rfl ?_;refine cl (xL d) ?_;unfold nj;by_cases h:d=bF;have e:dgB d=[]:=af h;rw[an h,e];refine cl (sj []) ?_;exact rfl;have e:dgB d=d.1:=aa h;rw[ah h,e];refine cl (Yd d) ?_;refine cl (sj d.1) ?_;exact rfl
theorem qp (x:bg):ak C 198 [.agg (cI x)] (λr=>r=.val (.agg (cX (bR x)))):=by refine ag Tryz.func198 rfl rfl rfl ?_;refine cm 5 kK ?_;refine⟨_,Wq x.p,?_⟩;refine cl (qn x.n) ?_;refine cl (lH [nj x.p,cG x.n]) ?_;exact rfl
theorem cq {α β:Type}{f:α->β}{l:List α}{k:Nat}(h:k<l.length):(l.take (k+1)).map f=(l.take k).map f++[f l[k]]:=by rw[<-dn h,aM];rfl
theorem gv (l:List Sx):∀zs,zs∈mE l->zs.length=3:=by intro zs h;rw[uX]at h;obtain⟨x,-,rfl⟩:=aI.1 h;exact ahg x
theorem uZ (a b:List Sx):mE a++mE b=mE (a++b):=by rw[uX,uX,uX,aM]
theorem zV (l:List bg)(hl:l.length<=2^40):ak C 199 [.sl (iq l)] (λr=>r=.val (.agg (cX (si l)))):=by
 unfold iq;refine ag Tryz.func199 rfl rfl rfl ?_;refine bu 22 (λk:Nat=>[(0,.p (.sl (l.map cI))),(2,.ptr 2 0),(3,.eH 5 192 3 (mE ((l.take k).map bR))),(4,.p (.int .i64 k))]) (λ_=>[(2,zX)]) (λk=>k<=l.length) (λk=>l.length-k) 0 (zL) rfl wS oS ?_;intro k hk;refine bQ (λhlt=>?_) (λhge=>?_);refine ix hlt ?_;refine cl (qp l[k]) ?_;refine⟨gv _,gv [bR l[k]],by show((mE ((l.take k).map bR)).length+1)*48<=_;rw[rP,aj,aD];omega,mE ((l.take (k+1)).map bR),by rw[cq hlt,<-uZ];rfl,?_⟩;exact nx (k+1) (aO (k+1) hlt oO rfl wS oS);obtain rfl:k=l.length:=oO
 rw[aJ];refine cl (lH (l.map bR)) ?_;exact rfl
def qF (c:eG):List Sx:=[cG c.kind]++((if c.kind=1 then[]else if c.kind=7 then[]else[bR c.file])++((if c.kind=1 then[cG c.type]else if c.kind=2 then[bR c.parent,.atom c.name]else if c.kind=3 then[cG c.mode]else if c.kind=4 then[.atom c.data]else if c.kind=5\/c.kind=6 then[bR c.dm,bR c.dG]else[])++(if c.kind=5 then[SU c.lines]else if c.kind=1 then[]else[si c.over])))
def mK (c:eG):Sx:=.list (qF c)
theorem bX (a b:List Sx)(ha:a.length<=100)(hb:b.length<=100):((mE a).length+(mE b).length)*48<=140737488355328:=by rw[rP,rP];omega
theorem aeI (c:eG)(hk:c.kind=1)(ho:c.over.length<=2^40):ak C 158 [.agg (cC c)] (λr=>r=.val (.agg (cX (mK c)))):=by
 cases c with
 |mk kind file type parent name mode data dm dG lines over=>simp only at hk ho;subst hk;refine ag Tryz.func158 rfl rfl rfl ?_;refine cl (qn 1) ?_;refine⟨none,?_⟩;refine az (λh=>absurd (show(1:Int)≥2 from h) dD) (λ_=>?_);refine aA (λ_=>?_) (λh=>absurd (show(1:Int)=1 by decide) h);refine cl (qn type) ?_;refine⟨gv [cG 1],gv [cG type],bX [cG 1] [cG type] (by simp) (by simp),mE [cG 1,cG type],rfl,?_⟩;refine aA (λh=>absurd (show(1:Int)=5 from h) dD) (λ_=>?_);refine cF (λh=>absurd rfl h) (λ_=>?_);refine cl (lH [cG 1,cG type]) ?_;exact rfl
theorem aeJ (c:eG)(hk:c.kind=2)(ho:c.over.length<=2^40):ak C 158 [.agg (cC c)] (λr=>r=.val (.agg (cX (mK c)))):=by
 cases c with
 |mk kind file type parent name mode data dm dG lines over=>simp only at hk ho;subst hk;refine ag Tryz.func158 rfl rfl rfl ?_;refine cl (qn 2) ?_;refine⟨none,?_⟩;refine az (λ_=>?_) (λh=>absurd (show(2:Int)≥2 by decide) h);refine az (λ_=>?_) (λh=>absurd (show(2:Int)<=6 by decide) h);refine cl (qp file) ?_;refine⟨gv [cG 2],gv [bR file],bX [cG 2] [bR file] (by simp) (by simp),mE [cG 2,bR file],rfl,?_⟩;refine aA (λh=>absurd (show(2:Int)=1 from h) dD) (λ_=>?_);refine aA (λ_=>?_) (λh=>absurd (show(2:Int)=2 by decide) h);refine cm 8 kK ?_;refine⟨_,qp parent,?_⟩;refine⟨_,sj name,?_⟩;refine⟨_,rfl,?_⟩;refine⟨gv [cG 2,bR file],gv [bR parent,.atom name],bX [cG 2,bR file] [bR parent,.atom name] (by simp) (by simp),mE [cG 2,bR file,bR parent,.atom name],rfl,?_⟩;refine aA (λh=>absurd (show(2:Int)=5 from h) dD) (λ_=>?_);refine cF (λ_=>?_) (λh=>absurd (show(2:Int)=1 from h) dD);refine cl (zV over ho) ?_;refine⟨gv [cG 2,bR file,bR parent,.atom name],gv [si over],bX [cG 2,bR file,bR parent,.atom name] [si over] (by simp) (by simp),mE [cG 2,bR file,bR parent,.atom name,si over],rfl,?_⟩;refine cl (lH [cG 2,bR file,bR parent,.atom name,si over]) ?_;exact rfl
theorem aeK (c:eG)(hk:c.kind=3)(ho:c.over.length<=2^40):ak C 158 [.agg (cC c)] (λr=>r=.val (.agg (cX (mK c)))):=by
 cases c with
 |mk kind file type parent name mode data dm dG lines over=>simp only at hk ho;subst hk;refine ag Tryz.func158 rfl rfl rfl ?_;refine cl (qn 3) ?_;refine⟨none,?_⟩;refine az (λ_=>?_) (λh=>absurd (show(3:Int)≥2 by decide) h);refine az (λ_=>?_) (λh=>absurd (show(3:Int)<=6 by decide) h);refine cl (qp file) ?_;refine⟨gv [cG 3],gv [bR file],bX [cG 3] [bR file] (by simp) (by simp),mE [cG 3,bR file],rfl,?_⟩;refine aA (λh=>absurd (show(3:Int)=1 from h) dD) (λ_=>?_);refine aA (λh=>absurd (show(3:Int)=2 from h) dD) (λ_=>?_);refine aA (λ_=>?_) (λh=>absurd (show(3:Int)=3 by decide) h);refine cl (qn mode) ?_;refine⟨gv [cG 3,bR file],gv [cG mode],bX [cG 3,bR file] [cG mode] (by simp) (by simp),mE [cG 3,bR file,cG mode],rfl,?_⟩;refine aA (λh=>absurd (show(3:Int)=5 from h) dD) (λ_=>?_);refine cF (λ_=>?_) (λh=>absurd (show(3:Int)=1 from h) dD);refine cl (zV over ho) ?_;refine⟨gv [cG 3,bR file,cG mode],gv [si over],bX [cG 3,bR file,cG mode] [si over] (by simp) (by simp),mE [cG 3,bR file,cG mode,si over],rfl,?_⟩;refine cl (lH [cG 3,bR file,cG mode,si over]) ?_;exact rfl
theorem aeL (c:eG)(hk:c.kind=4)(ho:c.over.length<=2^40):ak C 158 [.agg (cC c)] (λr=>r=.val (.agg (cX (mK c)))):=by
 cases c with
 |mk kind file type parent name mode data dm dG lines over=>simp only at hk ho;subst hk;refine ag Tryz.func158 rfl rfl rfl ?_;refine cl (qn 4) ?_;refine⟨none,?_⟩;refine az (λ_=>?_) (λh=>absurd (show(4:Int)≥2 by decide) h);refine az (λ_=>?_) (λh=>absurd (show(4:Int)<=6 by decide) h);refine cl (qp file) ?_;refine⟨gv [cG 4],gv [bR file],bX [cG 4] [bR file] (by simp) (by simp),mE [cG 4,bR file],rfl,?_⟩;refine aA (λh=>absurd (show(4:Int)=1 from h) dD) (λ_=>?_);refine aA (λh=>absurd (show(4:Int)=2 from h) dD) (λ_=>?_);refine aA (λh=>absurd (show(4:Int)=3 from h) dD) (λ_=>?_);refine aA (λ_=>?_) (λh=>absurd (show(4:Int)=4 by decide) h);refine cl (sj data) ?_;refine⟨gv [cG 4,bR file],gv [.atom data],bX [cG 4,bR file] [.atom data] (by simp) (by simp),mE [cG 4,bR file,.atom data],rfl,?_⟩;refine aA (λh=>absurd (show(4:Int)=5 from h) dD) (λ_=>?_);refine cF (λ_=>?_) (λh=>absurd (show(4:Int)=1 from h) dD);refine cl (zV over ho) ?_;refine⟨gv [cG 4,bR file,.atom data],gv [si over],bX [cG 4,bR file,.atom data] [si over] (by simp) (by simp),mE [cG 4,bR file,.atom data,si over],rfl,?_⟩;refine cl (lH [cG 4,bR file,.atom data,si over]) ?_;exact rfl
theorem aeM (c:eG)(hk:c.kind=5)(ho:c.lines.length<=2^40):ak C 158 [.agg (cC c)] (λr=>r=.val (.agg (cX (mK c)))):=by
 cases c with
 |mk kind file type parent name mode data dm dG lines over=>
  simp only at hk ho;subst hk;refine ag Tryz.func158 rfl rfl rfl ?_;refine cl (qn 5) ?_;refine⟨none,?_⟩;refine az (λ_=>?_) (λh=>absurd (show(5:Int)≥2 by decide) h);refine az (λ_=>?_) (λh=>absurd (show(5:Int)<=6 by decide) h);refine cl (qp file) ?_;refine⟨gv [cG 5],gv [bR file],bX [cG 5] [bR file] (by simp) (by simp),mE [cG 5,bR file],rfl,?_⟩;refine aA (λh=>absurd (show(5:Int)=1 from h) dD) (λ_=>?_);refine aA (λh=>absurd (show(5:Int)=2 from h) dD) (λ_=>?_);refine aA (λh=>absurd (show(5:Int)=3 from h) dD) (λ_=>?_);refine aA (λh=>absurd (show(5:Int)=4 from h) dD) (λ_=>?_);refine aA (λ_=>?_) (λh=>absurd (show(5:Int)=5 by decide) h);refine cm 8 kK ?_;refine⟨_,qp dm,?_⟩;refine⟨_,qp dG,?_⟩;refine⟨_,rfl,?_⟩;refine⟨gv [cG 5,bR file],gv [bR dm,bR dG],bX [cG 5,bR file] [bR dm,bR dG] (by simp) (by simp),mE [cG 5,bR file,bR dm,bR dG],rfl,?_⟩;refine aA (λ_=>?_) (λh=>absurd (show(5:Int)=5 by decide) h);refine bu 109 (λk:Nat=>[(1,.ptr 1 0),(2,.ptr 2 0),(3,.eH 9 192 3 (mE [cG 5,bR file,bR dm,bR dG])),(4,.eH 76 192 3 (mE ((lines.take k).map Sx.atom))),(5,.p (.int .i64 k))]) (λ_=>[(1,aH (cC ⟨5,file,type,parent,name,mode,data,dm,dG,lines,over⟩)),(2,zX)]) (λk=>k<=lines.length) (λk=>lines.length-k) 0 (zL) rfl wS oS ?_;intro k hk;refine bQ (l:=lines) (f:=oA) (λhlt=>?_) (λhge=>?_);refine ix hlt ?_;refine cl (sj lines[k]) ?_;refine⟨gv _,gv [.atom lines[k]],by show((mE ((lines.take k).map Sx.atom)).length+1)*48<=_;rw[rP,aj,aD];omega,mE ((lines.take (k+1)).map Sx.atom),by rw[cq hlt,<-uZ];rfl,?_⟩;exact nx (k+1) (aO (k+1) hlt oO rfl wS oS);obtain rfl:k=lines.length:=oO
  rw[aJ];refine cl (lH (lines.map Sx.atom)) ?_;refine⟨gv [cG 5,bR file,bR dm,bR dG],gv [SU lines],bX [cG 5,bR file,bR dm,bR dG] [SU lines] (by simp) (by simp),mE [cG 5,bR file,bR dm,bR dG,SU lines],rfl,?_⟩;refine cl (lH [cG 5,bR file,bR dm,bR dG,SU lines]) ?_;exact rfl
theorem aeN (c:eG)(hk:c.kind=6)(ho:c.over.length<=2^40):ak C 158 [.agg (cC c)] (λr=>r=.val (.agg (cX (mK c)))):=by
 cases c with
 |mk kind file type parent name mode data dm dG lines over=>simp only at hk ho;subst hk;refine ag Tryz.func158 rfl rfl rfl ?_;refine cl (qn 6) ?_;refine⟨none,?_⟩;refine az (λ_=>?_) (λh=>absurd (show(6:Int)≥2 by decide) h);refine az (λ_=>?_) (λh=>absurd (show(6:Int)<=6 by decide) h);refine cl (qp file) ?_;refine⟨gv [cG 6],gv [bR file],bX [cG 6] [bR file] (by simp) (by simp),mE [cG 6,bR file],rfl,?_⟩;refine aA (λh=>absurd (show(6:Int)=1 from h) dD) (λ_=>?_);refine aA (λh=>absurd (show(6:Int)=2 from h) dD) (λ_=>?_);refine aA (λh=>absurd (show(6:Int)=3 from h) dD) (λ_=>?_);refine aA (λh=>absurd (show(6:Int)=4 from h) dD) (λ_=>?_);refine aA (λh=>absurd (show(6:Int)=5 from h) dD) (λ_=>?_);refine aA (λ_=>?_) (λh=>absurd (show(6:Int)=6 by decide) h);refine cm 8 kK ?_;refine⟨_,qp dm,?_⟩;refine⟨_,qp dG,?_⟩;refine⟨_,rfl,?_⟩;refine⟨gv [cG 6,bR file],gv [bR dm,bR dG],bX [cG 6,bR file] [bR dm,bR dG] (by simp) (by simp),mE [cG 6,bR file,bR dm,bR dG],rfl,?_⟩;refine aA (λh=>absurd (show(6:Int)=5 from h) dD) (λ_=>?_);refine cF (λ_=>?_) (λh=>absurd (show(6:Int)=1 from h) dD);refine cl (zV over ho) ?_;refine⟨gv [cG 6,bR file,bR dm,bR dG],gv [si over],bX [cG 6,bR file,bR dm,bR dG] [si over] (by simp) (by simp),mE [cG 6,bR file,bR dm,bR dG,si over],rfl,?_⟩;refine cl (lH [cG 6,bR file,bR dm,bR dG,si over]) ?_;exact rfl
theorem aeO (c:eG)(hk:c.kind=7)(ho:c.over.length<=2^40):ak C 158 [.agg (cC c)] (λr=>r=.val (.agg (cX (mK c)))):=by
 cases c with
 |mk kind file type parent name mode data dm dG lines over=>simp only at hk ho;subst hk;refine ag Tryz.func158 rfl rfl rfl ?_;refine cl (qn 7) ?_;refine⟨none,?_⟩;refine az (λ_=>?_) (λh=>absurd (show(7:Int)≥2 by decide) h);refine az (λh=>absurd (show(7:Int)<=6 from h) dD) (λ_=>?_);refine aA (λh=>absurd (show(7:Int)=1 from h) dD) (λ_=>?_);refine aA (λh=>absurd (show(7:Int)=2 from h) dD) (λ_=>?_);refine aA (λh=>absurd (show(7:Int)=3 from h) dD) (λ_=>?_);refine aA (λh=>absurd (show(7:Int)=4 from h) dD) (λ_=>?_);refine aA (λh=>absurd (show(7:Int)=5 from h) dD) (λ_=>?_);refine aA (λh=>absurd (show(7:Int)=6 from h) dD) (λ_=>?_);refine aA (λh=>absurd (show(7:Int)=5 from h) dD) (λ_=>?_);refine cF (λ_=>?_) (λh=>absurd (show(7:Int)=1 from h) dD);refine cl (zV over ho) ?_;refine⟨gv [cG 7],gv [si over],bX [cG 7] [si over] (by simp) (by simp),mE [cG 7,si over],rfl,?_⟩;refine cl (lH [cG 7,si over]) ?_;exact rfl
theorem aeP (c:eG)(h1:1<=c.kind)(h7:c.kind<=7)(hl:c.lines.length<=2^40)(ho:c.over.length<=2^40):ak C 158 [.agg (cC c)] (λr=>r=.val (.agg (cX (mK c)))):=by by_cases e1:c.kind=1;exact aeI c e1 ho;by_cases e2:c.kind=2;exact aeJ c e2 ho;by_cases e3:c.kind=3;exact aeK c e3 ho;by_cases e4:c.kind=4;exact aeL c e4 ho;by_cases e5:c.kind=5;exact aeM c e5 hl;by_cases e6:c.kind=6;exact aeN c e6 ho;exact aeO c oO ho
def q1B:Bytes:=[113,117,105,108,116,49]
def kE (p:ga):Sx:=.list [.atom q1B,.atom p.eW,.atom p.message,cG p.time,.list (p.deps.map nj),.list (p.changes.map mK)]
def aeQ (p:ga):AV:=if(eX (kE p)).length<=65536 then .eV [.str (eX (kE p)),.int .i64 0]else .eV [.str [],.int .i64 4]
theorem aeR (p:ga)(hx:OkX (kE p))(hd:p.deps.length<=2^40)(hc:p.changes.length<=2^40)(hk:∀c,c∈p.changes->1<=c.kind/\c.kind<=7/\c.lines.length<=2^40/\c.over.length<=2^40):ak C 128 [.agg (cP p)] (λr=>r=.val (aeQ p)):=by
 refine ag Tryz.func128 rfl rfl rfl ?_;refine bu 72 (λk:Nat=>[(1,.ptr 1 0),(4,.eH 10 192 3 (mE ((p.deps.take k).map nj))),(5,.eH 11 192 3 []),(6,.p (.int .i64 k))]) (λ_=>[(1,aH (cP p))]) (λk=>k<=p.deps.length) (λk=>p.deps.length-k) 0 (zL) rfl wS oS ?_;intro k sO;refine bQ (l:=p.deps) (f:=cD) (λhlt=>?_) (λhge=>?_);refine ix hlt ?_;refine cl (Wq p.deps[k]) ?_;refine⟨gv _,gv [nj p.deps[k]],by show((mE ((p.deps.take k).map nj)).length+1)*48<=_;rw[rP,aj,aD];omega,mE ((p.deps.take (k+1)).map nj),by rw[cq hlt,<-uZ];rfl,?_⟩;exact nx (k+1) (aO (k+1) hlt oO rfl wS oS);obtain rfl:k=p.deps.length:=oO
 rw[aJ];refine bu 72 (λk:Nat=>[(1,.ptr 1 0),(4,.eH 10 192 3 (mE (p.deps.map nj))),(5,.eH 11 192 3 (mE ((p.changes.take k).map mK))),(7,.p (.int .i64 k))]) (λ_=>[(1,aH (cP p))]) (λk=>k<=p.changes.length) (λk=>p.changes.length-k) 0 (zL) rfl wS oS ?_;intro k hk2;refine bQ (l:=p.changes) (f:=cC) (λhlt=>?_) (λhge=>?_);obtain⟨g1,g2,g3,g4⟩:=hk p.changes[k] (aK _);refine ix hlt ?_;refine cl (aeP p.changes[k] g1 g2 g3 g4) ?_;refine⟨gv _,gv [mK p.changes[k]],by show((mE ((p.changes.take k).map mK)).length+1)*48<=_;rw[rP,aj,aD];omega,mE ((p.changes.take (k+1)).map mK),by rw[cq hlt,<-uZ];rfl,?_⟩;exact nx (k+1) (aO (k+1) hlt oO rfl wS oS);obtain rfl:k=p.changes.length:=oO
 rw[aJ];refine cm 21 kK ?_;refine⟨_,sj q1B,?_⟩;refine⟨_,sj p.eW,?_⟩;refine⟨_,sj p.message,?_⟩;refine⟨_,qn p.time,?_⟩;refine⟨_,lH (p.deps.map nj),?_⟩;refine⟨_,lH (p.changes.map mK),?_⟩;refine⟨_,rfl,?_⟩;refine⟨_,lH [.atom q1B,.atom p.eW,.atom p.message,cG p.time,.list (p.deps.map nj),.list (p.changes.map mK)],?_⟩;refine⟨_,TX (kE p) hx,?_⟩;refine⟨none,?_⟩;refine cF (λh=>absurd rfl h) (λ_=>?_);have hl:=hx.len;refine az (λh=>?_) (λh=>?_);have :¬(eX (kE p)).length<=65536:=by have :((eX (kE p)).length:Int)>65536:=h;omega
 show cQ.val _=_;unfold aeQ;rw[aa this];have :(eX (kE p)).length<=65536:=by have :¬((eX (kE p)).length:Int)>65536:=h;omega
 show cQ.val _=_;unfold aeQ;rw[af this]
def aU:bg:=⟨bF,0⟩
def qK:bg:=⟨bF,-1⟩
theorem mX:ak C 203 [] (λr=>r=.val (.agg (cI aU))):=by refine ag Tryz.func203 rfl rfl rfl ?_;exact rfl
theorem Od:ak C 176 [] (λr=>r=.val (.agg (cI qK))):=by refine ag Tryz.func176 rfl rfl rfl ?_;exact rfl
def BU (x:bg)(first:Int):Bool:=if x.p=bF then decide (0<=x.n)&&decide (x.n<first)else decide (0<=x.n)&&decide (x.n<100000)
theorem abm (x:bg)(first:Int):ak C 205 [.agg (cI x),.int .i64 first] (λr=>r=.val (.bool (BU x first))):=by refine ag Tryz.func205 rfl rfl rfl ?_;refine cl (xL x.p) ?_;unfold BU;by_cases h:x.p=bF;rw[an h,af h];refine⟨none,?_⟩;refine az (λh1=>?_) (λh1=>?_);have h1:0<=x.n:=h1;refine az (λh2=>?_) (λh2=>?_);have h2:x.n<first:=h2;show cQ.val (.bool true)=_;simp[h1,h2];have h2:¬x.n<first:=h2;show cQ.val (.bool false)=_;simp[h2];have h1:¬0<=x.n:=h1;show cQ.val (.bool false)=_;simp[h1];rw[ah h,aa h];refine⟨none,?_⟩;refine az (λh1=>?_) (λh1=>?_);have h1:0<=x.n:=h1;refine az (λh2=>?_) (λh2=>?_);have h2:x.n<100000:=h2;show cQ.val (.bool true)=_;simp[h1,h2];have h2:¬x.n<100000:=h2;show cQ.val (.bool false)=_;simp[h2];have h1:¬0<=x.n:=h1;show cQ.val (.bool false)=_;simp[h1]
def gM (k:Int):Bool:=decide (k=5)||decide (k=6)
theorem Oe (k:Int):ak C 167 [.int .i64 k] (λr=>r=.val (.bool (gM k))):=by refine ag Tryz.func167 rfl rfl rfl ?_;refine⟨none,?_⟩;refine aA (λh=>?_) (λh=>aA (λh2=>?_) (λh2=>?_));show cQ.val (.bool true)=_;simp[gM,h];show cQ.val (.bool true)=_;simp[gM,h2];show cQ.val (.bool false)=_;simp[gM,h,h2]
def IZ (k:Int):Int:=if k=7 then 0 else k
theorem Wr (k:Int):ak C 169 [.int .i64 k] (λr=>r=.val (.int .i64 (IZ k))):=by refine ag Tryz.func169 rfl rfl rfl ?_;refine aA (λh=>?_) (λh=>?_);show cQ.val _=_;rw[IZ,af h];show cQ.val _=_;rw[IZ,aa h]
def lI (file:bg)(x:bD):Bool:=decide (x.kind=5)&&decide (x.file=file)
theorem Ja (file:bg)(x:bD):ak C 168 [.agg (cI file),.agg (cA x)] (λr=>r=.val (.bool (lI file x))):=by refine ag Tryz.func168 rfl rfl rfl ?_;refine⟨none,?_⟩;refine aA (λh=>?_) (λh=>?_);refine ou ?_;refine iu (a:=x.file) (b:=file) ?_;show cQ.val _=_;simp[lI,h];show cQ.val (.bool false)=_;simp[lI,h]
def fG (kind:Int)(file:bg)(x:bD):Bool:=decide (IZ kind=0)||(decide (x.kind=IZ kind)&&decide (x.file=file))
theorem Gx (kind:Int)(file:bg)(x:bD):ak C 136 [.int .i64 kind,.agg (cI file),.agg (cA x)] (λr=>r=.val (.bool (fG kind file x))):=by refine ag Tryz.func136 rfl rfl rfl ?_;refine cm 16 kK ?_;refine⟨_,Wr kind,?_⟩;refine aA (λh=>?_) (λh=>?_);show cQ.val (.bool true)=_;simp[fG,h];refine⟨_,Wr kind,?_⟩;refine aA (λh2=>?_) (λh2=>?_);refine ou ?_;refine iu (a:=x.file) (b:=file) ?_;show cQ.val _=_;simp[fG,h,h2];show cQ.val (.bool false)=_;simp[fG,h,h2]
def er (kind:Int)(x:bD):Bool:=decide (x.kind=1)&&(if gM kind=true then decide (x.type=1)else decide (kind≠4)||decide (x.type=2)||decide (x.type=3))
theorem Gy (kind:Int)(x:bD):ak C 133 [.int .i64 kind,.agg (cA x)] (λr=>r=.val (.bool (er kind x))):=by
 refine ag Tryz.func133 rfl rfl rfl ?_;refine cF (λh=>?_) (λh=>?_);show cQ.val (.bool false)=_;simp[er,h];refine cl (Oe kind) ?_;cases ht:gM kind with
 |true=>refine aA (λh2=>?_) (λh2=>?_);show cQ.val (.bool true)=_;simp[er,h,ht,h2];show cQ.val (.bool false)=_;simp[er,h,ht,h2]
 |false=>refine⟨none,?_⟩;refine cF (λh2=>?_) (λh2=>?_);show cQ.val (.bool true)=_;simp[er,h,ht,h2];refine aA (λh3=>?_) (λh3=>?_);show cQ.val (.bool true)=_;simp[er,h,ht,h3];refine aA (λh4=>?_) (λh4=>?_);show cQ.val (.bool true)=_;simp[er,h,ht,h4];show cQ.val (.bool false)=_;have ht4:gM 4=false:=rfl;simp[er,h,ht4,h2,h3,h4]
def ef:bD:=⟨aU,0,aU,0,aU,[],0,[],[],aU,aU,[]⟩
def mo (own:List bD)(x:bg):bD:=if x.p=bF/\0<=x.n/\x.n<own.length then own.getD x.n.toNat ef else ef
theorem Of (own:List bD)(x:bg)(hl:own.length<=2^47):ak C 175 [.sl (eU own),.agg (cI x)] (λr=>r=.val (.agg (cA (mo own x)))):=by
 unfold eU;refine ag Tryz.func175 rfl rfl rfl ?_;refine⟨none,?_⟩;refine cl (xL x.p) ?_;have no:¬(x.p=bF/\0<=x.n/\x.n<own.length)->cQ.val (.agg (cA ef))=cQ.val (.agg (cA (mo own x))):=λh=>by rw[mo,aa h]
 by_cases h:x.p=bF;rotate_left;rw[ah h];exact no λh2=>h h2.1;rw[an h];refine az (λh1=>?_) (λh1=>?_);rotate_left;exact no λh2=>h1 h2.2.1;have h1:0<=x.n:=h1;obtain⟨n,hn⟩:=gu h1;refine az (λh2=>?_) (λh2=>?_);rotate_left;refine no λh3=>h2 ?_;show x.n<((own.map cA).length:Int);rw[aj];exact h3.2.2;have h2:x.n<((own.map cA).length:Int):=h2;rw[aj]at h2;have hlt:n<own.length:=oO
 have hg:mo own x=own[n]:=by rw[mo,af ⟨h,h1,h2⟩,hn];simp[List.getD,hlt]
 rw[hg];refine⟨h1,_,by rw[hn];exact ct rfl hlt,rfl,?_⟩;exact rfl
def uG (x:bg)(n:Nat)(fits:Bool):Int:=if BU x n=true then(if x.p=bF/\fits=false then 8 else 0)else 7
theorem BV (x:bg)(own:List bD)(fits:Bool):ak C 174 [.agg (cI x),.sl (eU own),.bool fits] (λr=>r=.val (.int .i64 (uG x own.length fits))):=by
 have hl:((eU own).length:Int)=(own.length:Int):=by simp[eU]
 refine ag Tryz.func174 rfl rfl rfl ?_;refine⟨_,abm x ((eU own).length:Int),λr hr=>?_⟩;rw[hl]at hr;subst hr;refine bl ?_;unfold uG;cases ha:BU x own.length with
 |false=>exact rfl
 |true=>
  rw[af rfl];refine⟨none,?_⟩;refine cl (xL x.p) ?_;by_cases h:x.p=bF;rw[an h];refine bl ?_;cases fits with
  |true=>rw[aa (by simp)];exact rfl
  |false=>rw[af ⟨h,rfl⟩];exact rfl
  rw[ah h,aa λe=>h e.1];exact rfl
end Qv
