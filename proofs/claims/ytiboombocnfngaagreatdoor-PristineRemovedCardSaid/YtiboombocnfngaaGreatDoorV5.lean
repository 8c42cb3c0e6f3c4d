/- Part 11 of the proof: its lemmas. No condition. -/
import Derived.Test.YtiboombocnfngaaGreatDoorV1
import Derived.Lib.ItoaLen
set_option maxRecDepth 10000
set_option maxHeartbeats 80000000
set_option linter.all false
open Go Go.Proofs Go.RowKit
namespace Qv
def SzA (l:List cq):Prop:=l.length<=2^47/\∀a,a∈l->a.over.length<=2^47
theorem Wp (a b:List cq)(ha:SzA a)(hb:SzA b):aq C 34 [.sl (iu a),.sl (iu b)] (λr=>r=.val (.bool (decide (a=b)))):=by
 have ha1:=ha.1;have JM:=hb.1;unfold iu;refine ai Tryz.func34 rfl rfl rfl ?_;refine cu (λh=>?_) (λh=>?_);have :a≠b:=λe=>h (by rw[e]);show dx.val (.bool false)=_;simp[this];have hl:a.length=b.length:=by simp only[ah]at h;omega
 refine bJ 27 (λk:Nat=>[(0,.p (.sl (a.map cA))),(1,.p (.sl (b.map cA))),(5,.p (.int .i64 k))]) (λ_=>[]) (λk=>k<=a.length/\a.take k=b.take k) (λk=>a.length-k) 0 ⟨zL,rfl⟩ rfl wS trivial ?_;rintro k ⟨hk,he⟩;refine cg (λhlt=>?_) (λhge=>?_);have hlb:k<b.length:=oO
 refine bW 8 kK ?_;refine ix hlt ?_;refine ix hlb ?_;refine cl (ZO a[k] b[k] (ha.2 _ (aO _)) (hb.2 _ (aO _))) ?_;refine bH ?_;by_cases h:a[k]=b[k];rw[an h];exact nx (k+1) (aQ (k+1) ⟨hlt,EI hl hlt he h⟩ oO rfl wS trivial);rw[ak h];have :a≠b:=λe=>by subst e;exact h rfl
 show dx.val (.bool false)=_;simp[this];have :a=b:=Iz hl hge he;show dx.val (.bool true)=_;simp[this]
def ze (s:Bytes)(x y:UInt8):Bool:=s.all λc=>c !=x&&c !=y
theorem Li {s:Bytes}{x y:UInt8}{k:Nat}{c:UInt8}(h:s[k]?=some c)(h2:c=x\/c=y):ze s x y=false:=by unfold ze;rw[List.all_eq_false];refine⟨c,bU h,?_⟩;rcases h2 with rfl|rfl<;>simp
theorem ZP {a b:UInt8}(h:(a.toNat:Int)=(b.toNat:Int)):a=b:=UInt8.toNat_inj.1 oO
theorem ZQ (s:Bytes)(x y:UInt8)(hs:s.length<=2^47):aq C 271 [.str s,.int .u8 x.toNat,.int .u8 y.toNat] (λr=>r=.val (.bool (ze s x y))):=by
 refine ai Tryz.func271 rfl rfl rfl ?_;refine bJ 26 (λk:Nat=>[(0,.p (.str s)),(1,.p (.int .u8 x.toNat)),(2,.p (.int .u8 y.toNat)),(7,.p (.int .i64 k))]) (λ_=>[]) (λk=>k<=s.length/\∀i c,i<k->s[i]?=some c->c≠x/\c≠y) (λk=>s.length-k) 0 ⟨zL,λi c h=>absurd h (jm _)⟩ rfl wS trivial ?_;rintro k ⟨hk,hall⟩;refine aF (λhlt=>?_) (λhge=>?_);have hlt:k<s.length:=by have :(k:Int)<(s.length:Int):=hlt;omega
 obtain⟨c,hc⟩:∃c,s[k]?=some c:=⟨_,av hlt⟩;refine⟨none,?_⟩;refine⟨oO,c,GI rfl hc,?_⟩;refine aB (λh=>?_) (λh=>?_);rw[Li hc (.inl (ZP h))];exact rfl;refine⟨oO,c,GI rfl hc,?_⟩;refine aB (λh2=>?_) (λh2=>?_);rw[Li hc (.inr (ZP h2))];exact rfl;refine nx (k+1) (aQ (k+1) ⟨hlt,λi d hi hd=>?_⟩ oO rfl wS trivial);by_cases hik:i=k;subst hik;rw[hc]at hd;obtain rfl:=au hd;exact⟨λe=>h (by rw[e]),λe=>h2 (by rw[e])⟩;exact hall i d oO hd;have hge:¬k<s.length:=λh=>hge (show(k:Int)<(s.length:Int)by omega);have :ze s x y=true:=by unfold ze;rw[bA];intro c hc;obtain⟨i,hi⟩:=iK hc;have :=hall i c (by have :=(aJ.1 hi).1;omega) hi;simp[this.1,this.2]
 rw[this];exact rfl
def qi (s:Bytes):Bool:=decide (s.length<=1000)&&ze s 10 0
theorem Wq (s:Bytes)(hs:s.length<=2^47):aq C 197 [.str s] (λr=>r=.val (.bool (qi s))):=by
 refine ai Tryz.func197 rfl rfl rfl ?_;refine⟨none,?_⟩;refine aF (λh=>?_) (λh=>?_);refine cl (ZQ s 10 0 hs) ?_;have :s.length<=1000:=by have :(s.length:Int)<=1000:=h;omega
 show dx.val _=_;simp[qi,this];have :¬s.length<=1000:=by have :¬(s.length:Int)<=1000:=h;omega
 show dx.val _=_;simp[qi,this]
def vF (l:List dn):Nat:=(l.map λc=>c.name.length+c.data.length).sum
def EJ (c:dn):Bool:=zb c.lines||decide (40<c.over.length)
def iD (p:gr):Bool:=p.changes.any EJ||decide (3000<p.fq.length+p.message.length+vF p.changes)||decide (20<p.deps.length)||decide (20<p.changes.length)
theorem SF (l:List dn)(k:Nat)(h:k<l.length):vF (l.take (k+1))=vF (l.take k)+(l[k].name.length+l[k].data.length):=by unfold vF;rw[<-gb h,aD,mE];simp
theorem AS {α:Type}{f:α->Bool}{l:List α}{k:Nat}(hk:k<l.length)(h:(l.take k).any f=false)(h2:f l[k]=false):(l.take (k+1)).any f=false:=by rw[<-gb hk,List.any_append,h];simp[h2]
theorem Wr (p:gr)(hp:RC p):aq C 18 [.agg (cP p)] (λr=>r=.val (.bool (iD p))):=by
 have h1:=hp.len;refine ai Tryz.func18 rfl rfl rfl ?_;refine⟨IntKind.i64.wrap ((p.fq.length+p.message.length+vF (p.changes.take 0):Nat):Int),rfl,?_⟩;refine bJ 57 (λk:Nat=>[(1,.ptr 1 0),(3,.p (.int .i64 (IntKind.i64.wrap ((p.fq.length+p.message.length+vF (p.changes.take k):Nat):Int)))),(4,.p (.int .i64 k))]) (λ_=>[(1,aG (cP p))]) (λk=>k<=p.changes.length/\(p.changes.take k).any EJ=false) (λk=>p.changes.length-k) 0 ⟨zL,rfl⟩ rfl wS oS ?_;rintro k ⟨hk,hn⟩;refine cg (l:=p.changes) (f:=cC) (λhlt=>?_) (λhge=>?_);have hc:=hp.each p.changes[k] (aO _);have bad:EJ p.changes[k]=true->dx.val (.bool true)=dx.val (.bool (iD p)):=λh=>by have :p.changes.any EJ=true:=fc.2 ⟨_,aO hlt,h⟩;simp[iD,this]
 refine ix hlt ?_;refine⟨none,?_⟩;refine cl (Wn p.changes[k].lines hc.lines) ?_;cases hg:zb p.changes[k].lines with
 |true=>exact bad (by simp[EJ,hg])
 |false=>
  refine aF (λh=>?_) (λh=>?_);have :40<p.changes[k].over.length:=by have :(((oF p.changes[k].over).length:Nat):Int)>40:=h;simp only[oF,ah]at this;omega
  exact bad (by simp[EJ,this]);have h40:¬40<p.changes[k].over.length:=by have :¬(((oF p.changes[k].over).length:Nat):Int)>40:=h;simp only[oF,ah]at this;omega
  refine⟨IntKind.i64.wrap ((p.fq.length+p.message.length+vF (p.changes.take k)+p.changes[k].name.length:Nat):Int),by rw[wrap_add];rfl,?_⟩;refine⟨IntKind.i64.wrap ((p.fq.length+p.message.length+vF (p.changes.take (k+1)):Nat):Int),by rw[wrap_add,SF _ _ hlt];congr 1;omega,?_⟩;exact nx (k+1) (aQ (k+1) ⟨hlt,AS hlt hn (by simp[EJ,hg,h40])⟩ oO rfl wS oS)
 obtain rfl:k=p.changes.length:=oO
 rw[aU]at hn⊢;have hx:¬20<p.changes.length->IntKind.i64.wrap ((p.fq.length+p.message.length+vF p.changes:Nat):Int)=((p.fq.length+p.message.length+vF p.changes:Nat):Int):=λh=>by
  have h1:=zc (λc:dn=>c.name.length+c.data.length) (2^48) p.changes λc hc=>by have :=(hp.each c hc).name;have :=(hp.each c hc).data;omega
  have h2:p.changes.length*2^48<=20*2^48:=ew _ oO;have h3:=hp.fq;have h4:=hp.message;unfold vF;exact wrap64 oO oO
 refine⟨none,?_⟩;have lU:(((Ah p.changes).length:Nat):Int)=(p.changes.length:Int):=by simp only[Ah,ah]
 have hdl:(((jW p.deps).length:Nat):Int)=(p.deps.length:Int):=by simp only[jW,ah]
 refine aF (λh=>?_) (λh=>aF (λh2=>?_) (λh2=>aF (λh3=>?_) (λh3=>?_)));show dx.val (.bool true)=_;by_cases h20:20<p.changes.length;simp[iD,h20];rw[hx h20]at h;have :3000<p.fq.length+p.message.length+vF p.changes:=oO
 simp[iD,this];have :20<p.deps.length:=by have :(((jW p.deps).length:Nat):Int)>20:=h2;omega
 show dx.val (.bool true)=_;simp[iD,this];have :20<p.changes.length:=by have :(((Ah p.changes).length:Nat):Int)>20:=h3;omega
 show dx.val (.bool true)=_;simp[iD,this];have h20:¬20<p.changes.length:=by have :¬(((Ah p.changes).length:Nat):Int)>20:=h3;omega
 have hd:¬20<p.deps.length:=by have :¬(((jW p.deps).length:Nat):Int)>20:=h2;omega
 rw[hx h20]at h;have hs:¬3000<p.fq.length+p.message.length+vF p.changes:=oO
 show dx.val (.bool false)=_;simp only[iD,hn,h20,hd,hs,decide_false,Bool.or_self]
inductive Sx where|atom (s:Bytes)|list (l:List Sx)
theorem Sx.ind {P:Sx->Prop}(h1:∀s,P (.atom s))(h2:∀l,(∀x,x∈l->P x)->P (.list l))(x:Sx):P x:=Sx.rec (motive_1:=P) (motive_2:=λl=>∀x,x∈l->P x) h1 (λl ih=>h2 l ih) (λx hx=>by cases hx) (λq l hq hl x hx=>by rcases aK.1 hx with rfl|hx;exact hq;exact hl x hx) x
mutual def cX:Sx->List AV|.atom s=>[.bool false,.str s,.sl []]|.list l=>[.bool true,.str [],.sl (mJ l)] def mJ:List Sx->List (List AV)|[]=>[]|x::l=>cX x::mJ l end
mutual def nX:Sx->Nat|.atom _=>1|.list l=>1+td l def td:List Sx->Nat|[]=>0|x::l=>nX x+td l end
mutual def dX:Sx->Nat|.atom _=>1|.list l=>1+UB l def UB:List Sx->Nat|[]=>0|x::l=>max (dX x) (UB l) end
mutual def aX:Sx->Nat|.atom s=>s.length|.list l=>aXs l def aXs:List Sx->Nat|[]=>0|x::l=>max (aX x) (aXs l) end
mutual def eX:Sx->Bytes|.atom s=>Lib.itoa (s.length:Int)++[58]++s|.list l=>[40]++JN l++[41] def JN:List Sx->Bytes|[]=>[]|x::l=>eX x++JN l end
theorem uN:∀l,mJ l=l.map cX|[]=>rfl|x::l=>by show cX x::mJ l=_;rw[uN l];rfl
theorem uO:∀l,td l=(l.map nX).sum|[]=>rfl|x::l=>by show nX x+td l=_;rw[uO l];simp
theorem vG:∀l,JN l=l.flatMap eX|[]=>rfl|x::l=>by show eX x++JN l=_;rw[vG l];simp
theorem Nb:∀{l:List Sx}{x:Sx},x∈l->dX x<=UB l|y::l,x,h=>by show _<=max (dX y) (UB l);rcases aK.1 h with rfl|h;omega;have :=Nb h;omega
theorem GJ:∀{l:List Sx}{x:Sx},x∈l->aX x<=aXs l|y::l,x,h=>by show _<=max (aX y) (aXs l);rcases aK.1 h with rfl|h;omega;have :=GJ h;omega
theorem agb (x:Sx):1<=nX x:=by cases x<;>simp[nX]
theorem vH {l:List Sx}{k:Nat}(h:k<l.length):td (l.take (k+1))=td (l.take k)+nX l[k]:=by rw[uO,uO,<-gb h,aD,mE];simp
theorem nF (l:List Sx)(k:Nat):td (l.take k)<=td l:=by rw[uO,uO];exact FK nX l k
theorem wX:∀l,l.length<=td l|[]=>aA _|x::l=>by have :=wX l;have :=agb x;show l.length+1<=nX x+td l;omega
theorem Qa {l:List Sx}{k:Nat}(h:k<l.length):JN (l.take (k+1))=JN (l.take k)++eX l[k]:=by rw[vG,vG,<-gb h,kC];simp
theorem Ws (l:List Sx)(k:Nat):JN l=JN (l.take k)++JN (l.drop k):=by rw[vG,vG,vG,<-kC,dI]
theorem FL (l:List Sx)(k:Nat):(JN (l.take k)).length<=(JN l).length:=by rw[Ws l k,ay];omega
theorem agc (x:Sx):(cX x).length=3:=by cases x<;>rfl
theorem Wt {l:List Sx}{k:Nat}(h:k<l.length):(mJ l)[((k:Nat):Int).toNat]?=some (cX l[k]):=by rw[uN,ko,aN,av h];rfl
theorem rI (l:List Sx):(mJ l).length=l.length:=by rw[uN,ah]
theorem EK {k:Nat}{l:List Sx}{K:Bool->Prop}(h1:k<l.length->K true)(h2:¬k<l.length->K false):Al λt:Bool=>t=decide ((k:Int)<((mJ l).length:Int))->K t:=by rw[uN];exact cg h1 h2
theorem ZR (x:Sx):∀lim d:Nat,nX x<=lim->dX x<=d->lim<=2^20->d<=100->aq C 311 [.agg (cX x),.int .i64 (lim:Int),.int .i64 (d:Int)] (λr=>r=.val (.int .i64 (nX x:Int))):=by
 induction x using Sx.ind with
 |h1 s=>intro lim d h1 h2 h3 h4;have h1:1<=lim:=h1;have h2:1<=d:=h2;refine ai Tryz.func311 rfl rfl rfl ?_;refine⟨none,?_⟩;refine aF (λh=>absurd h oO) (λ_=>aF (λh=>absurd h oO) (λ_=>?_));refine bH ?_;exact rfl
 |h2 l ih=>
  intro lim d h1 h2 h3 h4;have h1:1+td l<=lim:=h1;have h2:1+UB l<=d:=h2;refine ai Tryz.func311 rfl rfl rfl ?_;refine⟨none,?_⟩;refine aF (λh=>absurd h oO) (λ_=>aF (λh=>absurd h oO) (λ_=>?_));refine bH ?_;have hlen:=wX l;refine bJ 47 (λk:Nat=>[(1,.p (.int .i64 (lim:Int))),(2,.p (.int .i64 (d:Int))),(3,.ptr 3 0),(7,.p (.int .i64 ((1+td (l.take k):Nat):Int))),(8,.p (.int .i64 k))]) (λ_=>[(3,aG [.bool true,.str [],.sl (mJ l)])]) (λk=>k<=l.length) (λk=>l.length-k) 0 (zL) rfl wS oS ?_;intro k hk;have ht:=nF l k;refine⟨none,?_⟩;refine EK (λhlt=>?_) (λhge=>?_)
  ·refine aF (λ_=>?_) (λh=>absurd (show((1+td (l.take k):Nat):Int)<=(lim:Int)by omega) h);have ht2:=nF l (k+1);have hs:=vH hlt;have hm:=aO hlt;have hi:=ih l[k] hm (lim-(1+td (l.take k))) (d-1) oO (by have :=Nb hm;omega) oO oO;have jD:=Wt hlt;generalize l[k]=y at hi jD hs;cases y;all_goals refine⟨oO,_,jD,rfl,?_⟩;refine⟨((lim-(1+td (l.take k)):Nat):Int),by rw[wrap64 oO oO];omega,?_⟩;refine nx (d-1) ?_;refine cl hi ?_;refine⟨((1+td (l.take (k+1)):Nat):Int),by rw[wrap64 oO oO];omega,?_⟩;exact nx (k+1) (aQ (k+1) hlt oO rfl wS oS)
  have :k=l.length:=oO
  subst this;rw[aU];exact rfl
theorem agd (x:Sx):aX x<=65536->nX x<=2^20->aq C 312 [.agg (cX x)] (λr=>r=.val (.int .i64 0)):=by
 induction x using Sx.ind with
 |h1 s=>intro h1 _;have h1:s.length<=65536:=h1;refine ai Tryz.func312 rfl rfl rfl ?_;refine bH ?_;refine aF (λh=>absurd h dD) (λ_=>?_);refine aF (λh=>absurd h oO) (λ_=>?_);exact rfl
 |h2 l ih=>
  intro h1 h2;have h1:aXs l<=65536:=h1;have h2:1+td l<=2^20:=h2;have hlen:=wX l;refine ai Tryz.func312 rfl rfl rfl ?_;refine bH ?_;refine Bv (λh=>absurd rfl h) (λ_=>?_);refine bJ 35 (λk:Nat=>[(1,.ptr 1 0),(3,.p (.int .i64 k))]) (λ_=>[(1,aG [.bool true,.str [],.sl (mJ l)])]) (λk=>k<=l.length) (λk=>l.length-k) 0 (zL) rfl wS oS ?_;intro k hk;refine EK (λhlt=>?_) (λhge=>?_)
  ·have hm:=aO hlt;have hs:=vH hlt;have ht2:=nF l (k+1);have hi:=ih l[k] hm (by have :=GJ hm;omega) oO;have jD:=Wt hlt;generalize l[k]=y at hi jD hs;cases y;all_goals refine⟨oO,_,jD,rfl,?_⟩;refine cl hi ?_;refine cu (λh=>absurd rfl h) (λ_=>?_);exact nx (k+1) (aQ (k+1) hlt oO rfl wS oS)
  exact rfl
theorem Wu (x:Sx)(h1:nX x<=20000)(h2:dX x<=12)(h3:aX x<=65536):aq C 282 [.agg (cX x)] (λr=>r=.val (.int .i64 0)):=by have hc:=ZR x 20000 12 h1 h2 dD dD;have hk:=agd x h3 oO;cases x;all_goals refine ai Tryz.func282 rfl rfl rfl ?_;refine cl hc ?_;refine aF (λh=>absurd h oO) (λ_=>?_);refine cl hk ?_;exact rfl
theorem ZS (u:Nat)(h:u<10):Lib.itoa (u:Int)=[UInt8.ofNat (48+u)]:=by unfold Lib.itoa;rw[af oO];show Lib.decDigits (Int.toNat (u:Int))=_;rw[ko,Lib.decDigits,dif_pos h]
theorem Wv (u:Nat)(h:¬u<10):Lib.itoa (u:Int)=Lib.itoa ((u/10:Nat):Int)++[UInt8.ofNat (48+u%10)]:=by
 unfold Lib.itoa;rw[af oO,af oO];show Lib.decDigits (Int.toNat (u:Int))=Lib.decDigits (Int.toNat ((u/10:Nat):Int))++_;rw[ko,ko];conv=>lhs;rw[Lib.decDigits]
 rw[dif_neg h]
theorem BB (u:Nat)(hu:u<=2^60):aq C 313 [.int .i64 (u:Int)] (λr=>r=.val (.str (Lib.itoa u))):=by
 induction u using Nat.strongRecOn with
 |_ u ih=>
  have dig:∀d:Nat,d<10->((48+d:Nat):Int)=((UInt8.ofNat (48+d)).toNat:Int):=λd hd=>by simp;omega
  refine ai Tryz.func313 rfl rfl rfl ?_;refine aF (λh=>absurd h oO) (λ_=>?_);refine aF (λh=>?_) (λh=>?_);have hu:u<10:=oO
  refine⟨_,(show IntKind.i64.wrap (48+(u:Int))=((48+u:Nat):Int)from by rw[wrap64 oO oO];omega),?_⟩;refine⟨((48+u:Nat):Int),Zm oO oO,?_⟩;refine⟨[UInt8.ofNat (48+u)],(by show[[AV.int .u8 ((48+u:Nat):Int)]]=[[AV.int .u8 ((UInt8.ofNat (48+u)).toNat:Int)]];rw[dig u hu]),?_⟩;show dx.val _=_;rw[ZS u hu];have hu':¬u<10:=oO
  have l1:=Lib.itoa_length_le ((u/10:Nat):Int) oO oO;refine bW 11 kK ?_;refine⟨dD,((u/10:Nat):Int),(by rw[show((u:Int).tdiv 10)=((u/10:Nat):Int)from rfl];exact wrap64 oO oO),?_⟩;refine⟨_,ih (u/10) oO oO,?_⟩;refine⟨dD,((u%10:Nat):Int),rfl,?_⟩;refine⟨_,(show IntKind.i64.wrap (48+((u%10:Nat):Int))=((48+u%10:Nat):Int)from by rw[wrap64 oO oO];omega),?_⟩;refine⟨.p (.int .u8 ((48+u%10:Nat):Int)),⟨_,Zm oO oO,rfl⟩,?_⟩;refine⟨_,rfl,?_⟩;refine⟨.p (.str [UInt8.ofNat (48+u%10)]),⟨[UInt8.ofNat (48+u%10)],(by show[[AV.int .u8 ((48+u%10:Nat):Int)]]=[[AV.int .u8 ((UInt8.ofNat (48+u%10)).toNat:Int)]];rw[dig _ oO]),rfl⟩,?_⟩;refine⟨by simp only[ay,ic];omega,?_⟩;show dx.val _=_;rw[Wv u hu']
theorem itoa_neg (n:Int)(h:n<0):Lib.itoa n=[45]++Lib.itoa (-n):=by unfold Lib.itoa;rw[ag h,af oO,show n.natAbs=(-n).toNat from oO];rfl
theorem adt (n:Int)(h0:-2^60<=n)(h1:n<=2^60):aq C 313 [.int .i64 n] (λr=>r=.val (.str (Lib.itoa n))):=by by_cases h:n<0;obtain⟨u,hu⟩:=jo (show 0<=-n by omega);refine ai Tryz.func313 rfl rfl rfl ?_;refine aF (λ_=>?_) (λh2=>absurd h h2);refine aF (λh2=>absurd h2 oO) (λ_=>?_);refine⟨(u:Int),by rw[wrap64 oO oO];omega,?_⟩;have l1:=Lib.itoa_length_le (u:Int) oO oO;refine cl (BB u oO) ?_;refine⟨by simp only[aR,bn];omega,?_⟩;rw[itoa_neg n h,hu];exact rfl;obtain⟨u,rfl⟩:=jo (show 0<=n by omega);exact BB u oO
theorem SG (x:Sx):(eX x).length<=2^40->nX x<=2^20->aq C 283 [.agg (cX x)] (λr=>r=.val (.str (eX x))):=by
 induction x using Sx.ind with
 |h1 s=>intro h1 _;have h1:(Lib.itoa (s.length:Int)++[58]++s).length<=2^40:=h1;simp only[ay,aR,bn]at h1;refine ai Tryz.func283 rfl rfl rfl ?_;refine bH ?_;refine bW 9 kK ?_;refine⟨_,BB s.length oO,?_⟩;refine⟨by simp only[aR,bn];omega,?_⟩;refine⟨by simp only[ay,aR,bn];omega,?_⟩;exact rfl
 |h2 l ih=>
  intro h1 h2;have h1:([40]++JN l++[41]).length<=2^40:=h1;have h2:1+td l<=2^20:=h2;simp only[ay,aR,bn]at h1;have hlen:=wX l;refine ai Tryz.func283 rfl rfl rfl ?_;refine bH ?_;refine bJ 33 (λk:Nat=>[(1,.ptr 1 0),(3,.p (.str ([40]++JN (l.take k)))),(4,.p (.int .i64 k))]) (λ_=>[(1,aG [.bool true,.str [],.sl (mJ l)])]) (λk=>k<=l.length) (λk=>l.length-k) 0 (zL) rfl wS oS ?_;intro k hk;refine EK (λhlt=>?_) (λhge=>?_)
  ·have hm:=aO hlt;have hs:=vH hlt;have he:=Qa hlt;have hel:=bg List.length he;rw[ay]at hel;have ht2:=nF l (k+1);have hb:=FL l (k+1);have hi:=ih l[k] hm oO oO;have jD:=Wt hlt;generalize l[k]=y at hi jD hs he hel;cases y;all_goals refine⟨oO,_,jD,rfl,?_⟩;refine cl hi ?_;refine⟨by simp only[ay,aR,bn];omega,?_⟩;exact nx (k+1) (aQ (k+1) hlt oO rfl ⟨bh.refl _,bh.eq (by rw[he,<-bu];rfl),bh.refl _,trivial⟩ oS)
  have :k=l.length:=oO
  subst this;rw[aU];refine⟨by simp only[ay,aR,bn];omega,?_⟩;exact rfl
structure ZT (x:Sx):Prop where
 nodes:nX x<=20000
 depth:dX x<=12
 atoms:aX x<=65536
 len:(eX x).length<=2^40
theorem SH (x:Sx)(h:ZT x):aq C 222 [.agg (cX x)] (λr=>r=.val (.eW [.str (eX x),.int .i64 0])):=by have hc:=Wu x h.nodes h.depth h.atoms;have hk:=SG x h.len (by have :=h.nodes;omega);clear h;cases x;all_goals refine ai Tryz.func222 rfl rfl rfl ?_;refine cl hc ?_;refine cu (λh=>absurd rfl h) (λ_=>?_);refine cl hk ?_;exact rfl
def akB (n:Int):Sx:=.atom (Lib.itoa n)
theorem adu (n:Int)(h0:-1099511627776<=n)(h1:n<=1099511627776):aq C 284 [.int .i64 n] (λr=>r=.val (.eW [.agg (cX (akB n)),.int .i64 0])):=by refine ai Tryz.func284 rfl rfl rfl ?_;refine⟨none,?_⟩;refine aF (λh=>absurd h oO) (λ_=>aF (λh=>absurd h oO) (λ_=>?_));refine cl (adt n oO oO) ?_;exact rfl
def Qb (n:Int):Bytes:=if-1099511627776<=n/\n<=1099511627776 then Lib.itoa n else[]
def dgB (d:Dg):Bytes:=if d=aV then[]else d.1
abbrev zX:List FV:=[.p (.bool false),.p (.str []),.full []]
def cM (n:Int):Sx:=.atom (Qb n)
def ni (d:Dg):Sx:=.atom (dgB d)
def bP (x:bV):Sx:=.list [ni x.p,cM x.n]
def rU (l:List bV):Sx:=.list (l.map bP)
def RD (l:List Bytes):Sx:=.list (l.map Sx.atom)
theorem rV (s:Bytes):aq C 224 [.str s] (λr=>r=.val (.agg (cX (.atom s)))):=by refine ai Tryz.func224 rfl rfl rfl ?_;exact rfl
theorem lI (l:List Sx):aq C 223 [.sl (mJ l)] (λr=>r=.val (.agg (cX (.list l)))):=by refine ai Tryz.func223 rfl rfl rfl ?_;exact rfl
theorem Ww (n:Int)(h:¬(-1099511627776<=n/\n<=1099511627776)):aq C 284 [.int .i64 n] (λr=>r=.val (.eW [.agg (cX (.atom [])),.int .i64 2])):=by refine ai Tryz.func284 rfl rfl rfl ?_;refine⟨none,?_⟩;refine aF (λ_=>?_) (λh1=>aF (λ_=>?_) (λh2=>absurd (show-1099511627776<=n/\n<=1099511627776 by omega) h));exact rfl;exact rfl
theorem qj (n:Int):aq C 225 [.int .i64 n] (λr=>r=.val (.agg (cX (cM n)))):=by by_cases h:-1099511627776<=n/\n<=1099511627776;have e:Qb n=Lib.itoa n:=ag h;unfold cM;rw[e];refine ai Tryz.func225 rfl rfl rfl ?_;refine cl (adu n h.1 h.2) ?_;exact rfl;have e:Qb n=[]:=af h;unfold cM;rw[e];refine ai Tryz.func225 rfl rfl rfl ?_;refine cl (Ww n h) ?_;exact rfl
theorem Wx (d:Dg):aq C 279 [.agg (cD d)] (λr=>r=.val (.str d.1)):=by refine aY {opens:=[],JL:=[],full:=false,fzo:=[1]} [] Tryz.func279 rfl rfl rfl ?_;refine⟨[1],dy (cells:=aG (cD d)) (ys:=cD d) rfl (bC _) rfl ?_⟩;refine⟨dD,dD,rfl,(by show 32<=32;decide),_,SC d,?_⟩;refine⟨d.1,rfl,?_⟩;exact rfl
theorem UC (d:Dg):aq C 220 [.agg (cD d)] (λr=>r=.val (.agg (cX (ni d)))):=by refine ai Tryz.func220 rfl rfl rfl ?_;refine cl (wT d) ?_;unfold ni;by_cases h:d=aV;have e:dgB d=[]:=ag h;rw[an h,e];refine cl (rV []) ?_;exact rfl;have e:dgB d=d.1:=af h;rw[ak h,e];refine cl (Wx d) ?_;refine cl (rV d.1) ?_;exact rfl
theorem qk (x:bV):aq C 280 [.agg (cI x)] (λr=>r=.val (.agg (cX (bP x)))):=by refine ai Tryz.func280 rfl rfl rfl ?_;refine bW 5 kK ?_;refine⟨_,UC x.p,?_⟩;refine cl (qj x.n) ?_;refine cl (lI [ni x.p,cM x.n]) ?_;exact rfl
theorem cm {α β:Type}{f:α->β}{l:List α}{k:Nat}(h:k<l.length):(l.take (k+1)).map f=(l.take k).map f++[f l[k]]:=by rw[<-gb h,aD];rfl
theorem gz (l:List Sx):∀zs,zs∈mJ l->zs.length=3:=by intro zs h;rw[uN]at h;obtain⟨x,-,rfl⟩:=aC.1 h;exact agc x
theorem uP (a b:List Sx):mJ a++mJ b=mJ (a++b):=by rw[uN,uN,uN,aD]
theorem zf (l:List bV)(hl:l.length<=2^40):aq C 281 [.sl (oF l)] (λr=>r=.val (.agg (cX (rU l)))):=by
 unfold oF;refine ai Tryz.func281 rfl rfl rfl ?_;refine bJ 22 (λk:Nat=>[(0,.p (.sl (l.map cI))),(2,.ptr 2 0),(3,.fM 5 261 3 (mJ ((l.take k).map bP))),(4,.p (.int .i64 k))]) (λ_=>[(2,zX)]) (λk=>k<=l.length) (λk=>l.length-k) 0 (zL) rfl wS oS ?_;intro k hk;refine cg (λhlt=>?_) (λhge=>?_);refine ix hlt ?_;refine cl (qk l[k]) ?_;refine⟨gz _,gz [bP l[k]],by show((mJ ((l.take k).map bP)).length+1)*48<=_;rw[rI,ah,aL];omega,mJ ((l.take (k+1)).map bP),by rw[cm hlt,<-uP];rfl,?_⟩;exact nx (k+1) (aQ (k+1) hlt oO rfl wS oS);obtain rfl:k=l.length:=oO
 rw[aU];refine cl (lI (l.map bP)) ?_;exact rfl
def qD (c:dn):List Sx:=[cM c.kind]++((if c.kind=1 then[]else if c.kind=7 then[]else[bP c.file])++((if c.kind=1 then[cM c.type]else if c.kind=2 then[bP c.parent,.atom c.name]else if c.kind=3 then[cM c.mode]else if c.kind=4 then[.atom c.data]else if c.kind=5\/c.kind=6 then[bP c.cS,bP c.cZ]else[])++(if c.kind=5 then[RD c.lines]else if c.kind=1 then[]else[rU c.over])))
def mL (c:dn):Sx:=.list (qD c)
theorem bX (a b:List Sx)(ha:a.length<=100)(hb:b.length<=100):((mJ a).length+(mJ b).length)*48<=140737488355328:=by rw[rI,rI];omega
theorem adv (c:dn)(hk:c.kind=1)(ho:c.over.length<=2^40):aq C 221 [.agg (cC c)] (λr=>r=.val (.agg (cX (mL c)))):=by
 cases c with
 |mk kind file type parent name mode data cS cZ lines over=>simp only at hk ho;subst hk;refine ai Tryz.func221 rfl rfl rfl ?_;refine cl (qj 1) ?_;refine⟨none,?_⟩;refine aF (λh=>absurd (show(1:Int)≥2 from h) dD) (λ_=>?_);refine aB (λ_=>?_) (λh=>absurd (show(1:Int)=1 by decide) h);refine cl (qj type) ?_;refine⟨gz [cM 1],gz [cM type],bX [cM 1] [cM type] (by simp) (by simp),mJ [cM 1,cM type],rfl,?_⟩;refine aB (λh=>absurd (show(1:Int)=5 from h) dD) (λ_=>?_);refine cu (λh=>absurd rfl h) (λ_=>?_);refine cl (lI [cM 1,cM type]) ?_;exact rfl
theorem adw (c:dn)(hk:c.kind=2)(ho:c.over.length<=2^40):aq C 221 [.agg (cC c)] (λr=>r=.val (.agg (cX (mL c)))):=by
 cases c with
 |mk kind file type parent name mode data cS cZ lines over=>simp only at hk ho;subst hk;refine ai Tryz.func221 rfl rfl rfl ?_;refine cl (qj 2) ?_;refine⟨none,?_⟩;refine aF (λ_=>?_) (λh=>absurd (show(2:Int)≥2 by decide) h);refine aF (λ_=>?_) (λh=>absurd (show(2:Int)<=6 by decide) h);refine cl (qk file) ?_;refine⟨gz [cM 2],gz [bP file],bX [cM 2] [bP file] (by simp) (by simp),mJ [cM 2,bP file],rfl,?_⟩;refine aB (λh=>absurd (show(2:Int)=1 from h) dD) (λ_=>?_);refine aB (λ_=>?_) (λh=>absurd (show(2:Int)=2 by decide) h);refine bW 8 kK ?_;refine⟨_,qk parent,?_⟩;refine⟨_,rV name,?_⟩;refine⟨_,rfl,?_⟩;refine⟨gz [cM 2,bP file],gz [bP parent,.atom name],bX [cM 2,bP file] [bP parent,.atom name] (by simp) (by simp),mJ [cM 2,bP file,bP parent,.atom name],rfl,?_⟩;refine aB (λh=>absurd (show(2:Int)=5 from h) dD) (λ_=>?_);refine cu (λ_=>?_) (λh=>absurd (show(2:Int)=1 from h) dD);refine cl (zf over ho) ?_;refine⟨gz [cM 2,bP file,bP parent,.atom name],gz [rU over],bX [cM 2,bP file,bP parent,.atom name] [rU over] (by simp) (by simp),mJ [cM 2,bP file,bP parent,.atom name,rU over],rfl,?_⟩;refine cl (lI [cM 2,bP file,bP parent,.atom name,rU over]) ?_;exact rfl
theorem adx (c:dn)(hk:c.kind=3)(ho:c.over.length<=2^40):aq C 221 [.agg (cC c)] (λr=>r=.val (.agg (cX (mL c)))):=by
 cases c with
 |mk kind file type parent name mode data cS cZ lines over=>simp only at hk ho;subst hk;refine ai Tryz.func221 rfl rfl rfl ?_;refine cl (qj 3) ?_;refine⟨none,?_⟩;refine aF (λ_=>?_) (λh=>absurd (show(3:Int)≥2 by decide) h);refine aF (λ_=>?_) (λh=>absurd (show(3:Int)<=6 by decide) h);refine cl (qk file) ?_;refine⟨gz [cM 3],gz [bP file],bX [cM 3] [bP file] (by simp) (by simp),mJ [cM 3,bP file],rfl,?_⟩;refine aB (λh=>absurd (show(3:Int)=1 from h) dD) (λ_=>?_);refine aB (λh=>absurd (show(3:Int)=2 from h) dD) (λ_=>?_);refine aB (λ_=>?_) (λh=>absurd (show(3:Int)=3 by decide) h);refine cl (qj mode) ?_;refine⟨gz [cM 3,bP file],gz [cM mode],bX [cM 3,bP file] [cM mode] (by simp) (by simp),mJ [cM 3,bP file,cM mode],rfl,?_⟩;refine aB (λh=>absurd (show(3:Int)=5 from h) dD) (λ_=>?_);refine cu (λ_=>?_) (λh=>absurd (show(3:Int)=1 from h) dD);refine cl (zf over ho) ?_;refine⟨gz [cM 3,bP file,cM mode],gz [rU over],bX [cM 3,bP file,cM mode] [rU over] (by simp) (by simp),mJ [cM 3,bP file,cM mode,rU over],rfl,?_⟩;refine cl (lI [cM 3,bP file,cM mode,rU over]) ?_;exact rfl
theorem ady (c:dn)(hk:c.kind=4)(ho:c.over.length<=2^40):aq C 221 [.agg (cC c)] (λr=>r=.val (.agg (cX (mL c)))):=by
 cases c with
 |mk kind file type parent name mode data cS cZ lines over=>simp only at hk ho;subst hk;refine ai Tryz.func221 rfl rfl rfl ?_;refine cl (qj 4) ?_;refine⟨none,?_⟩;refine aF (λ_=>?_) (λh=>absurd (show(4:Int)≥2 by decide) h);refine aF (λ_=>?_) (λh=>absurd (show(4:Int)<=6 by decide) h);refine cl (qk file) ?_;refine⟨gz [cM 4],gz [bP file],bX [cM 4] [bP file] (by simp) (by simp),mJ [cM 4,bP file],rfl,?_⟩;refine aB (λh=>absurd (show(4:Int)=1 from h) dD) (λ_=>?_);refine aB (λh=>absurd (show(4:Int)=2 from h) dD) (λ_=>?_);refine aB (λh=>absurd (show(4:Int)=3 from h) dD) (λ_=>?_);refine aB (λ_=>?_) (λh=>absurd (show(4:Int)=4 by decide) h);refine cl (rV data) ?_;refine⟨gz [cM 4,bP file],gz [.atom data],bX [cM 4,bP file] [.atom data] (by simp) (by simp),mJ [cM 4,bP file,.atom data],rfl,?_⟩;refine aB (λh=>absurd (show(4:Int)=5 from h) dD) (λ_=>?_);refine cu (λ_=>?_) (λh=>absurd (show(4:Int)=1 from h) dD);refine cl (zf over ho) ?_;refine⟨gz [cM 4,bP file,.atom data],gz [rU over],bX [cM 4,bP file,.atom data] [rU over] (by simp) (by simp),mJ [cM 4,bP file,.atom data,rU over],rfl,?_⟩;refine cl (lI [cM 4,bP file,.atom data,rU over]) ?_;exact rfl
theorem adz (c:dn)(hk:c.kind=5)(ho:c.lines.length<=2^40):aq C 221 [.agg (cC c)] (λr=>r=.val (.agg (cX (mL c)))):=by
 cases c with
 |mk kind file type parent name mode data cS cZ lines over=>
  simp only at hk ho;subst hk;refine ai Tryz.func221 rfl rfl rfl ?_;refine cl (qj 5) ?_;refine⟨none,?_⟩;refine aF (λ_=>?_) (λh=>absurd (show(5:Int)≥2 by decide) h);refine aF (λ_=>?_) (λh=>absurd (show(5:Int)<=6 by decide) h);refine cl (qk file) ?_;refine⟨gz [cM 5],gz [bP file],bX [cM 5] [bP file] (by simp) (by simp),mJ [cM 5,bP file],rfl,?_⟩;refine aB (λh=>absurd (show(5:Int)=1 from h) dD) (λ_=>?_);refine aB (λh=>absurd (show(5:Int)=2 from h) dD) (λ_=>?_);refine aB (λh=>absurd (show(5:Int)=3 from h) dD) (λ_=>?_);refine aB (λh=>absurd (show(5:Int)=4 from h) dD) (λ_=>?_);refine aB (λ_=>?_) (λh=>absurd (show(5:Int)=5 by decide) h);refine bW 8 kK ?_;refine⟨_,qk cS,?_⟩;refine⟨_,qk cZ,?_⟩;refine⟨_,rfl,?_⟩;refine⟨gz [cM 5,bP file],gz [bP cS,bP cZ],bX [cM 5,bP file] [bP cS,bP cZ] (by simp) (by simp),mJ [cM 5,bP file,bP cS,bP cZ],rfl,?_⟩;refine aB (λ_=>?_) (λh=>absurd (show(5:Int)=5 by decide) h);refine bJ 109 (λk:Nat=>[(1,.ptr 1 0),(2,.ptr 2 0),(3,.fM 9 261 3 (mJ [cM 5,bP file,bP cS,bP cZ])),(4,.fM 76 261 3 (mJ ((lines.take k).map Sx.atom))),(5,.p (.int .i64 k))]) (λ_=>[(1,aG (cC ⟨5,file,type,parent,name,mode,data,cS,cZ,lines,over⟩)),(2,zX)]) (λk=>k<=lines.length) (λk=>lines.length-k) 0 (zL) rfl wS oS ?_;intro k hk;refine cg (l:=lines) (f:=mT) (λhlt=>?_) (λhge=>?_);refine ix hlt ?_;refine cl (rV lines[k]) ?_;refine⟨gz _,gz [.atom lines[k]],by show((mJ ((lines.take k).map Sx.atom)).length+1)*48<=_;rw[rI,ah,aL];omega,mJ ((lines.take (k+1)).map Sx.atom),by rw[cm hlt,<-uP];rfl,?_⟩;exact nx (k+1) (aQ (k+1) hlt oO rfl wS oS);obtain rfl:k=lines.length:=oO
  rw[aU];refine cl (lI (lines.map Sx.atom)) ?_;refine⟨gz [cM 5,bP file,bP cS,bP cZ],gz [RD lines],bX [cM 5,bP file,bP cS,bP cZ] [RD lines] (by simp) (by simp),mJ [cM 5,bP file,bP cS,bP cZ,RD lines],rfl,?_⟩;refine cl (lI [cM 5,bP file,bP cS,bP cZ,RD lines]) ?_;exact rfl
theorem adA (c:dn)(hk:c.kind=6)(ho:c.over.length<=2^40):aq C 221 [.agg (cC c)] (λr=>r=.val (.agg (cX (mL c)))):=by
 cases c with
 |mk kind file type parent name mode data cS cZ lines over=>simp only at hk ho;subst hk;refine ai Tryz.func221 rfl rfl rfl ?_;refine cl (qj 6) ?_;refine⟨none,?_⟩;refine aF (λ_=>?_) (λh=>absurd (show(6:Int)≥2 by decide) h);refine aF (λ_=>?_) (λh=>absurd (show(6:Int)<=6 by decide) h);refine cl (qk file) ?_;refine⟨gz [cM 6],gz [bP file],bX [cM 6] [bP file] (by simp) (by simp),mJ [cM 6,bP file],rfl,?_⟩;refine aB (λh=>absurd (show(6:Int)=1 from h) dD) (λ_=>?_);refine aB (λh=>absurd (show(6:Int)=2 from h) dD) (λ_=>?_);refine aB (λh=>absurd (show(6:Int)=3 from h) dD) (λ_=>?_);refine aB (λh=>absurd (show(6:Int)=4 from h) dD) (λ_=>?_);refine aB (λh=>absurd (show(6:Int)=5 from h) dD) (λ_=>?_);refine aB (λ_=>?_) (λh=>absurd (show(6:Int)=6 by decide) h);refine bW 8 kK ?_;refine⟨_,qk cS,?_⟩;refine⟨_,qk cZ,?_⟩;refine⟨_,rfl,?_⟩;refine⟨gz [cM 6,bP file],gz [bP cS,bP cZ],bX [cM 6,bP file] [bP cS,bP cZ] (by simp) (by simp),mJ [cM 6,bP file,bP cS,bP cZ],rfl,?_⟩;refine aB (λh=>absurd (show(6:Int)=5 from h) dD) (λ_=>?_);refine cu (λ_=>?_) (λh=>absurd (show(6:Int)=1 from h) dD);refine cl (zf over ho) ?_;refine⟨gz [cM 6,bP file,bP cS,bP cZ],gz [rU over],bX [cM 6,bP file,bP cS,bP cZ] [rU over] (by simp) (by simp),mJ [cM 6,bP file,bP cS,bP cZ,rU over],rfl,?_⟩;refine cl (lI [cM 6,bP file,bP cS,bP cZ,rU over]) ?_;exact rfl
theorem adB (c:dn)(hk:c.kind=7)(ho:c.over.length<=2^40):aq C 221 [.agg (cC c)] (λr=>r=.val (.agg (cX (mL c)))):=by
 cases c with
 |mk kind file type parent name mode data cS cZ lines over=>simp only at hk ho;subst hk;refine ai Tryz.func221 rfl rfl rfl ?_;refine cl (qj 7) ?_;refine⟨none,?_⟩;refine aF (λ_=>?_) (λh=>absurd (show(7:Int)≥2 by decide) h);refine aF (λh=>absurd (show(7:Int)<=6 from h) dD) (λ_=>?_);refine aB (λh=>absurd (show(7:Int)=1 from h) dD) (λ_=>?_);refine aB (λh=>absurd (show(7:Int)=2 from h) dD) (λ_=>?_);refine aB (λh=>absurd (show(7:Int)=3 from h) dD) (λ_=>?_);refine aB (λh=>absurd (show(7:Int)=4 from h) dD) (λ_=>?_);refine aB (λh=>absurd (show(7:Int)=5 from h) dD) (λ_=>?_);refine aB (λh=>absurd (show(7:Int)=6 from h) dD) (λ_=>?_);refine aB (λh=>absurd (show(7:Int)=5 from h) dD) (λ_=>?_);refine cu (λ_=>?_) (λh=>absurd (show(7:Int)=1 from h) dD);refine cl (zf over ho) ?_;refine⟨gz [cM 7],gz [rU over],bX [cM 7] [rU over] (by simp) (by simp),mJ [cM 7,rU over],rfl,?_⟩;refine cl (lI [cM 7,rU over]) ?_;exact rfl
theorem adC (c:dn)(h1:1<=c.kind)(h7:c.kind<=7)(hl:c.lines.length<=2^40)(ho:c.over.length<=2^40):aq C 221 [.agg (cC c)] (λr=>r=.val (.agg (cX (mL c)))):=by by_cases e1:c.kind=1;exact adv c e1 ho;by_cases e2:c.kind=2;exact adw c e2 ho;by_cases e3:c.kind=3;exact adx c e3 ho;by_cases e4:c.kind=4;exact ady c e4 ho;by_cases e5:c.kind=5;exact adz c e5 hl;by_cases e6:c.kind=6;exact adA c e6 ho;exact adB c oO ho
def q1B:Bytes:=[113,117,105,108,116,49]
def kD (p:gr):Sx:=.list [.atom q1B,.atom p.fq,.atom p.message,cM p.time,.list (p.deps.map ni),.list (p.changes.map mL)]
def adD (p:gr):AV:=if(eX (kD p)).length<=65536 then .eW [.str (eX (kD p)),.int .i64 0]else .eW [.str [],.int .i64 4]
theorem adE (p:gr)(hx:ZT (kD p))(hd:p.deps.length<=2^40)(hc:p.changes.length<=2^40)(hk:∀c,c∈p.changes->1<=c.kind/\c.kind<=7/\c.lines.length<=2^40/\c.over.length<=2^40):aq C 153 [.agg (cP p)] (λr=>r=.val (adD p)):=by
 refine ai Tryz.func153 rfl rfl rfl ?_;refine bJ 72 (λk:Nat=>[(1,.ptr 1 0),(4,.fM 10 261 3 (mJ ((p.deps.take k).map ni))),(5,.fM 11 261 3 []),(6,.p (.int .i64 k))]) (λ_=>[(1,aG (cP p))]) (λk=>k<=p.deps.length) (λk=>p.deps.length-k) 0 (zL) rfl wS oS ?_;intro k Zg;refine cg (l:=p.deps) (f:=cD) (λhlt=>?_) (λhge=>?_);refine ix hlt ?_;refine cl (UC p.deps[k]) ?_;refine⟨gz _,gz [ni p.deps[k]],by show((mJ ((p.deps.take k).map ni)).length+1)*48<=_;rw[rI,ah,aL];omega,mJ ((p.deps.take (k+1)).map ni),by rw[cm hlt,<-uP];rfl,?_⟩;exact nx (k+1) (aQ (k+1) hlt oO rfl wS oS);obtain rfl:k=p.deps.length:=oO
 rw[aU];refine bJ 72 (λk:Nat=>[(1,.ptr 1 0),(4,.fM 10 261 3 (mJ (p.deps.map ni))),(5,.fM 11 261 3 (mJ ((p.changes.take k).map mL))),(7,.p (.int .i64 k))]) (λ_=>[(1,aG (cP p))]) (λk=>k<=p.changes.length) (λk=>p.changes.length-k) 0 (zL) rfl wS oS ?_;intro k hk2;refine cg (l:=p.changes) (f:=cC) (λhlt=>?_) (λhge=>?_);obtain⟨g1,g2,g3,g4⟩:=hk p.changes[k] (aO _);refine ix hlt ?_;refine cl (adC p.changes[k] g1 g2 g3 g4) ?_;refine⟨gz _,gz [mL p.changes[k]],by show((mJ ((p.changes.take k).map mL)).length+1)*48<=_;rw[rI,ah,aL];omega,mJ ((p.changes.take (k+1)).map mL),by rw[cm hlt,<-uP];rfl,?_⟩;exact nx (k+1) (aQ (k+1) hlt oO rfl wS oS);obtain rfl:k=p.changes.length:=oO
 rw[aU];refine bW 21 kK ?_;refine⟨_,rV q1B,?_⟩;refine⟨_,rV p.fq,?_⟩;refine⟨_,rV p.message,?_⟩;refine⟨_,qj p.time,?_⟩;refine⟨_,lI (p.deps.map ni),?_⟩;refine⟨_,lI (p.changes.map mL),?_⟩;refine⟨_,rfl,?_⟩;refine⟨_,lI [.atom q1B,.atom p.fq,.atom p.message,cM p.time,.list (p.deps.map ni),.list (p.changes.map mL)],?_⟩;refine⟨_,SH (kD p) hx,?_⟩;refine⟨none,?_⟩;refine cu (λh=>absurd rfl h) (λ_=>?_);have hl:=hx.len;refine aF (λh=>?_) (λh=>?_);have :¬(eX (kD p)).length<=65536:=by have :((eX (kD p)).length:Int)>65536:=h;omega
 show dx.val _=_;unfold adD;rw[af this];have :(eX (kD p)).length<=65536:=by have :¬((eX (kD p)).length:Int)>65536:=h;omega
 show dx.val _=_;unfold adD;rw[ag this]
def aS:bV:=⟨aV,0⟩
def kX:bV:=⟨aV,-1⟩
theorem mX:aq C 341 [] (λr=>r=.val (.agg (cI aS))):=by refine ai Tryz.func341 rfl rfl rfl ?_;exact rfl
theorem GK:aq C 135 [] (λr=>r=.val (.agg (cI kX))):=by refine ai Tryz.func135 rfl rfl rfl ?_;exact rfl
def BC (x:bV)(first:Int):Bool:=if x.p=aV then decide (0<=x.n)&&decide (x.n<first)else decide (0<=x.n)&&decide (x.n<100000)
theorem ZU (x:bV)(first:Int):aq C 342 [.agg (cI x),.int .i64 first] (λr=>r=.val (.bool (BC x first))):=by refine ai Tryz.func342 rfl rfl rfl ?_;refine cl (wT x.p) ?_;unfold BC;by_cases h:x.p=aV;rw[an h,ag h];refine⟨none,?_⟩;refine aF (λh1=>?_) (λh1=>?_);have h1:0<=x.n:=h1;refine aF (λh2=>?_) (λh2=>?_);have h2:x.n<first:=h2;show dx.val (.bool true)=_;simp[h1,h2];have h2:¬x.n<first:=h2;show dx.val (.bool false)=_;simp[h2];have h1:¬0<=x.n:=h1;show dx.val (.bool false)=_;simp[h1];rw[ak h,af h];refine⟨none,?_⟩;refine aF (λh1=>?_) (λh1=>?_);have h1:0<=x.n:=h1;refine aF (λh2=>?_) (λh2=>?_);have h2:x.n<100000:=h2;show dx.val (.bool true)=_;simp[h1,h2];have h2:¬x.n<100000:=h2;show dx.val (.bool false)=_;simp[h2];have h1:¬0<=x.n:=h1;show dx.val (.bool false)=_;simp[h1]
def fS (k:Int):Bool:=decide (k=5)||decide (k=6)
theorem Nc (k:Int):aq C 292 [.int .i64 k] (λr=>r=.val (.bool (fS k))):=by refine ai Tryz.func292 rfl rfl rfl ?_;refine⟨none,?_⟩;refine aB (λh=>?_) (λh=>aB (λh2=>?_) (λh2=>?_));show dx.val (.bool true)=_;simp[fS,h];show dx.val (.bool true)=_;simp[fS,h2];show dx.val (.bool false)=_;simp[fS,h,h2]
def AT (k:Int):Int:=if k=7 then 0 else k
theorem UD (k:Int):aq C 293 [.int .i64 k] (λr=>r=.val (.int .i64 (AT k))):=by refine ai Tryz.func293 rfl rfl rfl ?_;refine aB (λh=>?_) (λh=>?_);show dx.val _=_;rw[AT,ag h];show dx.val _=_;rw[AT,af h]
def gj (file:bV)(x:cq):Bool:=decide (x.kind=5)&&decide (x.file=file)
theorem IB (file:bV)(x:cq):aq C 136 [.agg (cI file),.agg (cA x)] (λr=>r=.val (.bool (gj file x))):=by refine ai Tryz.func136 rfl rfl rfl ?_;refine⟨none,?_⟩;refine aB (λh=>?_) (λh=>?_);refine qT ?_;refine jC (a:=x.file) (b:=file) ?_;show dx.val _=_;simp[gj,h];show dx.val (.bool false)=_;simp[gj,h]
def dU (kind:Int)(file:bV)(x:cq):Bool:=decide (AT kind=0)||(decide (x.kind=AT kind)&&decide (x.file=file))
theorem FM (kind:Int)(file:bV)(x:cq):aq C 247 [.int .i64 kind,.agg (cI file),.agg (cA x)] (λr=>r=.val (.bool (dU kind file x))):=by refine ai Tryz.func247 rfl rfl rfl ?_;refine bW 16 kK ?_;refine⟨_,UD kind,?_⟩;refine aB (λh=>?_) (λh=>?_);show dx.val (.bool true)=_;simp[dU,h];refine⟨_,UD kind,?_⟩;refine aB (λh2=>?_) (λh2=>?_);refine qT ?_;refine jC (a:=x.file) (b:=file) ?_;show dx.val _=_;simp[dU,h,h2];show dx.val (.bool false)=_;simp[dU,h,h2]
def bF (kind:Int)(x:cq):Bool:=decide (x.kind=1)&&(if fS kind=true then decide (x.type=1)else decide (kind≠4)||decide (x.type=2)||decide (x.type=3))
theorem FN (kind:Int)(x:cq):aq C 244 [.int .i64 kind,.agg (cA x)] (λr=>r=.val (.bool (bF kind x))):=by
 refine ai Tryz.func244 rfl rfl rfl ?_;refine cu (λh=>?_) (λh=>?_);show dx.val (.bool false)=_;simp[bF,h];refine cl (Nc kind) ?_;cases ht:fS kind with
 |true=>refine aB (λh2=>?_) (λh2=>?_);show dx.val (.bool true)=_;simp[bF,h,ht,h2];show dx.val (.bool false)=_;simp[bF,h,ht,h2]
 |false=>refine⟨none,?_⟩;refine cu (λh2=>?_) (λh2=>?_);show dx.val (.bool true)=_;simp[bF,h,ht,h2];refine aB (λh3=>?_) (λh3=>?_);show dx.val (.bool true)=_;simp[bF,h,ht,h3];refine aB (λh4=>?_) (λh4=>?_);show dx.val (.bool true)=_;simp[bF,h,ht,h4];show dx.val (.bool false)=_;have ht4:fS 4=false:=rfl;simp[bF,h,ht4,h2,h3,h4]
def iA:cq:=⟨aS,0,aS,0,aS,[],0,[],[],aS,aS,[]⟩
def nj (own:List cq)(x:bV):cq:=if x.p=aV/\0<=x.n/\x.n<own.length then own.getD x.n.toNat iA else iA
theorem Nd (own:List cq)(x:bV)(hl:own.length<=2^47):aq C 309 [.sl (iu own),.agg (cI x)] (λr=>r=.val (.agg (cA (nj own x)))):=by
 unfold iu;refine ai Tryz.func309 rfl rfl rfl ?_;refine⟨none,?_⟩;refine cl (wT x.p) ?_;have no:¬(x.p=aV/\0<=x.n/\x.n<own.length)->dx.val (.agg (cA iA))=dx.val (.agg (cA (nj own x))):=λh=>by rw[nj,af h]
 by_cases h:x.p=aV;rotate_left;rw[ak h];exact no λh2=>h h2.1;rw[an h];refine aF (λh1=>?_) (λh1=>?_);rotate_left;exact no λh2=>h1 h2.2.1;have h1:0<=x.n:=h1;obtain⟨n,hn⟩:=jo h1;refine aF (λh2=>?_) (λh2=>?_);rotate_left;refine no λh3=>h2 ?_;show x.n<((own.map cA).length:Int);rw[ah];exact h3.2.2;have h2:x.n<((own.map cA).length:Int):=h2;rw[ah]at h2;have hlt:n<own.length:=oO
 have hg:nj own x=own[n]:=by rw[nj,ag ⟨h,h1,h2⟩,hn];simp[List.getD,hlt]
 rw[hg];refine⟨h1,_,by rw[hn];exact dL rfl hlt,rfl,?_⟩;exact rfl
def ua (x:bV)(n:Nat)(fits:Bool):Int:=if BC x n=true then(if x.p=aV/\fits=false then 8 else 0)else 7
theorem BD (x:bV)(own:List cq)(fits:Bool):aq C 308 [.agg (cI x),.sl (iu own),.bool fits] (λr=>r=.val (.int .i64 (ua x own.length fits))):=by
 have hl:((iu own).length:Int)=(own.length:Int):=by simp[iu]
 refine ai Tryz.func308 rfl rfl rfl ?_;refine⟨_,ZU x ((iu own).length:Int),λr hr=>?_⟩;rw[hl]at hr;subst hr;refine bH ?_;unfold ua;cases ha:BC x own.length with
 |false=>exact rfl
 |true=>
  rw[ag rfl];refine⟨none,?_⟩;refine cl (wT x.p) ?_;by_cases h:x.p=aV;rw[an h];refine bH ?_;cases fits with
  |true=>rw[af (by simp)];exact rfl
  |false=>rw[ag ⟨h,rfl⟩];exact rfl
  rw[ak h,af λe=>h e.1];exact rfl
end Qv
