/- Part 34 of the proof: its lemmas. No condition. -/
import Derived.Test.YtlbofhenpfnenaaGreatDoorU22
import Derived.Test.YtlbofhenpfnenaaGreatDoorU25
import Derived.Test.YtlbofhenpfnenaaGreatDoorV3
import Derived.Test.YtlbofhenpfnenaaGreatDoorV6
import Derived.Test.YtlbofhenpfnenaaGreatDoorV7
set_option maxRecDepth 10000
set_option maxHeartbeats 80000000
set_option linter.all false
open Go Go.Proofs Go.RowKit
namespace Qv
theorem Mp:∀a:Bytes,cmpL a a=0|[]=>rfl|x::a=>by show(if x.toNat<x.toNat then-1 else if x.toNat<x.toNat then 1 else cmpL a a)=(0:Int);rw[aa (tC _),aa (tC _)];exact Mp a
theorem ahB {x y:UInt8}(h1:¬x.toNat<y.toNat)(h2:¬y.toNat<x.toNat):x=y:=UInt8.toNat_inj.1 oO
theorem Mq:∀{a b:Bytes},cmpL a b=0->a=b|[],[],_=>rfl|[],_::_,h=>absurd h (show¬(-1:Int)=0 by decide)|_::_,[],h=>absurd h (show¬(1:Int)=0 by decide)|x::a,y::b,h=>by have h:(if x.toNat<y.toNat then-1 else if y.toNat<x.toNat then 1 else cmpL a b)=(0:Int):=h;by_cases h1:x.toNat<y.toNat;rw[af h1]at h;exact absurd h dD;rw[aa h1]at h;by_cases h2:y.toNat<x.toNat;rw[af h2]at h;exact absurd h dD;rw[aa h2]at h;rw[ahB h1 h2,Mq h]
theorem Mr:∀a b:Bytes,cmpL b a=-cmpL a b|[],[]=>rfl|[],_::_=>rfl|_::_,[]=>rfl|x::a,y::b=>by show(if y.toNat<x.toNat then-1 else if x.toNat<y.toNat then 1 else cmpL b a)=-(if x.toNat<y.toNat then-1 else if y.toNat<x.toNat then 1 else cmpL a b);by_cases h1:x.toNat<y.toNat;rw[af h1,af h1,aa oO];rfl;rw[aa h1,aa h1];by_cases h2:y.toNat<x.toNat;rw[af h2,af h2];rw[aa h2,aa h2];exact Mr a b
theorem JC:∀{a b c:Bytes},cmpL a b<0->cmpL b c<0->cmpL a c<0
 |[],[],_,h,_=>absurd h dD
 |[],_::_,[],_,h=>absurd h (by show¬(1:Int)<0;decide)
 |[],_::_,_::_,_,_=>by show(-1:Int)<0;decide
 |_::_,[],_,h,_=>absurd h (by show¬(1:Int)<0;decide)
 |_::_,_::_,[],_,h=>absurd h (by show¬(1:Int)<0;decide)
 |x::a,y::b,z::c,h1,h2=>by have h1:(if x.toNat<y.toNat then-1 else if y.toNat<x.toNat then 1 else cmpL a b)<(0:Int):=h1;have h2:(if y.toNat<z.toNat then-1 else if z.toNat<y.toNat then 1 else cmpL b c)<(0:Int):=h2;show(if x.toNat<z.toNat then-1 else if z.toNat<x.toNat then 1 else cmpL a c)<(0:Int);by_cases k1:x.toNat<y.toNat;by_cases k2:y.toNat<z.toNat;rw[af oO];decide;rw[aa k2]at h2;by_cases k3:z.toNat<y.toNat;rw[af k3]at h2;exact absurd h2 dD;rw[af oO];decide;rw[aa k1]at h1;by_cases k4:y.toNat<x.toNat;rw[af k4]at h1;exact absurd h1 dD;rw[aa k4]at h1;by_cases k2:y.toNat<z.toNat;rw[af oO];decide;rw[aa k2]at h2;by_cases k3:z.toNat<y.toNat;rw[af k3]at h2;exact absurd h2 dD;rw[aa k3]at h2;rw[aa oO,aa oO];exact JC h1 h2
theorem FA (a:Dg):eY a a=0:=Mp _
theorem mS {a b:Dg}(h:eY a b=0):a=b:=Subtype.ext (Mq h)
theorem om (a b:Dg):eY b a=-eY a b:=Mr _ _
theorem kU {a b c:Dg}(h1:eY a b<0)(h2:eY b c<0):eY a c<0:=JC h1 h2
theorem kP (a:Dg):¬eY a a<0:=by rw[FA];decide
theorem YC (a:bg):gN a a=0:=by unfold gN;rw[FA];simp
theorem wC {a b:bg}(h:gN a b=0):a=b:=by unfold gN at h;by_cases h1:eY a.p b.p≠0;rw[af h1]at h;exact absurd h h1;rw[aa h1]at h;have h1:a.p=b.p:=mS (fE.1 h1);by_cases h2:a.n<b.n;rw[af h2]at h;exact absurd h dD;rw[aa h2]at h;by_cases h3:b.n<a.n;rw[af h3]at h;exact absurd h dD;cases a;cases b;simp only[bg.mk.injEq];exact⟨h1,by show _=_;simp only at h2 h3;omega⟩
theorem rz (a b:bg):gN b a=-gN a b:=by unfold gN;rw[om a.p b.p];by_cases h1:eY a.p b.p=0;rw[aa (show¬(-eY a.p b.p≠0)by omega),aa (show¬(eY a.p b.p≠0)by omega)];by_cases h2:a.n<b.n;rw[af h2,af h2,aa oO];rfl;rw[aa h2,aa h2];by_cases h3:b.n<a.n;rw[af h3,af h3];rw[aa h3,aa h3];rfl;rw[af (show-eY a.p b.p≠0 by omega),af h1]
theorem rA {a b c:bg}(h1:gN a b<0)(h2:gN b c<0):gN a c<0:=by unfold gN at*;by_cases k1:eY a.p b.p=0;rw[aa (λg=>g k1)]at h1;have e1:=mS k1;rw[e1];by_cases k2:eY b.p c.p=0;rw[aa (λg=>g k2)]at h2⊢;by_cases q1:a.n<b.n;by_cases q2:b.n<c.n;rw[af oO];decide;rw[aa q2]at h2;by_cases q3:c.n<b.n;rw[af q3]at h2;exact absurd h2 dD;rw[aa q3]at h2;exact absurd h2 dD;rw[aa q1]at h1;by_cases q3:b.n<a.n;rw[af q3]at h1;exact absurd h1 dD;rw[aa q3]at h1;exact absurd h1 dD;rw[af k2]at h2⊢;exact h2;rw[af k1]at h1;by_cases k2:eY b.p c.p=0;rw[<-mS k2,af k1];exact h1;rw[af k2]at h2;have :=kU h1 h2;rw[af oO];exact this
theorem su (a:bg):¬gN a a<0:=by rw[YC];decide
abbrev Am (l:List Dg):Prop:=l.Pairwise λa b=>eY a b<0
abbrev Hj (l:List bg):Prop:=l.Pairwise λa b=>gN a b<0
theorem JD {l:List Dg}{x y:Dg}:y∈jw l x↔y=x\/y∈l:=by
 induction l with
 |nil=>simp[jw]
 |cons z l ih=>unfold jw;split;rw[aQ,ih,aQ];constructor;rintro(h|h|h);exact .inr (.inl h);exact .inl h;exact .inr (.inr h);rintro(h|h|h);exact .inr (.inl h);exact .inl h;exact .inr (.inr h);split;rename_i h;subst h;simp;simp[aQ]
theorem RX {l:List Dg}(h:Am l)(x:Dg):Am (jw l x):=by
 induction l with
 |nil=>simp[jw]
 |cons z l ih=>
  obtain⟨h1,h2⟩:=dZ.1 h;unfold jw;split;rename_i hz;refine dZ.2 ⟨λy hy=>?_,ih h2⟩;rcases JD.1 hy with rfl|hy;exact hz;exact h1 y hy;split;exact h;rename_i hz hne;have hx:eY x z<0:=by have :=om z x;have :eY z x≠0:=λe=>hne (mS e);omega
  refine dZ.2 ⟨λy hy=>?_,h⟩;rcases aQ.1 hy with rfl|hy;exact hx;exact kU hx (h1 y hy)
theorem RY {l:List bg}{x y:bg}:y∈qh l x↔y=x\/y∈l:=by
 induction l with
 |nil=>simp[qh]
 |cons z l ih=>unfold qh;split;rw[aQ,ih,aQ];constructor;rintro(h|h|h);exact .inr (.inl h);exact .inl h;exact .inr (.inr h);rintro(h|h|h);exact .inr (.inl h);exact .inl h;exact .inr (.inr h);split;rename_i h;subst h;simp;simp[aQ]
theorem acv {l:List bg}(h:Hj l)(x:bg):Hj (qh l x):=by
 induction l with
 |nil=>simp[qh]
 |cons z l ih=>
  obtain⟨h1,h2⟩:=dZ.1 h;unfold qh;split;rename_i hz;refine dZ.2 ⟨λy hy=>?_,ih h2⟩;rcases RY.1 hy with rfl|hy;exact hz;exact h1 y hy;split;exact h;rename_i hz hne;have hx:gN x z<0:=by have :=rz z x;have :gN z x≠0:=λe=>hne (wC e);omega
  refine dZ.2 ⟨λy hy=>?_,h⟩;rcases aQ.1 hy with rfl|hy;exact hx;exact rA hx (h1 y hy)
theorem FB {l acc:List Dg}{y:Dg}:y∈l.foldl jw acc↔y∈l\/y∈acc:=by
 induction l generalizing acc with
 |nil=>simp
 |cons x l ih=>rw[eR,ih,JD,aQ];constructor;rintro(h|h|h);exact .inl (.inr h);exact .inl (.inl h);exact .inr h;rintro((h|h)|h);exact .inr (.inl h);exact .inl h;exact .inr (.inr h)
theorem Ms {l acc:List Dg}(h:Am acc):Am (l.foldl jw acc):=by
 induction l generalizing acc with
 |nil=>exact h
 |cons x l ih=>exact ih (RX h x)
theorem Mt {l acc:List bg}{y:bg}:y∈l.foldl qh acc↔y∈l\/y∈acc:=by
 induction l generalizing acc with
 |nil=>simp
 |cons x l ih=>rw[eR,ih,RY,aQ];constructor;rintro(h|h|h);exact .inl (.inr h);exact .inl (.inl h);exact .inr h;rintro((h|h)|h);exact .inr (.inl h);exact .inl h;exact .inr (.inr h)
theorem FC {l acc:List bg}(h:Hj acc):Hj (l.foldl qh acc):=by
 induction l generalizing acc with
 |nil=>exact h
 |cons x l ih=>exact ih (acv h x)
theorem Cf {α:Type}(lt:α->α->Prop)(ir:∀a,¬lt a a)(tr:∀a b c,lt a b->lt b c->lt a c):∀{l m:List α},l.Pairwise lt->m.Pairwise lt->(∀x,x∈l↔x∈m)->l=m
 |[],[],_,_,_=>rfl
 |[],y::m,_,_,h=>by have :=(h y).2 (by simp);cases this
 |x::l,[],_,_,h=>by have :=(h x).1 (by simp);cases this
 |x::l,y::m,h1,h2,h=>by
  obtain⟨a1,a2⟩:=dZ.1 h1;obtain⟨b1,b2⟩:=dZ.1 h2;have e:x=y:=by rcases aQ.1 ((h x).1 (by simp))with e|hx;exact e;rcases aQ.1 ((h y).2 (by simp))with e|hy;exact e.symm;exact absurd (tr _ _ _ (a1 y hy) (b1 x hx)) (ir x)
  subst e;rw[Cf lt ir tr a2 b2 λz=>?_];constructor;intro hz;rcases aQ.1 ((h z).1 (bq _ hz))with rfl|hm;exact absurd (a1 z hz) (ir z);exact hm;intro hz;rcases aQ.1 ((h z).2 (bq _ hz))with rfl|hm;exact absurd (b1 z hz) (ir z);exact hm
theorem RZ {l m:List Dg}(h1:Am l)(h2:Am m)(h:∀x,x∈l↔x∈m):l=m:=Cf (λa b=>eY a b<0) kP (λ_ _ _=>kU) h1 h2 h
theorem GI {l m:List bg}(h1:Hj l)(h2:Hj m)(h:∀x,x∈l↔x∈m):l=m:=Cf (λa b=>gN a b<0) su (λ_ _ _=>rA) h1 h2 h
def uy (l:List Dg):List Dg:=l.mergeSort λx y=>!decide (eY y x<0)
def oU (l:List bg):List bg:=l.mergeSort λx y=>!decide (gN y x<0)
theorem Mu {l:List Dg}{x:Dg}:x∈uy l↔x∈l:=List.mem_mergeSort
theorem Mv {l:List bg}{x:bg}:x∈oU l↔x∈l:=List.mem_mergeSort
theorem Uw (l:List Dg):(uy l).Pairwise λa b=>¬eY b a<0:=by
 have :=List.pairwise_mergeSort (le:=λx y:Dg=>!decide (eY y x<0)) (λa b c h1 h2=>by
  simp only[eC,decide_eq_false_iff_not]at*;intro h;by_cases e:eY b a=0;rw[mS e]at h2;exact h2 h;have :=om a b;have h3:eY a b<0:=oO
  exact h2 (kU h h3)) (λa b=>by simp only[qd,eC,decide_eq_false_iff_not];have :=om a b;omega) l;exact this.imp λ{a b} h=>by simpa using h
theorem Ux (l:List bg):(oU l).Pairwise λa b=>¬gN b a<0:=by
 have :=List.pairwise_mergeSort (le:=λx y:bg=>!decide (gN y x<0)) (λa b c h1 h2=>by
  simp only[eC,decide_eq_false_iff_not]at*;intro h;by_cases e:gN b a=0;rw[wC e]at h2;exact h2 h;have :=rz a b;have h3:gN a b<0:=oO
  exact h2 (rA h h3)) (λa b=>by simp only[qd,eC,decide_eq_false_iff_not];have :=rz a b;omega) l;exact this.imp λ{a b} h=>by simpa using h
theorem Mw {l:List bg}(h:l.Nodup):Hj (oU l):=by have h1:=Ux l;have h2:(oU l).Nodup:=(List.mergeSort_perm l _).nodup_iff.2 h;refine(h1.and h2).imp λ{a b} h=>?_;have :=rz a b;have :gN a b≠0:=λe=>h.2 (wC e);omega
theorem Uy {l:List bg}(h:l.Nodup):oU l=l.foldl qh []:=GI (Mw h) (FC List.Pairwise.nil) λx=>by rw[Mv,Mt];simp
def dz:List Dg->List Dg|[]=>[]|[x]=>[x]|x::y::l=>if x=y then dz (y::l)else x::dz (y::l)
theorem AR {x:Dg}:∀{l:List Dg},x∈dz l↔x∈l|[]=>Iff.rfl|[y]=>Iff.rfl|y::z::l=>by unfold dz;split;rename_i h;subst h;rw[AR];simp;rw[aQ,AR,aQ (l:=z::l)]
theorem FD:∀{l:List Dg},l.Pairwise (λa b=>¬eY b a<0)->Am (dz l)
 |[],_=>List.Pairwise.nil
 |[y],_=>by simp[dz]
 |y::z::l,h=>by
  obtain⟨h1,h2⟩:=dZ.1 h;unfold dz;split;exact FD h2;rename_i hne;refine dZ.2 ⟨λx hx=>?_,FD h2⟩;have hyz:eY y z<0:=by have :=h1 z (by simp);have :=om z y;have :eY y z≠0:=λe=>hne (mS e);omega
  rcases aQ.1 (AR.1 hx)with rfl|hx;exact hyz;have :=(dZ.1 h2).1 x hx;by_cases e:eY x z=0;rw[mS e];exact hyz;have e2:=om x z;exact kU hyz oO
theorem An {C:Ctx}{S:ai}{dst:Option Nat}{g:FuncId}{o:Nat}{T:TypeId}{bP:Nat}{rest cells:List FV}{zs xs:List AV}{K:ai->Prop}{R:Bool->List AV->Prop}(h1:Ba S.aN o=some cells)(h2:FV.fD rest=some xs)(h3:FV.fD cells=some zs)(hc:ZD C g T bP zs xs R)(hk:∀r ys,R r ys->ZK S dst o T bP r ys K):PL C S dst g (.fe o T bP::rest) K:=by unfold PL;simp only[h1,h2,h3];exact⟨R,hc,hk⟩
theorem tH {l:List Dg}:∀ys,ys∈jo l->ys.length=32/\∀y,y∈ys->y.one=true:=by intro ys h;obtain⟨x,-,rfl⟩:=aI.1 h;exact⟨rfl,λy hy=>bY.1 (show(cD x).all AV.one=true from rfl) y hy⟩
def cR (l:List Dg):List FV:=aH (jo l).flatten
theorem dy (l:List Dg):(cR l).length=l.length*32:=by unfold cR;rw[iZ,gG (e:=32) λzs h=>(tH zs h).1];simp[jo]
theorem jO (a b:List Dg):cR (a++b)=cR a++cR b:=by unfold cR jo;rw[aM,ye,eP,eP,eP,aM]
theorem Ee (a:Dg):cR [a]=aH (cD a):=by unfold cR jo;simp
theorem rB (a:Dg)(l:List Dg):cR (a::l)=aH (cD a)++cR l:=by rw[<-gW,jO,Ee]
theorem kV (l:List Dg)(k:Nat):FV.eL k (cR l)=cR l:=jj k _
theorem AS (l:List Dg)(d:Dg)(o:Nat):FV.eL o (cR l++aH [cD d].flatten)=cR (l++[d]):=by rw[show cR l++aH [cD d].flatten=cR (l++[d])from by rw[jO,Ee];simp];exact kV _ _
theorem Mx (a b:List Dg):(cR a++cR b).take (a.length*32)=cR a:=by rw[nO (by rw[dy];exact ay _),ck (by rw[dy];exact ay _)]
theorem Ef {l:List Dg}{k:Nat}(h:k<l.length):cR l=cR (l.take k)++(aH (cD l[k])++cR (l.drop (k+1))):=by rw[<-rB,<-bL h,<-jO,cT]
theorem My {aN:List (Nat×List FV)}{o:Nat}{l:List Dg}(k:Nat)(h:Qv.getObj aN o=some (FV.eL k (cR l))):∃ys,Qv.getObj aN o=some ys/\ys.length=(cR l).length/\∀(i:Nat)(x y:FV),ys[i]?=some x->(cR l)[i]?=some y->aF x y:=by rw[kV]at h;exact aC h
theorem ahC (x:Dg):ahA (cD x):=by intro y hy;have :=bY.1 (show(cD x).all (λy=>match y with|.int _ _=>true|_=>false)=true from rfl) y hy;cases y<;>first|exact⟨_,_,rfl⟩|cases this
theorem alP:Sort.SWO (Proofs.ltOf eY):=⟨λx=>by unfold Proofs.ltOf;exact ah (kP x),λx y z h1 h2=>by unfold Proofs.ltOf at*;exact an (kU (qx h1) (qx h2)),λx y z h1 h2=>by
 unfold Proofs.ltOf at*;refine ah λh=>?_;have h1:=ym h1;have h2:=ym h2;by_cases e:eY y x=0;rw[mS e]at h2;exact h2 h;have :=om x y;have h3:eY y x<0:=oO
 exact h2 (kU h3 h)⟩
theorem Cg (Cx:Ctx)(hP:Cx.P=Tryz.prog)(l:List Dg)(hl:l.length<=2^40):ZD Cx 239 31 32 (jo l).flatten [.fn (.func 213) [] []] (λr ys=>r=false/\ys=(jo (uy l)).flatten):=Mo cD 32 (λ_=>rfl) ahC Tryz.sortD239 dD Tryz.isAgg31 Tryz.sizeOf31 eY alP (λx y h1 h2=>by have :=om x y;exact mS oO) 213 (enters_of Tryz.func213 kK rfl) YB Cx hP ⟨_,Tryz.func239,rfl,rfl⟩ 31 l oO
theorem FE (l:List Dg):(uy l).length=l.length:=List.length_mergeSort _
theorem Sl {n:Nat}(h:n<2^62):IntKind.u64.wrap (n:Int)=(n:Int):=by simp[IntKind.wrap,IntKind.bits,IntKind.signed];omega
theorem acO (n:Nat):(n:Int).fdiv (2^(min (1:Int).toNat IntKind.u64.bits))=((n/2:Nat):Int):=by show(n:Int).fdiv (2^1)=_;rw[DE _ dD];omega
theorem wF (x y:bD):ak C 117 [.agg (cA x),.agg (cA y)] (λr=>r=.val (.int .i64 (gN x.id y.id))):=by refine ag Tryz.func117 rfl rfl rfl ?_;refine cl (LS x.id y.id) ?_;exact rfl
def Sm (l:List bD):Prop:=∀(i j:Nat)(hi:i<j)(hj:j<l.length),gN (l[i]'oO).id l[j].id<0
theorem Sm.ge {l:List bD}(h:Sm l){i j:Nat}(hi:i<j)(hj:j<l.length):¬gN l[j].id (l[i]'oO).id<0:=by have h1:=h i j hi hj;have :=rz (l[i]'oO).id l[j].id;omega
abbrev yu:AV:=.fn (.func 117) [] []
section
variable (l:List bD)(hs:Sm l)(hl:l.length<=2^40)
include hs hl
theorem YH (a b:Nat)(hb:b<=l.length)(hab:a<=2^40):ak C 181 [.sl (eU l),.int .i64 (a:Int),.int .i64 (b:Int),yu] (λr=>r=.val (.eV [])):=by
 unfold eU;refine ag Tryz.func181 rfl rfl rfl ?_;refine nx (a+1) ?_;refine bu 53 (λi:Nat=>[(0,.p (.sl (l.map cA))),(1,.p (.int .i64 a)),(2,.p (.int .i64 b)),(3,.p yu),(8,.p (.int .i64 i))]) (λ_=>[]) (λi=>a+1<=i/\(i<=b\/i=a+1)) (λi=>b-i) (a+1) ⟨ay _,.inr rfl⟩ rfl wS trivial ?_;rintro i ⟨hi1,hi2⟩;refine az (λhlt=>?_) (λhge=>?_);have hlt:i<b:=by have :(i:Int)<(b:Int):=hlt;omega
 refine bu 53 (λ_:Unit=>[(0,.p (.sl (l.map cA))),(1,.p (.int .i64 a)),(2,.p (.int .i64 b)),(3,.p yu),(8,.p (.int .i64 i)),(9,.p (.int .i64 i))]) (λ_=>[]) (λ_=>True) (λ_=>0) () trivial rfl wS trivial ?_;intro _ _;have yW:i<l.length:=oO
 refine cm 17 kK ?_;refine az (λh=>?_) (λh=>absurd (show(i:Int)>(a:Int)by omega) h);refine ix yW ?_;refine nx (i-1) ?_;refine⟨oO,_,ct rfl (oO:i-1<l.length),rfl,?_⟩;refine⟨_,wF l[i] l[i-1],?_⟩;refine az (λh=>absurd h (hs.ge oO yW)) (λ_=>?_);exact nx (i+1) (aO (i+1) ⟨oO,.inl hlt⟩ oO rfl wS trivial);exact rfl
theorem YI:∀(n a m b:Nat),b-a<=n->a<m->m<b->b<=l.length->ak C 182 [.sl (eU l),.int .i64 (a:Int),.int .i64 (m:Int),.int .i64 (b:Int),yu] (λr=>r=.val (.eV [])):=by
 intro n;induction n with
 |zero=>intro a m b h1 h2 h3 h4;omega
 |succ n ih=>
  intro a m b hn ham hmb hb;have ih2:=ih;unfold eU at ih2⊢;refine bn {opens:=[],BB:=[],full:=false} [12,24,27,38] Tryz.func182 rfl rfl rfl ?_;refine nx (m-a) ?_;refine aA (λ_=>?_) (λh1=>?_);refine bu 220 (λj:Nat=>[(0,.p (.sl (l.map cA))),(1,.p (.int .i64 a)),(2,.p (.int .i64 m)),(3,.p (.int .i64 b)),(4,.p yu),(10,.p (.int .i64 m)),(11,.p (.int .i64 j))]) (λ_=>[]) (λj=>m<=j/\j<=b) (λj=>j) b ⟨oO,ay _⟩ rfl wS trivial ?_;rintro j ⟨hj1,hj2⟩;refine az (λhlt=>?_) (λhge=>?_);have hlt:m<j:=by have :(m:Int)<(j:Int):=hlt;omega
  refine nx (m+j) ?_;refine⟨((m+j:Nat):Int),Sl oO,?_⟩;refine⟨dD,(((m+j)/2:Nat):Int),acO _,?_⟩;refine⟨(((m+j)/2:Nat):Int),by rw[wrap64 oO oO],?_⟩;have hh:(m+j)/2<l.length:=oO
  refine cm 11 kK ?_;refine ix hh ?_;refine⟨oO,_,ct rfl (oO:a<l.length),rfl,?_⟩;refine⟨_,(wF l[(m+j)/2] l[a]).dN,?_⟩;refine az (λh=>absurd h (hs.ge oO hh)) (λ_=>?_);exact aO ((m+j)/2) ⟨oO,oO⟩ oO rfl wS trivial;refine bu 220 (λ_:Unit=>[(10,.p (.int .i64 m)),(13,.p (.int .i64 a))]) (λ_=>[]) (λ_=>True) (λ_=>0) () trivial rfl wS trivial ?_;intro _ _;refine nx (m-1) ?_;refine az (λh=>absurd h oO) (λ_=>?_);exact rfl;have h1:¬((m-a:Nat):Int)=1:=h1;refine dL 220 [(0,.p (.sl (l.map cA))),(1,.p (.int .i64 a)),(2,.p (.int .i64 m)),(3,.p (.int .i64 b)),(4,.p yu)] [] rfl wS trivial ?_;refine nx (b-m) ?_;refine aA (λ_=>?_) (λh2=>?_);refine bu 220 (λi:Nat=>[(0,.p (.sl (l.map cA))),(1,.p (.int .i64 a)),(2,.p (.int .i64 m)),(3,.p (.int .i64 b)),(4,.p yu),(14,.p (.int .i64 i)),(15,.p (.int .i64 m))]) (λ_=>[]) (λi=>i<=m) (λi=>m-i) a oO rfl wS trivial ?_;intro i hi;refine az (λhlt=>?_) (λhge=>?_);have hlt:i<m:=by have :(i:Int)<(m:Int):=hlt;omega
  refine nx (i+m) ?_;refine⟨((i+m:Nat):Int),Sl oO,?_⟩;refine⟨dD,(((i+m)/2:Nat):Int),acO _,?_⟩;refine⟨(((i+m)/2:Nat):Int),by rw[wrap64 oO oO],?_⟩;have hh:(i+m)/2<m:=oO
  refine cm 12 kK ?_;refine⟨oO,_,ct rfl (oO:m<l.length),rfl,?_⟩;refine⟨oO,_,ct rfl (oO:(i+m)/2<l.length),rfl,?_⟩;refine⟨_,(wF l[m] l[(i+m)/2]).dN,?_⟩;refine az (λh=>absurd h (hs.ge hh oO)) (λ_=>?_);refine bl ?_;exact nx ((i+m)/2+1) (aO ((i+m)/2+1) oO oO rfl wS trivial);have hge:i=m:=by have :¬(i:Int)<(m:Int):=hge;omega
  subst hge;refine bu 220 (λ_:Unit=>[(14,.p (.int .i64 i)),(17,.p (.int .i64 i))]) (λ_=>[]) (λ_=>True) (λ_=>0) () trivial rfl wS trivial ?_;intro _ _;refine az (λh=>absurd h oO) (λ_=>?_);exact rfl;have h2:¬((b-m:Nat):Int)=1:=h2;refine dL 220 [(0,.p (.sl (l.map cA))),(1,.p (.int .i64 a)),(2,.p (.int .i64 m)),(3,.p (.int .i64 b)),(4,.p yu)] [] rfl wS trivial ?_;refine nx (a+b) ?_;refine⟨((a+b:Nat):Int),Sl oO,?_⟩;refine⟨dD,(((a+b)/2:Nat):Int),acO _,?_⟩;refine⟨(((a+b)/2:Nat):Int),by rw[wrap64 oO oO],?_⟩;refine nx ((a+b)/2+m) ?_;generalize hmid:(a+b)/2=c;refine dL 220 [(0,.p (.sl (l.map cA))),(1,.p (.int .i64 a)),(2,.p (.int .i64 m)),(3,.p (.int .i64 b)),(4,.p yu),(18,.p (.int .i64 (c:Int))),(19,.p (.int .i64 ((c+m:Nat):Int)))] [] rfl wS trivial ?_;refine az (λhmc=>?_) (λhmc=>?_);have hmc:c<m:=by have :(m:Int)>(c:Int):=hmc;omega
  refine nx (c+m-b) ?_;refine nx (c+m-1) ?_;refine bu 220 (λx:Nat=>[(0,.p (.sl (l.map cA))),(1,.p (.int .i64 a)),(2,.p (.int .i64 m)),(3,.p (.int .i64 b)),(4,.p yu),(18,.p (.int .i64 (c:Int))),(19,.p (.int .i64 ((c+m:Nat):Int))),(20,.p (.int .i64 x)),(21,.p (.int .i64 (c:Int))),(22,.p (.int .i64 ((c+m-1:Nat):Int)))]) (λ_=>[]) (λx=>x<=c/\c+m<=x+b) (λx=>c-x) (c+m-b) ⟨oO,oO⟩ rfl wS trivial ?_;rintro x ⟨hx,hxb⟩;refine az (λhlt=>?_) (λhge=>?_);have hlt:x<c:=by have :(x:Int)<(c:Int):=hlt;omega
  refine nx (x+c) ?_;refine⟨((x+c:Nat):Int),Sl oO,?_⟩;refine⟨dD,(((x+c)/2:Nat):Int),acO _,?_⟩;refine⟨(((x+c)/2:Nat):Int),by rw[wrap64 oO oO],?_⟩;generalize hq:(x+c)/2=q;refine cm 14 kK ?_;refine nx (c+m-1-q) ?_;have hpq:c+m-1-q<l.length:=oO
  refine ix hpq ?_;refine⟨oO,_,ct rfl (oO:q<l.length),rfl,?_⟩;refine⟨_,(wF l[c+m-1-q] l[q]).dN,?_⟩;refine az (λh=>absurd h (hs.ge oO hpq)) (λ_=>?_);refine bl ?_;exact nx (q+1) (aO (q+1) ⟨oO,oO⟩ oO rfl wS trivial);obtain rfl:x=c:=by have :¬(x:Int)<(c:Int):=hge;omega
  refine dL 220 [(0,.p (.sl (l.map cA))),(1,.p (.int .i64 a)),(2,.p (.int .i64 m)),(3,.p (.int .i64 b)),(4,.p yu),(18,.p (.int .i64 (x:Int))),(19,.p (.int .i64 ((x+m:Nat):Int))),(20,.p (.int .i64 (x:Int)))] [] rfl wS trivial ?_;refine⟨(m:Int),by rw[wrap64 oO oO];omega,?_⟩;refine⟨none,?_⟩;refine az (λ_=>?_) (λh=>absurd (show(x:Int)<(m:Int)by omega) h);refine az (λh=>absurd h oO) (λ_=>?_);refine⟨none,?_⟩;refine az (λ_=>?_) (λh=>absurd (show(a:Int)<(x:Int)by omega) h);refine az (λh=>absurd h oO) (λ_=>?_);refine⟨none,?_⟩;refine az (λ_=>?_) (λh=>absurd (show(x:Int)<(m:Int)by omega) h);refine az (λ_=>?_) (λh=>absurd (show(m:Int)<(b:Int)by omega) h);refine cl (ih2 x m b oO oO hmb hb).dN ?_;exact rfl;have hmc:m<=c:=by have :¬(m:Int)>(c:Int):=hmc;omega
  refine nx (c+m-1) ?_;refine bu 220 (λx:Nat=>[(0,.p (.sl (l.map cA))),(1,.p (.int .i64 a)),(2,.p (.int .i64 m)),(3,.p (.int .i64 b)),(4,.p yu),(18,.p (.int .i64 (c:Int))),(19,.p (.int .i64 ((c+m:Nat):Int))),(20,.p (.int .i64 x)),(21,.p (.int .i64 (m:Int))),(22,.p (.int .i64 ((c+m-1:Nat):Int)))]) (λ_=>[]) (λx=>x<=m/\c+m<=x+b) (λx=>m-x) a ⟨oO,oO⟩ rfl wS trivial ?_;rintro x ⟨hx,hxb⟩;refine az (λhlt=>?_) (λhge=>?_);have hlt:x<m:=by have :(x:Int)<(m:Int):=hlt;omega
  refine nx (x+m) ?_;refine⟨((x+m:Nat):Int),Sl oO,?_⟩;refine⟨dD,(((x+m)/2:Nat):Int),acO _,?_⟩;refine⟨(((x+m)/2:Nat):Int),by rw[wrap64 oO oO],?_⟩;generalize hq:(x+m)/2=q;refine cm 14 kK ?_;refine nx (c+m-1-q) ?_;have hpq:c+m-1-q<l.length:=oO
  refine ix hpq ?_;refine⟨oO,_,ct rfl (oO:q<l.length),rfl,?_⟩;refine⟨_,(wF l[c+m-1-q] l[q]).dN,?_⟩;refine az (λh=>absurd h (hs.ge oO hpq)) (λ_=>?_);refine bl ?_;exact nx (q+1) (aO (q+1) ⟨oO,oO⟩ oO rfl wS trivial);obtain rfl:x=m:=by have :¬(x:Int)<(m:Int):=hge;omega
  refine dL 220 [(0,.p (.sl (l.map cA))),(1,.p (.int .i64 a)),(2,.p (.int .i64 x)),(3,.p (.int .i64 b)),(4,.p yu),(18,.p (.int .i64 (c:Int))),(19,.p (.int .i64 ((c+x:Nat):Int))),(20,.p (.int .i64 (x:Int)))] [] rfl wS trivial ?_;refine⟨(c:Int),by rw[wrap64 oO oO];omega,?_⟩;refine⟨none,?_⟩;refine az (λh=>absurd h oO) (λ_=>?_);refine⟨none,?_⟩;refine az (λ_=>?_) (λh=>absurd (show(a:Int)<(x:Int)by omega) h);refine az (λhxc=>?_) (λhxc=>?_);have hxc:x<c:=by have :(x:Int)<(c:Int):=hxc;omega
  refine cl (ih2 a x c oO oO hxc oO).dN ?_;refine⟨none,?_⟩;refine az (λh=>absurd h oO) (λ_=>?_);exact rfl;refine⟨none,?_⟩;refine az (λh=>absurd h oO) (λ_=>?_);exact rfl
theorem OS:ak C 145 [.sl (eU l),.int .i64 (l.length:Int),yu] (λr=>r=.val (.eV [])):=by
 have hi:=YH l hs hl;have hy:=λa m b=>YI l hs hl (b-a) a m b (ay _);unfold eU at hi hy⊢;refine ag Tryz.func145 rfl rfl rfl ?_;refine bu 63 (λa:Nat=>[(0,.p (.sl (l.map cA))),(1,.p (.int .i64 (l.length:Int))),(2,.p yu),(6,.p (.int .i64 20)),(7,.p (.int .i64 a)),(8,.p (.int .i64 ((a+20:Nat):Int)))]) (λ_=>[]) (λa=>a<=l.length) (λa=>l.length-a) 0 (zL) rfl wS trivial ?_;intro a ha;refine az (λhle=>?_) (λhgt=>?_);have hle:a+20<=l.length:=by have :((a+20:Nat):Int)<=(l.length:Int):=hle;omega
 refine cl (hi a (a+20) hle oO) ?_;exact nx (a+20+20) (aO (a+20) hle oO rfl wS trivial);refine cl (hi a l.length (ay _) oO) ?_;refine bu 63 (λt:Nat=>[(0,.p (.sl (l.map cA))),(1,.p (.int .i64 (l.length:Int))),(2,.p yu),(6,.p (.int .i64 (t:Int)))]) (λ_=>[]) (λt=>20<=t/\t<=2^42) (λt=>l.length-t) 20 ⟨ay _,dD⟩ rfl wS trivial ?_;rintro t ⟨ht1,ht2⟩;refine az (λhlt=>?_) (λhge=>?_);have hlt:t<l.length:=by have :(t:Int)<(l.length:Int):=hlt;omega
 refine nx (2*t) ?_;refine bu 63 (λa:Nat=>[(0,.p (.sl (l.map cA))),(1,.p (.int .i64 (l.length:Int))),(2,.p yu),(6,.p (.int .i64 (t:Int))),(7,.p (.int .i64 a)),(8,.p (.int .i64 ((a+2*t:Nat):Int)))]) (λ_=>[]) (λa=>a<=l.length) (λa=>l.length-a) 0 (zL) rfl ⟨aF.refl _,aF.refl _,aF.refl _,aF.refl _,aF.refl _,aF.eq (by rw[cM];rfl),trivial⟩ trivial ?_;intro a ha;refine az (λhle=>?_) (λhgt=>?_);have hle:a+2*t<=l.length:=by have :((a+2*t:Nat):Int)<=(l.length:Int):=hle;omega
 refine nx (a+t) ?_;refine cl (hy a (a+t) (a+2*t) oO oO hle) ?_;refine nx (2*t) ?_;exact nx (a+2*t+2*t) (aO (a+2*t) hle oO rfl wS trivial);refine nx (a+t) ?_;refine az (λdI=>?_) (λtA=>?_);have dI:a+t<l.length:=by have :((a+t:Nat):Int)<(l.length:Int):=dI;omega
 refine cl (hy a (a+t) l.length oO dI (ay _)) ?_;exact nx (t*2) (aO (t*2) ⟨oO,oO⟩ oO rfl wS trivial);exact nx (t*2) (aO (t*2) ⟨oO,oO⟩ oO rfl wS trivial);exact rfl
theorem Er:ak C 116 [.sl (eU l),yu] (λr=>r=.val (.eV [])):=by have h:=OS l hs hl;refine ag Tryz.func116 rfl rfl rfl ?_;refine cl (by rw[show(((eU l).length:Nat):Int)=(l.length:Int)from by simp[eU]];exact h) ?_;exact rfl
end
section
variable (A:ga->List bD)
def WN (s:List bO):Prop:=∀x,x∈s->ak C 93 [.agg (cP x.pat)] (λr=>r=.own (some [.int .i64 0]) 48 172 (eU (A x.pat)))
def wG (s:List bO):List bD:=s.flatMap λx=>A x.pat
theorem YK {s:List bO}{k:Nat}(h:k<s.length):wG A (s.take (k+1))=wG A (s.take k)++A s[k].pat:=by unfold wG;rw[ec h,oc];simp
theorem UR (s:List bO)(hA:WN A s)(hn:∀x,x∈s->A x.pat≠[])(hs:Sm (wG A s))(hl:s.length<=2^10)(hAl:∀x,x∈s->(A x.pat).length<=2^22):ak C 90 [.sl (cn s)] (λr=>(s=[]/\r=.val (.sl []))\/r=.own none 48 172 (eU (wG A s))):=by
 unfold cn;refine bn {opens:=[22],BB:=[],full:=false} [] Tryz.func90 rfl rfl rfl ?_;refine bu 27 (λx:Nat×Bool×List bD=>[(3,match x.2.1 with|true=>.fe 22 48 172|false=>.full []),(8,.p (.sl (s.map mh))),(9,.p (.int .i64 ((s.map mh).length:Int))),(10,.p (.int .i64 x.1))]) (λx=>match x.2.1 with|true=>[(22,bW x.2.2)]|false=>[]) (λx=>x.1<=s.length/\x.2.2=wG A (s.take x.1)/\(x.2.1=false->x.1=0)/\x.2.2.length<=2^22*x.1) (λx=>s.length-x.1) (0,false,[]) ⟨zL,rfl,λ_=>rfl,zL⟩ kK wS trivial ?_;rintro⟨k,b,L⟩ ⟨hk,hL,hb,hLl⟩;have hk:k<=s.length:=hk;have hL:L=wG A (s.take k):=hL;have hLl:L.length<=2^22*k:=hLl;refine bQ (l:=s) (f:=mh) (λhlt=>?_) (λhge=>?_);have hAx:=hA s[k] (aK _);have BK:=hn s[k] (aK _);have GX:=hAl s[k] (aK _);have iX:(s.map mh)[((k:Nat):Int).toNat]?=some (mh s[k]):=ct rfl hlt;have NF:=YK A hlt;rw[<-hL]at NF;generalize s[k]=x at hAx BK GX iX NF;have hkk:2^22*k<=2^22*2^10:=jv _ oO;cases b with
 |false=>obtain rfl:k=0:=hb rfl;obtain rfl:L=[]:=bK.1 oO;refine⟨oO,_,iX,rfl,?_⟩;refine cl hAx.dN ?_;generalize A x.pat=M at BK GX NF;have hpos:0<M.length:=jr.2 BK;refine⟨bW M,rfl,?_⟩;refine⟨M.length,hpos,jN M,Mf M,by show M.length*296<=_;omega,bW M,qw M _,?_⟩;exact⟨1,dD,aO (1,true,M) ⟨hlt,NF.symm,(λh=>nomatch h),by show M.length<=2^22*1;omega⟩ (by show s.length-1<s.length-0;omega) kK wS oS⟩
 |true=>refine⟨oO,_,iX,rfl,?_⟩;refine cl hAx.dN ?_;generalize A x.pat=M at BK GX NF;refine⟨bW M,rfl,?_⟩;refine⟨L.length,M.length,by rw[qw,qw];exact jN L,jN M,Mf M,by show(L.length+M.length)*296<=_;omega,bW (L++M),by rw[qw,qw,<-sr];exact qw _ _,?_⟩;exact nx (k+1) (aO (k+1,true,L++M) ⟨hlt,NF.symm,(λh=>nomatch h),by show(L++M).length<=2^22*(k+1);rw[aq];omega⟩ (by show s.length-(k+1)<s.length-k;omega) kK wS oS)
 obtain rfl:k=s.length:=oO
 rw[aJ]at hL;subst hL;have hkk:2^22*s.length<=2^22*2^10:=jv _ hl;cases b with
 |false=>have h0:s=[]:=bK.1 (hb rfl);subst h0;refine cl (Er [] hs (zL)).dN ?_;exact .inr (.inl ⟨rfl,rfl⟩)
 |true=>refine .inr (.inl (.inr ⟨[.sl (eU (wG A s)),yu],_,.cons (.fe rfl (.plain (bk _)) (jW _)) (.cons (.plain rfl) .nil),(Er (wG A s) hs oO).dN,λr hr=>?_⟩));subst hr;refine⟨⟨_,rfl,rfl⟩,?_⟩;exact⟨eU (wG A s),jW _,bk _,.inr rfl⟩
theorem YL (a:bD)(x:bg):ak C 94 [.agg (cA a),.imp (cI x)] (λr=>r=.val (.bool (decide (a.id=x)))):=by refine ag Tryz.func94 rfl rfl rfl ?_;refine ou ?_;refine iu (a:=a.id) (b:=x) ?_;exact rfl
def JO (s:List bO)(x:bg):bD×Bool:=match s.find? λy=>decide (y.id=x.p)with|none=>(ef,false)|some y=>match(A y.pat).find? λa=>decide (a.id=x)with|none=>(ef,false)|some a=>(a,true)
theorem US (s:List bO)(d:Dg)(hx:s.find? (λx=>decide (x.id=d))=none)(hl:s.length<=2^40):ak C 92 [.sl (cn s),.agg (cD d)] (λr=>r=.val (.eV [.agg [.str [],.str [],.int .i64 0,.sl [],.sl []],.bool false])):=by unfold cn;refine ag Tryz.func92 rfl rfl rfl ?_;refine⟨[3],cu (cells:=aH (cD d)) (ys:=cD d) rfl (bk _) rfl ?_⟩;refine cl (JI s 120 (.imp (cD d)) (λx=>decide (x.id=d)) (λx _=>MA x d) oO) ?_;rcases tU (λx:bO=>decide (x.id=d)) s 0 with⟨h1,-⟩|⟨k,hk,-,h2⟩;rw[h1];refine az (λ_=>?_) (λh=>absurd (show(-1:Int)<0 by decide) h);exact rfl;rw[hx]at h2;cases h2
theorem YM (s:List bO)(x:bg)(hA:∀y,y∈s->ak C 93 [.agg (cP y.pat)] (λr=>r=.val (.eV [.sl (eU (A y.pat)),.int .i64 0])))(hl:s.length<=2^40)(hAl:∀x,x∈s->(A x.pat).length<=2^40):ak C 58 [.sl (cn s),.agg (cI x)] (λr=>r=.val (.eV [.agg (cA (JO A s x).1),.bool (JO A s x).2])):=by
 obtain⟨E,hE⟩:∃E,JO A s x=E:=⟨_,rfl⟩;rw[hE];have hE:E=JO A s x:=hE.symm;unfold JO at hE;refine bn {opens:=[],BB:=[],full:=false} [] Tryz.func58 rfl rfl rfl ?_;cases hg:s.find? (λy=>decide (y.id=x.p))with
 |none=>refine cl (US s x.p hg hl).dN ?_;rw[hg]at hE;have hE:E=(ef,false):=hE;rw[hE];refine bl ?_;exact rfl
 |some y=>have hy:=oq hg;have hAy:=hA y hy;have alZ:=hAl y hy;refine cl (Sd s y x.p hg hl).dN ?_;refine bl ?_;refine cl hAy.dN ?_;rw[hg]at hE;have hE:E=(match(A y.pat).find? λa=>decide (a.id=x)with|none=>(ef,false)|some a=>(a,true)):=hE;generalize A y.pat=M at alZ hE⊢;unfold eU;refine⟨[3],cu (cells:=aH (cI x)) (ys:=cI x) rfl (bk _) rfl ?_⟩;refine cl (AT M 94 (.imp (cI x)) (λa=>decide (a.id=x)) (λa _=>YL a x) oO).dN ?_;rcases tU (λa:bD=>decide (a.id=x)) M 0 with⟨h1,h2⟩|⟨k,hk,h1,h2⟩;rw[h2]at hE;have hE:E=(ef,false):=hE;rw[h1,hE];refine az (λ_=>?_) (λh=>absurd (show(-1:Int)<0 by decide) h);exact rfl;rw[h2]at hE;have hE:E=(M[k],true):=hE;rw[h1,hE];refine az (λh=>absurd h oO) (λ_=>?_);refine⟨oO,cA M[k],by rw[cM];exact ct rfl hk,rfl,?_⟩;exact rfl
end
abbrev oD (s:List bO):Prop:=s.Pairwise λa b=>eY a.id b.id<0
theorem pT:∀{l:List Int},eo l=0↔∀e,e∈l->e=0|[]=>⟨λ_ e h=>(by cases h),λ_=>rfl⟩|a::l=>by by_cases h:a=0;rw[eZ h,pT];constructor;intro g e he;rcases aQ.1 he with rfl|he;exact h;exact g e he;exactλg e he=>g e (bq _ he);rw[eu h];exact⟨λg=>absurd g h,λg=>g a (by simp)⟩
structure OkS (s:List bO):Prop where
 OK:s.length<=400
 EH:oD s
 id:∀x,x∈s->oe x.pat=(x.id,0)
 GL:∀x,x∈s->∀d,d∈cw x.pat->d∈dx s
 order:(bA s).length=s.length
 refs:∀x,x∈s->vb s x.pat x.id=0
theorem acH {s:List bO}(h:xX s=0):OkS s:=by
 unfold xX at h;by_cases h1:400<s.length;rw[af h1]at h;exact absurd h dD;rw[aa h1]at h;by_cases h2:eo ((List.range s.length).map (Fu s))≠0;rw[af h2]at h;exact absurd h h2;rw[aa h2]at h;by_cases h3:s.all (λx=>sn (dx s) (cw x.pat))=false;rw[af h3]at h;exact absurd h dD;rw[aa h3]at h;by_cases h4:(bA s).length<s.length;rw[af h4]at h;exact absurd h dD;rw[aa h4]at h;have h2:=pT.1 (fE.1 h2);have hst:∀(i:Nat)(hi:i<s.length),oe s[i].pat=(s[i].id,0)/\(0<i->eY (s.getD (i-1) ri).id s[i].id<0):=λi hi=>by have :=h2 (Fu s i) (aI.2 ⟨i,iR.2 hi,rfl⟩);unfold Fu at this;rw[show s.getD i ri=s[i]from by simp[List.getD,hi]]at this;by_cases k1:(oe s[i].pat).2≠0;rw[af k1]at this;exact absurd this k1;rw[aa k1]at this;by_cases k2:(oe s[i].pat).1≠s[i].id;rw[af k2]at this;exact absurd this dD;rw[aa k2]at this;have k2:=fE.1 k2;refine⟨Prod.ext k2 (fE.1 k1),λh0=>?_⟩;rw[k2]at this;by_cases k3:0<i/\0<=eY (s.getD (i-1) ri).id s[i].id;rw[af k3]at this;exact absurd this dD;omega
 refine⟨oO,?_,λx hx=>?_,λx hx d hd=>?_,?_,λx hx=>?_⟩;have step:∀(i:Nat)(h1:i+1<s.length),eY s[i].id s[i+1].id<0:=λi h1=>by have :=(hst (i+1) h1).2 (Nat.succ_pos _);rw[Ei,show s.getD i ri=s[i]from by simp[List.getD,show i<s.length by omega]]at this;exact this
 refine tI.2 ?_;intro i j hi hj hij;have :∀(k:Nat)(hk:i+1+k<s.length),eY s[i].id s[i+1+k].id<0:=λk=>by
  induction k with
  |zero=>exactλhk=>step i hk
  |succ k ih=>exactλhk=>kU (ih oO) (step (i+1+k) hk)
 have :=this (j-(i+1)) oO;rw[show s[i+1+(j-(i+1))]=s[j]from by congr 1;omega]at this;exact this;obtain⟨i,hi,rfl⟩:=gz hx;exact(hst i hi).1;have h3:s.all (λx=>sn (dx s) (cw x.pat))=true:=by simpa using h3
 have :=bY.1 h3 x hx;unfold sn at this;simpa using bY.1 this d hd;have :=pG s;omega;exact pT.1 h _ (gY _ (aI.2 ⟨x,hx,rfl⟩))
theorem OR {s:List bO}(h:oD s):(dx s).Nodup:=by unfold dx;rw[List.nodup_iff_pairwise_ne];exact List.pairwise_map.2 (h.imp λ{a b} g e=>by rw[e]at g;exact kP _ g)
theorem JK {s:List bO}(h:oD s){x y:bO}(hx:x∈s)(hy:y∈s)(e:x.id=y.id):x=y:=by
 induction s with
 |nil=>cases hx
 |cons z s ih=>obtain⟨h1,h2⟩:=dZ.1 h;rcases aQ.1 hx with hxz|hx2;rcases aQ.1 hy with hyz|hy2;rw[hxz,hyz];have :=h1 y hy2;rw[<-hxz,e]at this;exact absurd this (kP _);rcases aQ.1 hy with hyz|hy2;have :=h1 x hx2;rw[<-hyz,e]at this;exact absurd this (kP _);exact ih h2 hx2 hy2
theorem nH {s:List bO}(h:oD s){x:bO}(hx:x∈s):gh s x.id=(x.pat,true):=by
 induction s with
 |nil=>cases hx
 |cons z s ih=>obtain⟨h1,h2⟩:=dZ.1 h;unfold gh;rcases aQ.1 hx with rfl|hx;rw[af rfl];rw[aa λe=>?_,ih h2 hx];have :=h1 x hx;rw[e]at this;exact kP _ this
theorem FI {s:List bO}{d:Dg}(h:d∉dx s):gh s d=(DR,false):=by
 induction s with
 |nil=>rfl
 |cons z s ih=>unfold gh;rw[aa λe=>h (by unfold dx;simp[e]),ih λg=>h (by unfold dx at*;simp at g⊢;exact .inr g)]
def qL (out:List Dg)(x:bO):Bool:=!decide (x.id∈out)&&sn out (cw x.pat)
def uz (s:List bO):Nat->List Dg->List Dg|0,out=>out|n+1,out=>match s.find? (qL out)with|none=>out|some x=>uz s n (out++[x.id])
theorem GM {out:List Dg}{y:bO}:∀{l:List bO},(∀x,x∈l->eY y.id x.id<0)->oQ out l (some y)=some y|[],_=>rfl|x::l,h=>by unfold oQ;rw[aa,GM λz hz=>h z (bq _ hz)];unfold Jo;simp only[aW,decide_eq_true_eq,not_and];intro _ _ g;exact kP _ (kU g (h x (by simp)))
theorem Cl {out:List Dg}:∀{l:List bO},oD l->oQ out l none=l.find? (qL out)
 |[],_=>rfl
 |x::l,h=>by
  obtain⟨h1,h2⟩:=dZ.1 h;unfold oQ;rw[mw,show Jo out x none=qL out x from rfl];cases hq:qL out x with
  |true=>rw[af rfl,GM h1]
  |false=>rw[aa dD,Cl h2]
theorem En {s:List bO}(h:oD s):∀(n:Nat)(out:List Dg),uz s n out=pg s n out
 |0,_=>rfl
 |n+1,out=>by
  unfold uz pg;rw[Cl h];cases s.find? (qL out)with
  |none=>rfl
  |some x=>exact En h n _
theorem Ao {s:List bO}(h:oD s):∀(n:Nat)(out:List Dg),out.Nodup->(∀d,d∈out->d∈dx s)->(pg s n out).Nodup/\(∀d,d∈pg s n out->d∈dx s)
 |0,out,h1,h2=>⟨h1,h2⟩
 |n+1,out,h1,h2=>by
  unfold pg;rw[Cl h];cases hq:s.find? (qL out)with
  |none=>exact⟨h1,h2⟩
  |some x=>have hx:=oq hq;have hn:=mz hq;unfold qL at hn;simp only[aW,eC,decide_eq_false_iff_not]at hn;refine Ao h n _ ?_ λd hd=>?_;rw[kz];refine⟨h1,by simp,λa ha b hb e=>?_⟩;obtain rfl:=aS.1 hb;subst e;exact hn.1 ha;rcases bh.1 hd with hd|hd;exact h2 d hd;obtain rfl:=aS.1 hd;exact aI.2 ⟨x,hx,rfl⟩
theorem sv {α:Type}[DecidableEq α]:∀{l m:List α},l.Nodup->(∀x,x∈l->x∈m)->l.length<=m.length|[],_,_,_=>zL|x::l,m,h1,h2=>by obtain⟨g1,g2⟩:=kD.1 h1;have hx:x∈m:=h2 x (by simp);have :=sv (m:=m.erase x) g2 λy hy=>(List.mem_erase_of_ne (λ(e:y=x)=>g1 (e▸hy))).2 (h2 y (bq _ hy));rw[List.length_erase_of_mem hx]at this;have hpos:=List.length_pos_of_mem hx;simp only[aL];omega
theorem UJ {α:Type}[DecidableEq α]:∀{l m:List α},l.Nodup->(∀x,x∈l->x∈m)->m.length<=l.length->∀x,x∈m->x∈l:=by
 intro l m h1 h2 h3 x hx;refine iU λhn=>?_;have h4:(x::l).Nodup:=kD.2 ⟨hn,h1⟩;have h5:(x::l).length<=m.length:=sv h4 λy hy=>by rcases aQ.1 hy with rfl|hy;exact hx;exact h2 y hy
 simp only[aL]at h5;omega
theorem rF {s:List bO}(h:OkS s)(d:Dg):d∈bA s↔d∈dx s:=by
 obtain⟨h1,h2⟩:=Ao h.EH s.length [] qy λd hd=>by cases hd
 exact⟨h2 d,UJ h1 h2 (by rw[show(pg s s.length []).length=s.length from h.order];unfold dx;simp) d⟩
def kY (s:List bO)(d:Dg):List Dg:=cw (gh s d).1
def acK (s:List bO)(out:List Dg):List Dg:=(out.flatMap (kY s)).foldl jw out
def kW (s:List bO):Nat->List Dg->List Dg|0,out=>out|n+1,out=>acK s (kW s n out)
def JM (s:List bO)(d:Dg):List Dg:=kW s s.length [d]
theorem MB:∀{l:List bg}{acc:List Dg},Am acc->Am (l.foldl xU acc)|[],_,h=>h|x::l,acc,h=>MB (l:=l) (by unfold xU;split;exact h;exact RX h _)
theorem FJ (p:ga):Am (cw p):=by unfold cw;split;exact List.Pairwise.nil;exact MB (Ms List.Pairwise.nil)
theorem FK {s:List bO}(hc:∀x,x∈s->∀d,d∈cw x.pat->d∈dx s)(hA:oD s){out:List Dg}(h1:Am out)(h2:∀d,d∈out->d∈dx s)(l:List Dg)(hl:∀d,d∈l->d∈dx s):Am (l.foldl jw out)/\(∀d,d∈l.foldl jw out->d∈dx s):=by refine⟨Ms h1,λd hd=>?_⟩;rcases FB.1 hd with h|h;exact hl d h;exact h2 d h
theorem AW {s:List bO}(hc:∀x,x∈s->∀d,d∈cw x.pat->d∈dx s)(hA:oD s){e:Dg}(he:e∈dx s):∀d,d∈kY s e->d∈dx s:=by intro d hd;obtain⟨x,hx,rfl⟩:=aI.1 he;unfold kY at hd;rw[nH hA hx]at hd;exact hc x hx d hd
theorem rG {s:List bO}(hc:∀x,x∈s->∀d,d∈cw x.pat->d∈dx s)(hA:oD s){out:List Dg}(h1:Am out)(h2:∀d,d∈out->d∈dx s):∀n,Am (kW s n out)/\∀d,d∈kW s n out->d∈dx s|0=>⟨h1,h2⟩|n+1=>by obtain⟨a,b⟩:=rG hc hA h1 h2 n;refine FK hc hA a b _ λd hd=>?_;obtain⟨e,he,hd⟩:=cV.1 hd;exact AW hc hA (b e he) d hd
theorem wE {s:List bO}{l:List Dg}(h1:Am l)(h2:∀d,d∈l->d∈dx s):l.length<=s.length:=by
 have h3:l.Nodup:=h1.imp λ{a b} h e=>by subst e;exact kP a h
 have :=sv h3 h2;rwa[dx,aj]at this
theorem afy (s:List bO)(p:Dg)(hs:qH s)(hl:s.length<=400)(hA:oD s)(hc:∀x,x∈s->∀d,d∈cw x.pat->d∈dx s)(hp:p∈dx s):ak C 139 [.sl (cn s),.sl (jo [p])] (λr=>r=.val (.eV [.sl (jo (JM s p)),.int .i64 0])):=by
 have yW:(dx s).length=s.length:=by rw[dx,aj]
 refine ag Tryz.func139 rfl rfl rfl ?_;have hone:[p].length=1:=rfl;refine cl (Jm s oO) ?_;refine cl (Oq (dx s) [p] oO (by show 1<=2^47;decide)) ?_;have hall:sn (dx s) [p]=true:=by simp[sn,hp]
 refine bl ?_;rw[hall];refine bu 72 (λk:Nat=>[(0,.p (.sl (cn s))),(1,.p (.sl (jo [p]))),(6,.p (.sl (jo (([p].take k).foldl jw [])))),(7,.p (.int .i64 (k:Int)))]) (λ_=>[]) (λk=>k<=[p].length) (λk=>[p].length-k) 0 (zL) rfl ⟨aF.refl _,aF.refl _,aF.Gp _ _ _ _,aF.refl _,trivial⟩ trivial ?_;intro k hk;refine bQ (l:=[p]) (f:=cD) (λhlt=>?_) (λhge=>?_);have hb:(([p].take k).foldl jw []).length<=2^20:=by have :=nE ([p].take k) [];rw[aD]at this;simp only[br,aL]at this;omega
 refine ix hlt ?_;refine⟨_,DO _ [p][k] hb,λr hr=>?_⟩;rw[<-gx (f:=jw) hlt []]at hr;subst hr;exact nx (k+1) (aO (k+1) hlt oO rfl wS trivial);obtain rfl:k=[p].length:=oO
 have hin:∀n,Am (kW s n [p])/\∀d,d∈kW s n [p]->d∈dx s:=rG hc hA (mA _ _) (λd hd=>by rw[aS.1 hd];exact hp);refine bu 72 (λn:Nat=>[(0,.p (.sl (s.map mh))),(6,.p (.sl ((kW s n [p]).map cD))),(8,.p (.int .i64 (n:Int)))]) (λ_=>[]) (λn=>n<=s.length) (λn=>s.length-n) 0 (zL) rfl wS trivial ?_;intro n hn;refine bQ (l:=s) (f:=mh) (λhlt=>?_) (λhge=>?_);rotate_left;obtain rfl:n=s.length:=oO
 exact rfl;obtain⟨a1,a2⟩:=hin n;have hnext:kW s (n+1) [p]=((kW s n [p]).flatMap (kY s)).foldl jw (kW s n [p]):=rfl;have hnl:=wE a1 a2;generalize kW s n [p]=out at*;refine bu 72 (λi:Nat=>[(0,.p (.sl (s.map mh))),(6,.p (.sl (out.map cD))),(8,.p (.int .i64 (n:Int))),(9,.p (.sl (jo (((out.take i).flatMap (kY s)).foldl jw out)))),(10,.p (.int .i64 (i:Int)))]) (λ_=>[]) (λi=>i<=out.length) (λi=>out.length-i) 0 (zL) rfl wS trivial ?_;intro i hi;refine bQ (l:=out) (f:=cD) (λdI=>?_) (λtA=>?_);rotate_left;obtain rfl:i=out.length:=oO
 rw[aJ];exact nx (n+1) (aO (n+1) hlt oO rfl ⟨aF.refl _,aF.eq (by rw[hnext];rfl),aF.refl _,trivial⟩ trivial);have hm:=aK dI;have hfl:=ja (f:=kY s) dI;have b:=FK hc hA a1 a2 ((out.take i).flatMap (kY s)) λd hd=>by obtain⟨e,he,hd⟩:=cV.1 hd;exact AW hc hA (a2 e (sW he)) d hd
 have hnm:=AW hc hA (a2 _ hm);refine ix dI ?_;refine cl (DS s out[i] oO) ?_;have hfit:=Ad hs.each out[i];refine cl (DP _ hfit.sz hfit.enc) ?_;have hfl:((out.take (i+1)).flatMap (kY s)).foldl jw out=(kY s out[i]).foldl jw (((out.take i).flatMap (kY s)).foldl jw out):=by rw[hfl,tF]
 have hN:cw (gh s out[i]).1=kY s out[i]:=rfl;rw[hN];have hb:∀j,Am (((kY s out[i]).take j).foldl jw (((out.take i).flatMap (kY s)).foldl jw out))/\∀d,d∈((kY s out[i]).take j).foldl jw (((out.take i).flatMap (kY s)).foldl jw out)->d∈dx s:=λj=>FK hc hA b.1 b.2 _ λd hd=>hnm d (sW hd);generalize((out.take i).flatMap (kY s)).foldl jw out=more at b hfl hb⊢;have hLl:(kY s out[i]).length<=s.length:=wE (FJ _) hnm;generalize hL:kY s out[i]=L at*;refine bu 72 (λj:Nat=>[(0,.p (.sl (s.map mh))),(6,.p (.sl (out.map cD))),(8,.p (.int .i64 (n:Int))),(9,.p (.sl (jo ((L.take j).foldl jw more)))),(10,.p (.int .i64 (i:Int))),(13,.p (.sl (L.map cD))),(14,.p (.int .i64 (j:Int)))]) (λ_=>[]) (λj=>j<=L.length) (λj=>L.length-j) 0 (zL) rfl wS trivial ?_;intro j hj;refine bQ (l:=L) (f:=cD) (λhlt3=>?_) (λalX=>?_);rotate_left;obtain rfl:j=L.length:=oO
 rw[aJ];exact nx (i+1) (aO (i+1) dI oO rfl ⟨aF.refl _,aF.refl _,aF.refl _,aF.eq (by rw[hfl];rfl),aF.refl _,trivial⟩ trivial);have wM:=hb j;have hlen:=wE wM.1 wM.2;refine ix hlt3 ?_;refine⟨_,DO _ L[j] oO,λr hr=>?_⟩;rw[<-gx (f:=jw) hlt3 more]at hr;subst hr;exact nx (j+1) (aO (j+1) hlt3 oO rfl wS trivial)
def je (s:List bO)(p q:Dg):Bool:=decide (q∈dx s)&&decide (q∈JM s p)
theorem acL (s:List bO)(p q:Dg)(hs:qH s)(hl:s.length<=400)(hA:oD s)(hc:∀x,x∈s->∀d,d∈cw x.pat->d∈dx s)(hp:p∈dx s):ak C 109 [.sl (cn s),.agg (cD p),.agg (cD q)] (λr=>r=.val (.bool (je s p q))):=by
 have yW:(dx s).length=s.length:=by rw[dx,aj]
 have hin:=rG hc hA (mA (λa b=>eY a b<0) p) (λd hd=>by rw[aS.1 hd];exact hp) s.length;have jH:(JM s p).length<=s.length:=wE hin.1 hin.2;refine ag Tryz.func109 rfl rfl rfl ?_;refine cl (afy s p hs hl hA hc hp) ?_;refine cm 11 kK ?_;refine aA (λ_=>?_) (λg=>absurd rfl g);refine⟨_,Jm s oO,?_⟩;refine⟨_,Oo (dx s) q oO,?_⟩;unfold je;by_cases h:q∈dx s;rw[an h];refine cl (Oo (JM s p) q oO) ?_;exact rfl;rw[ah h];exact rfl
def ej (s:List bO)(x:bg):List bg:=if(pQ (cz s) x).2=true then oR (oT s) x else[]
theorem UL (s:List bO)(x:bg)(hs:qH s)(hl:s.length<=400)(hE:(oT s).length<=2^20):ak C 107 [.sl (cn s),.agg (cI x)] (λr=>r=.val (.sl (iq (ej s x)))):=by
 have AN:∀a,a∈oT s->a.over.length<=2^47:=λa ha=>by have :=rj a (tS ha);omega
 refine ag Tryz.func107 rfl rfl rfl ?_;refine cl (ae2 s x hs hl) ?_;unfold ej;refine bl ?_;cases h:(pQ (cz s) x).2;exact .inr rfl;refine cm 3 kK ?_;refine⟨_,abZ s hs hl,?_⟩;refine cl (WA (oT s) x hE AN) ?_;exact rfl
theorem nk.Eo {aZ:Nat->Nat->Prop}{B:Nat}{w':World}{v:Value}{T:TypeId}{bP:Nat}{xss:List (List AV)}{rest:List AV}(h:nk aZ B w' v (.own (some rest) T bP xss)):nk aZ B w' v (.val (.eV (.sl xss::rest))):=by
 obtain⟨b,c,cs,fr,us,rfl,hB,hbs,h0,hlen,Bn,hheap,hfr,hroom,hcells,qI⟩:=h;obtain⟨hl,hr⟩:=qI rest rfl;have hs:nk aZ B w' (.slice (some ⟨b,0,none⟩) xss.length c) (.val (.sl xss)):=nk.Ak (T:=T) (bP:=bP) ⟨b,c,cs,fr,[],rfl,hB,hbs,h0,hlen,Bn,hheap,hfr,hroom,hcells,λr hr=>by cases hr⟩;show dh (mF aZ B) w' (.tuple (.slice (some ⟨b,0,none⟩) xss.length c::us).toArray) (.eV (.sl xss::rest));refine .eV _ _ (by simp[hl]) λi u x h1 h2=>?_;cases i with
 |zero=>simp at h1 h2;subst h1;subst h2;exact hs
 |succ i=>exact(hr i u x (by simpa using h1) (by simpa using h2)).keep (λb' o h=>h.imp id λq=>q.1) (λ_ _ _ _ h=>h) (.refl _ _)
theorem ak.Eo {C:Ctx}{f:FuncId}{args:List AV}{T:TypeId}{bP:Nat}{xss:List (List AV)}{rest:List AV}(h:ak C f args λr=>r=.own (some rest) T bP xss):ak C f args λr=>r=.val (.eV (.sl xss::rest)):=⟨h.1,λaZ w vs h1 h2 h3 h4 h5=>(h.2 aZ w vs h1 h2 h3 h4 h5).mono λe w' ⟨v,r,q1,q2,q3,q4⟩=>by subst q2;exact⟨v,_,q1,rfl,nk.Eo q3,q4⟩⟩
def JL (out:List Dg)(d:Dg):List Dg:=if d∈out then out else out++[d]
def vB (out l:List Dg):List Dg:=l.foldl JL out
theorem acI {out:List Dg}{d x:Dg}:x∈JL out d↔x=d\/x∈out:=by unfold JL;split;rename_i h;exact⟨.inr,λg=>g.elim (λe=>e▸h) id⟩;rw[bh,aS];exact⟨λg=>g.elim .inr .inl,λg=>g.elim .inr .inl⟩
theorem wD {l out:List Dg}{x:Dg}:x∈vB out l↔x∈l\/x∈out:=by
 unfold vB;induction l generalizing out with
 |nil=>simp
 |cons d l ih=>rw[eR,ih,acI,aQ];constructor;rintro(h|h|h);exact .inl (.inr h);exact .inl (.inl h);exact .inr h;rintro((h|h)|h);exact .inr (.inl h);exact .inl h;exact .inr (.inr h)
theorem UK {out:List Dg}(h:out.Nodup)(d:Dg):(JL out d).Nodup:=by unfold JL;split;exact h;rename_i hd;rw[kz];exact⟨h,by simp,λa ha b hb e=>hd (by rw[aS.1 hb]at e;exact e▸ha)⟩
theorem acJ (out:List Dg)(d:Dg):∃t,JL out d=out++t:=by unfold JL;split;exact⟨[],(aY _).symm⟩;exact⟨[d],rfl⟩
theorem Sh (l:List Dg):∀out:List Dg,∃t,vB out l=out++t:=by
 unfold vB;induction l with
 |nil=>exactλout=>⟨[],(aY _).symm⟩
 |cons d l ih=>intro out;obtain⟨t,ht⟩:=acJ out d;obtain⟨u,hu⟩:=ih (JL out d);exact⟨t++u,by rw[eR,hu,ht,bf]⟩
theorem Cm {l:List Dg}:∀{out:List Dg},out.Nodup->(vB out l).Nodup:=by
 unfold vB;induction l with
 |nil=>exactλh=>h
 |cons d l ih=>exactλh=>ih (UK h d)
theorem YF {l:List Dg}{j:Nat}(h:j<l.length)(out:List Dg):vB out (l.take (j+1))=JL (vB out (l.take j)) l[j]:=by unfold vB;rw[ec h,tF];rfl
def nh (N:ga->List Dg)(s:List bO)(d:Dg):List Dg:=((s.find? λx=>decide (x.id=d)).map λx=>N x.pat).getD []
def pn (N:ga->List Dg)(s:List bO):Nat->Nat->List Dg->List Dg|0,_,out=>out|n+1,i,out=>if h:i<out.length then pn N s n (i+1) (vB out (nh N s out[i]))else out
def qz (N:ga->List Dg)(s:List bO)(d:Dg):List Dg:=pn N s s.length 0 [d]
section
variable (N:ga->List Dg)
theorem Ln (s:List bO)(p:Dg)(hp:p∈s.map λx=>x.id)(hn:(s.map λx=>x.id).Nodup)(hc:∀x,x∈s->∀d,d∈N x.pat->d∈s.map λx=>x.id)(hl:s.length<=2^30)(hNl:∀x,x∈s->(N x.pat).length<=2^40):ak C 195 [.mp (UH s) (UI N s),.sl (jo [p])] (λr=>r=.own (some [.bool true]) 31 32 (jo (uy (qz N s p)))):=by
 have hfind:∀d,d∈(s.map λx=>x.id)->∃x,x∈s/\s.find? (λx=>decide (x.id=d))=some x:=λd hd=>by obtain⟨x,hx,rfl⟩:=aI.1 hd;exact⟨x,hx,HH hn hx⟩
 refine bn {opens:=[33],BB:=[],full:=false,inl:=[238],rel:=[238]} [] Tryz.func195 rfl rfl rfl ?_;refine⟨[],?_⟩;refine .inl ⟨_,Tryz.func238,rfl,rfl,rfl,?_⟩;obtain⟨xp,hxp,hfp⟩:=hfind p hp;refine we 35 1000 (λx:Nat×Bool=>[(0,.p (.sl (jo [p]))),(1,.ptr 2 0),(2,.ptr 6 0),(3,.ptr 7 0),(10,.p (.sl (jo [p]))),(11,.p (.int .i64 1)),(12,.p (.int .i64 x.1))]) (λx=>match x.2 with|true=>[(2,[.p (.mp (UH s) (UI N s))]),(6,[.fI 10]),(7,[.fe 1033 31 32]),(1033,cR [p])]|false=>[(2,[.p (.mp (UH s) (UI N s))]),(6,[.fI 10]),(7,[.full []])]) (λ_=>[(33,0,[(2,.ptr 2 0),(6,.ptr 6 0),(7,.ptr 7 0),(8,.fn (.func 238) [] [.ptr 2 0,.ptr 6 0,.ptr 7 0])])]) [] (λ_=>[]) (λx=>[(10,dE (match x.2 with|true=>[p]|false=>[]))]) (λ_=>[]) (λx=>(x.1=0/\x.2=false)\/(x.1=1/\x.2=true)) (λx=>1-x.1) (0,false) (.inl ⟨rfl,rfl⟩) kK wS oS ⟨rfl,wS,trivial⟩ trivial ⟨nB kK,trivial⟩ trivial ?_;rintro⟨j,b⟩ hjb;rcases hjb with⟨hj,hb⟩|⟨hj,hb⟩;obtain rfl:j=0:=hj;obtain rfl:b=false:=hb;refine az (λ_=>?_) (λh=>absurd (show((0:Nat):Int)<1 by decide) h);refine⟨dD,cD p,rfl,rfl,?_⟩;refine⟨yX,dQ,rfl,(by rw[yq];exact Ek N s),some (.p (.sl (jo (nh N s p)))),(by rw[yq];exact(HG N s p).trans (by unfold nh;rw[hfp];rfl)),?_⟩;refine bl ?_;refine⟨yX,dQ,rfl,(λq hq=>nomatch hq),none,rfl,.bool false,kK,?_⟩;refine bl ?_;refine⟨yX,dQ,rfl,(λq hq=>nomatch hq),dE [p],rfl,?_⟩;refine⟨mu _ _,(λzs h=>by rw[aS.1 h];rfl),(show 1*32<=140737488355328 by decide),cR [p],rfl,?_⟩;exact⟨1,dD,mU (1,true) (.inr ⟨rfl,rfl⟩) dD kK wS oS ⟨rfl,wS,trivial⟩ trivial ⟨nB kK,trivial⟩ trivial⟩;obtain rfl:j=1:=hj;obtain rfl:b=true:=hb;refine az (λh=>absurd h dD) (λ_=>?_);refine aiV 33 0 [(2,.ptr 2 0),(6,.ptr 6 0),(7,.ptr 7 0),(8,.fn (.func 238) [] [.ptr 2 0,.ptr 6 0,.ptr 7 0]),(14,.p (.bool true))] [(2,[.p (.mp (UH s) (UI N s))]),(6,[.fI 10]),(7,[.fe 1033 31 32]),(1033,cR [p])] [] [] [] [(10,dE [p])] [] kK wS oS trivial trivial ⟨nB kK,trivial⟩ trivial ?_;refine bl ?_;refine we 33 0 (λx:Nat×List Dg=>[(2,.ptr 2 0),(6,.ptr 6 0),(7,.ptr 7 0),(8,.fn (.func 238) [] [.ptr 2 0,.ptr 6 0,.ptr 7 0]),(9,.p (.int .i64 x.1))]) (λx=>[(2,[.p (.mp (UH s) (UI N s))]),(6,[.fI 10]),(7,[.fe 1033 31 32]),(1033,cR x.2)]) (λ_=>[]) [] (λ_=>[]) (λx=>[(10,dE x.2)]) (λ_=>[]) (λx=>x.1<=x.2.length/\x.2.Nodup/\(∀d,d∈x.2->d∈s.map λx=>x.id)/\qz N s p=pn N s (s.length-x.1) x.1 x.2) (λx=>s.length-x.1) (0,[p]) ⟨zL,by simp,λd hd=>by rw[aS.1 hd];exact hp,rfl⟩ kK wS oS trivial trivial ⟨nB kK,trivial⟩ trivial ?_;rintro⟨i,out⟩ ⟨hi,KQ,hin,hE⟩;have hi:i<=out.length:=hi;have hE:qz N s p=pn N s (s.length-i) i out:=hE;have Ua:out.length<=s.length:=by have :=sv KQ hin;rw[aj]at this;exact this
 refine⟨out.length,by exact dy out,?_⟩;refine az (λhlt=>?_) (λhge=>?_);rotate_left;obtain rfl:i=out.length:=by have :¬(i:Int)<(out.length:Int):=hge;omega
 have hE:qz N s p=out:=by
  rw[hE];cases s.length-out.length with
  |zero=>rfl
  |succ n=>unfold pn;rw[dif_neg (tC _)]
 rw[hE];refine .inr (.inr (An rfl rfl (bk _) (Cg _ rfl out oO) λr ys hr=>?_));obtain⟨rfl,rfl⟩:=hr;exact⟨jo (uy out),tH,bk _,rfl⟩;have hlt:i<out.length:=by have :(i:Int)<(out.length:Int):=hlt;omega
 have hE:qz N s p=pn N s (s.length-(i+1)) (i+1) (vB out (nh N s out[i])):=by
  rw[hE,show s.length-i=(s.length-(i+1))+1 from oO];conv=>lhs;unfold pn
  rw[dif_pos hlt]
 obtain⟨xi,hxi,hfi⟩:=hfind out[i] (hin _ (aK _));have hne:nh N s out[i]=N xi.pat:=by unfold nh;rw[hfi];rfl
 have jH:=hc xi hxi;have hnl:=hNl xi hxi;rw[<-hne]at jH hnl;have hrow:=Ef hlt;refine cm 7 kK ?_;refine⟨i,i*32,rfl,rfl,by rw[show(cR out).length=out.length*32 from dy out];omega,?_⟩;refine⟨_,aH (cD out[i]),_,hrow,by rw[dy,aD];congr 1;omega,?_⟩;refine⟨.p (.sl (jo (nh N s out[i]))),⟨yX,dQ,rfl,(by rw[yq];exact Ek N s),some (.p (.sl (jo (nh N s out[i])))),(by rw[yq];exact(HG N s out[i]).trans (by unfold nh;rw[hfi];rfl)),rfl⟩,?_⟩;generalize nh N s out[i]=l at hE jH hnl⊢;clear hrow hfi hne;refine .inl ⟨_,Tryz.func238,rfl,rfl,rfl,?_⟩;refine we 35 1000 (λj:Nat=>[(0,.p (.sl (l.map cD))),(1,.ptr 2 0),(2,.ptr 6 0),(3,.ptr 7 0),(10,.p (.sl (l.map cD))),(11,.p (.int .i64 ((l.map cD).length:Int))),(12,.p (.int .i64 j))]) (λj=>[(2,[.p (.mp (UH s) (UI N s))]),(6,[.fI 10]),(7,[.fe 1033 31 32]),(1033,cR (vB out (l.take j)))]) (λ_=>[(33,0,[(2,.ptr 2 0),(6,.ptr 6 0),(7,.ptr 7 0),(8,.fn (.func 238) [] [.ptr 2 0,.ptr 6 0,.ptr 7 0]),(9,.p (.int .i64 i))])]) [] (λ_=>[]) (λj=>[(10,dE (vB out (l.take j)))]) (λ_=>[]) (λj=>j<=l.length) (λj=>l.length-j) 0 (zL) kK wS oS ⟨rfl,wS,trivial⟩ trivial ⟨nB kK,trivial⟩ trivial ?_;intro j hj;refine bQ (l:=l) (f:=cD) (λdI=>?_) (λtA=>?_);have iX:(l.map cD)[((j:Nat):Int).toNat]?=some (cD l[j]):=ct rfl dI;have vR:=YF dI out;obtain⟨xd,hxd,hfd⟩:=hfind l[j] (jH _ (aK _));have alV:∀x,x∈vB out (l.take j)->x∈s.map λx=>x.id:=λx hx=>by rcases wD.1 hx with h|h;exact jH x (sW h);exact hin x h
 have alW:(vB out (l.take j)).length<=s.length:=by have :=sv (Cm (l:=l.take j) KQ) alV;rw[aj]at this;exact this
 generalize l[j]=d at iX vR hfd;generalize vB out (l.take j)=M at vR alW⊢;refine⟨oO,_,iX,rfl,?_⟩;refine⟨yX,dQ,rfl,(by rw[yq];exact Ek N s),some (.p (.sl (jo (nh N s d)))),(by rw[yq];exact(HG N s d).trans (by unfold nh;rw[hfd];rfl)),?_⟩;refine bl ?_;by_cases hm:d∈M;rw[JL,af hm]at vR;refine⟨yX,dQ,rfl,(by simp only[rS];exact vg _),some (.p (.bool true)),(by simp only[rS];exact(AU M d).trans (af hm)),?_⟩;refine bl ?_;exact nx (j+1) (mU (j+1) dI oO kK wS ⟨aC kK,aC kK,aC kK,(by rw[vR];exact My 1007 kK),trivial⟩ ⟨rfl,wS,trivial⟩ trivial ⟨(by rw[vR];exact dP rfl (by simp only[rS])),trivial⟩ trivial);rw[JL,aa hm]at vR;refine⟨yX,dQ,rfl,(by simp only[rS];exact vg _),none,(by simp only[rS];exact(AU M d).trans (aa hm)),.bool false,kK,?_⟩;refine bl ?_;refine⟨yX,dQ,rfl,(by simp only[rS];exact vg _),dE (M++[d]),(by simp only[rS];exact acG hm),?_⟩;refine⟨M.length,by rw[kV,kV];exact dy M,(λzs h=>by rw[aS.1 h];rfl),by show(M.length+1)*32<=_;omega,cR (M++[d]),by rw[kV,kV];exact AS _ _ _,?_⟩;exact nx (j+1) (mU (j+1) dI oO kK wS ⟨aC kK,aC kK,aC kK,(by rw[vR];exact aC kK),trivial⟩ ⟨rfl,wS,trivial⟩ trivial ⟨(by rw[vR];exact dP rfl (by simp only[rS])),trivial⟩ trivial);obtain rfl:j=l.length:=oO
 rw[aJ];obtain⟨t,ht⟩:=Sh l out;have ajL:∀x,x∈vB out l->x∈s.map λx=>x.id:=λx hx=>by rcases wD.1 hx with h|h;exact jH x h;exact hin x h
 have ajM:=Cm (l:=l) KQ;have ajN:out.length<=(vB out l).length:=by rw[ht,aq];omega
 generalize vB out l=M at hE ajL ajM ajN⊢;refine aiV 33 0 [(2,.ptr 2 0),(6,.ptr 6 0),(7,.ptr 7 0),(8,.fn (.func 238) [] [.ptr 2 0,.ptr 6 0,.ptr 7 0]),(9,.p (.int .i64 i))] [(2,[.p (.mp (UH s) (UI N s))]),(6,[.fI 10]),(7,[.fe 1033 31 32]),(1033,cR M)] [] [] [] [(10,dE M)] [] kK wS oS trivial trivial ⟨nB kK,trivial⟩ trivial ?_;exact nx (i+1) (mU (i+1,M) ⟨by show i+1<=M.length;omega,ajM,ajL,hE⟩ (by show s.length-(i+1)<s.length-i;omega) kK wS oS trivial trivial ⟨nB kK,trivial⟩ trivial)
theorem Lo (s:List bO)(p:Dg)(hN:El N s)(hp:p∈s.map λx=>x.id)(hn:(s.map λx=>x.id).Nodup)(hc:∀x,x∈s->∀d,d∈N x.pat->d∈s.map λx=>x.id)(hl:s.length<=2^30)(hNl:∀x,x∈s->(N x.pat).length<=2^40):ak C 155 [.sl (cn s),.sl (jo [p])] (λr=>r=.val (.eV [.sl (jo (uy (qz N s p))),.int .i64 0])):=by refine bn {opens:=[],BB:=[],full:=false} [] Tryz.func155 rfl rfl rfl ?_;refine cl (GK N s hN hn oO).dN ?_;refine cl (Ln N s p hp hn hc hl hNl).Eo.dN ?_;refine bl ?_;exact rfl
theorem Si (s:List bO)(p q:Dg)(hN:El N s)(hp:p∈s.map λx=>x.id)(hn:(s.map λx=>x.id).Nodup)(hc:∀x,x∈s->∀d,d∈N x.pat->d∈s.map λx=>x.id)(hl:s.length<=2^30)(hNl:∀x,x∈s->(N x.pat).length<=2^40)(hrl:(qz N s p).length<=2^40):ak C 126 [.sl (cn s),.agg (cD p),.agg (cD q)] (λr=>r=.val (.bool (decide (q∈qz N s p)))):=by refine bn {opens:=[],BB:=[],full:=false} [] Tryz.func126 rfl rfl rfl ?_;refine cl (Lo N s p hN hp hn hc hl hNl).dN ?_;refine⟨none,?_⟩;refine aA (λ_=>?_) (λg=>absurd rfl g);refine cl (JJ (uy (qz N s p)) q (by rw[FE];omega)).dN ?_;rw[show decide (q∈uy (qz N s p))=decide (q∈qz N s p)from decide_eq_decide.2 Mu];exact rfl
end
def sw:List bD->bg->bD×Bool|[],_=>(ef,false)|a::l,x=>if a.id=x/\a.kind=1 then(a,true)else sw l x
theorem UX {l:List bD}{k:Nat}(h:k<l.length)(x:bg):sw (l.drop k) x=if l[k].id=x/\l[k].kind=1 then(l[k],true)else sw (l.drop (k+1)) x:=by rw[bL h];rfl
theorem St (l:List bD)(x:bg)(hl:l.length<=2^47):ak C 80 [.sl (eU l),.agg (cI x)] (λr=>r=.val (atR (sw l x))):=by unfold eU;refine ag Tryz.func80 rfl rfl rfl ?_;refine bu 33 (λk:Nat=>[(0,.p (.sl (l.map cA))),(3,.ptr 3 0),(4,.ptr 4 0),(6,.p (.int .i64 k))]) (λ_=>[(3,aH (cI x)),(4,zA)]) (λk=>k<=l.length/\sw l x=sw (l.drop k) x) (λk=>l.length-k) 0 ⟨zL,rfl⟩ rfl wS oS ?_;rintro k ⟨hk,hE⟩;refine bQ (λhlt=>?_) (λhge=>?_);rw[UX hlt]at hE;refine cm 13 kK ?_;refine ix hlt ?_;refine ou ?_;refine iu (a:=l[k].id) (b:=x) ?_;by_cases h:l[k].id=x;rw[an h];refine ix hlt ?_;refine aA (λh2=>?_) (λh2=>?_);have h2:l[k].kind=1:=h2;rw[af ⟨h,h2⟩]at hE;refine ix hlt ?_;rw[hE];exact rfl;have h2:¬l[k].kind=1:=h2;rw[aa λg=>h2 g.2]at hE;exact nx (k+1) (aO (k+1) ⟨hlt,hE⟩ oO rfl wS oS);rw[ah h];rw[aa λg=>h g.1]at hE;exact nx (k+1) (aO (k+1) ⟨hlt,hE⟩ oO rfl wS oS);rw[cU oO]at hE;rw[hE];exact rfl
def JT (l:List bD)(x:bD)(f:bg):Bool:=(decide (x.kind=2/\x.parent=f)&&(sw l x.file).2)||decide ((2<=x.kind/\x.kind<=6)/\x.file=f)
theorem acS (l:List bD)(x:bD)(f:bg)(hl:l.length<=2^47):ak C 108 [.sl (eU l),.agg (cA x),.agg (cI f)] (λr=>r=.val (.bool (JT l x f))):=by
 refine ag Tryz.func108 rfl rfl rfl ?_;unfold JT;refine⟨none,?_⟩;refine aA (λh1=>?_) (λh1=>?_);rotate_left
 ·have h1:¬x.kind=2:=h1;rw[ah (show¬(x.kind=2/\x.parent=f)fromλg=>h1 g.1),jy,iW];refine⟨none,?_⟩;refine az (λh3=>?_) (λh3=>?_);rotate_left;rw[ah (show¬((2<=x.kind/\x.kind<=6)/\x.file=f)fromλg=>h3 g.1.1)];exact rfl;refine az (λh4=>?_) (λh4=>?_);rotate_left;rw[ah (show¬((2<=x.kind/\x.kind<=6)/\x.file=f)fromλg=>h4 g.1.2)];exact rfl;refine ou ?_;refine iu (a:=x.file) (b:=f) ?_;by_cases h5:x.file=f;rw[an h5,an (show(2<=x.kind/\x.kind<=6)/\x.file=f from⟨⟨h3,h4⟩,h5⟩)];exact rfl;rw[ah h5,ah (show¬((2<=x.kind/\x.kind<=6)/\x.file=f)fromλg=>h5 g.2)];exact rfl
 have h1:x.kind=2:=h1;refine ou ?_;refine iu (a:=x.parent) (b:=f) ?_;by_cases h2:x.parent=f;rotate_left
 ·rw[ah h2,ah (show¬(x.kind=2/\x.parent=f)fromλg=>h2 g.2),jy,iW];refine⟨none,?_⟩;refine az (λh3=>?_) (λh3=>?_);rotate_left;rw[ah (show¬((2<=x.kind/\x.kind<=6)/\x.file=f)fromλg=>h3 g.1.1)];exact rfl;refine az (λh4=>?_) (λh4=>?_);rotate_left;rw[ah (show¬((2<=x.kind/\x.kind<=6)/\x.file=f)fromλg=>h4 g.1.2)];exact rfl;refine ou ?_;refine iu (a:=x.file) (b:=f) ?_;by_cases h5:x.file=f;rw[an h5,an (show(2<=x.kind/\x.kind<=6)/\x.file=f from⟨⟨h3,h4⟩,h5⟩)];exact rfl;rw[ah h5,ah (show¬((2<=x.kind/\x.kind<=6)/\x.file=f)fromλg=>h5 g.2)];exact rfl
 rw[an h2,an (show x.kind=2/\x.parent=f from⟨h1,h2⟩),gQ];refine cl (St l x.file hl) ?_;generalize sw l x.file=F;obtain⟨y,b⟩:=F;cases b
 ·rw[iW];refine⟨none,?_⟩;refine az (λh3=>?_) (λh3=>?_);rotate_left;rw[ah (show¬((2<=x.kind/\x.kind<=6)/\x.file=f)fromλg=>h3 g.1.1)];exact rfl;refine az (λh4=>?_) (λh4=>?_);rotate_left;rw[ah (show¬((2<=x.kind/\x.kind<=6)/\x.file=f)fromλg=>h4 g.1.2)];exact rfl;refine ou ?_;refine iu (a:=x.file) (b:=f) ?_;by_cases h5:x.file=f;rw[an h5,an (show(2<=x.kind/\x.kind<=6)/\x.file=f from⟨⟨h3,h4⟩,h5⟩)];exact rfl;rw[ah h5,ah (show¬((2<=x.kind/\x.kind<=6)/\x.file=f)fromλg=>h5 g.2)];exact rfl
 exact rfl
def YU (s:List bO)(f:bg)(x:bD):Bool:=JT (wz s) x f&&!((ej s f).any λk=>je s k.p x.id.p)
def Hp (s:List bO)(f:bg):List bg:=((wz s).filter (YU s f)).map λa=>a.id
theorem ahK (s:List bO)(f:bg)(hs:qH s)(hl:s.length<=400)(hE:(oT s).length<=2^20)(hA:oD s)(hc:∀x,x∈s->∀d,d∈cw x.pat->d∈dx s)(hK:∀k,k∈ej s f->k.p∈dx s)(Pw:(ej s f).length<=2^40):ak C 82 [.sl (cn s),.agg (cI f)] (λr=>r=.val (.sl (iq (Hp s f)))):=by
 have hlen:=uw hl;refine ag Tryz.func82 rfl rfl rfl ?_;refine cl (WB s hs hl hE) ?_;refine cl (UL s f hs hl hE) ?_;have hu:∀x,YU s f x=(JT (wz s) x f&&!((ej s f).any λk=>je s k.p x.id.p)):=λ_=>rfl;unfold Hp;generalize wz s=l at hlen hu⊢;generalize ej s f=ks at hu hK Pw⊢;generalize YU s f=g at hu⊢;refine bu 64 (λk:Nat=>[(0,.p (.sl (cn s))),(3,.ptr 3 0),(5,.eH 11 33 33 ((((l.take k).filter g).map λa=>a.id).map cI)),(6,.p (.sl (l.map cA))),(7,.p (.sl (ks.map cI))),(8,.p (.int .i64 k))]) (λ_=>[(3,aH (cI f))]) (λk=>k<=l.length) (λk=>l.length-k) 0 (zL) rfl wS oS ?_;intro k hk2;refine bQ (λhlt=>?_) (λhge=>?_);rotate_left;obtain rfl:k=l.length:=oO
 rw[aJ];exact .inr rfl;have hf:=iJ (f:=g) hlt;have hfl:((l.take k).filter g).length<=l.length:=bH (di _ _) (xZ _ _);refine cm 6 kK ?_;refine ix hlt ?_;refine cl (acS l l[k] f oO) ?_;refine bl ?_;have hgk:=hu l[k];cases SQ:JT l l[k] f;rw[SQ,jy]at hgk;rw[hgk,aa (show¬false=true by decide),aY]at hf;exact nx (k+1) (aO (k+1) hlt oO rfl ⟨aF.refl _,aF.refl _,aF.eq (by rw[hf];rfl),aF.refl _,aF.refl _,aF.refl _,trivial⟩ oS);rw[SQ,gQ]at hgk;have iX:(l.map cA)[((k:Nat):Int).toNat]?=some (cA l[k]):=ct rfl hlt;refine bu 64 (λj:Nat=>[(0,.p (.sl (cn s))),(3,.ptr 3 0),(5,.eH 11 33 33 ((((l.take k).filter g).map λa=>a.id).map cI)),(6,.p (.sl (l.map cA))),(7,.p (.sl (ks.map cI))),(8,.p (.int .i64 k)),(9,.p (.bool ((ks.take j).any λk'=>je s k'.p l[k].id.p))),(10,.p (.int .i64 (j:Int)))]) (λ_=>[(3,aH (cI f))]) (λj=>j<=ks.length) (λj=>ks.length-j) 0 (zL) rfl wS oS ?_;intro j hj;refine bQ (λdI=>?_) (λtA=>?_);have hst:(ks.take (j+1)).any (λk'=>je s k'.p l[k].id.p)=((ks.take j).any (λk'=>je s k'.p l[k].id.p)||je s ks[j].p l[k].id.p):=by rw[<-dn dI,qm];simp
 refine cm 14 kK ?_;generalize hb:(ks.take j).any (λk'=>je s k'.p l[k].id.p)=b at*;cases b;refine ix dI ?_;refine⟨oO,_,iX,rfl,?_⟩;refine cl (acL s ks[j].p l[k].id.p hs hl hA hc (hK _ (aK _))) ?_;rw[iW]at hst;exact nx (j+1) (aO (j+1) dI oO rfl ⟨aF.refl _,aF.refl _,aF.refl _,aF.refl _,aF.refl _,aF.refl _,aF.eq (by rw[hst];rfl),aF.refl _,trivial⟩ oS);rw[tE]at hst;exact nx (j+1) (aO (j+1) dI oO rfl ⟨aF.refl _,aF.refl _,aF.refl _,aF.refl _,aF.refl _,aF.refl _,aF.eq (by rw[hst];rfl),aF.refl _,trivial⟩ oS);rw[ck (show ks.length<=j by omega)];refine bl ?_;cases hb:ks.any (λk'=>je s k'.p l[k].id.p);rw[hb]at hgk;rw[hgk,af (show(!false)=true by decide)]at hf;refine⟨oO,_,iX,rfl,?_⟩;refine⟨fB,fB (l:=[l[k].id]),by show(((((l.take k).filter g).map λa=>a.id).map cI).length+1)*40<=_;rw[aj,aj];omega,(((l.take (k+1)).filter g).map λa=>a.id).map cI,by rw[hf,aM,aM];rfl,?_⟩;exact nx (k+1) (aO (k+1) hlt oO rfl wS oS);rw[hb]at hgk;rw[hgk,aa (show¬(!true)=true by decide),aY]at hf;exact nx (k+1) (aO (k+1) hlt oO rfl ⟨aF.refl _,aF.refl _,aF.eq (by rw[hf];rfl),aF.refl _,aF.refl _,aF.refl _,trivial⟩ oS)
def jP (s:List bO)(f:bg):Bool:=(sw (cz s) f).2&&!decide (f∈gL s)&&decide ((Hp s f).length=0)
theorem afE (s:List bO)(f:bg)(hs:qH s)(hl:s.length<=400)(hE:(oT s).length<=2^20)(hA:oD s)(hc:∀x,x∈s->∀d,d∈cw x.pat->d∈dx s)(hK:∀k,k∈ej s f->k.p∈dx s)(Pw:(ej s f).length<=2^40):ak C 49 [.sl (cn s),.agg (cI f)] (λr=>r=.val (.bool (jP s f))):=by
 refine ag Tryz.func49 rfl rfl rfl ?_;refine⟨.plan ⟨[0,1,2,3,4,5,6],[7,8],[],[3]⟩ (.one 0 (.one 1 (.one 2 (.one 3 (.one 4 (.one 5 (.one 6 (.alt 7 (.alt 8 (.one 9 .fin) .stop) .stop)))))))) none,kK,?_⟩;refine⟨_,rfl,rfl,?_⟩;refine⟨.p (.sl (eU (cz s))),⟨_,DW s hs hl,λr hr=>by subst hr;rfl⟩,rfl,?_⟩;refine⟨_,rfl,rfl,?_⟩;refine⟨.p (atR (sw (cz s) f)),⟨_,St (cz s) f (by have :=jb hl;omega),λr hr=>by subst hr;rfl⟩,rfl,?_⟩;unfold jP;generalize sw (cz s) f=F;obtain⟨y,b⟩:=F;refine⟨_,rfl,rfl,?_⟩;refine⟨_,rfl,rfl,?_⟩;refine⟨_,rfl,rfl,?_⟩;refine⟨rfl,?_⟩;refine⟨rfl,?_⟩;refine⟨_,rfl,?_⟩;refine⟨none,?_⟩;cases b;exact rfl;refine cl (ab0 s f hs hl hE) ?_;refine bl ?_;by_cases h:f∈gL s;rw[an h];exact rfl;rw[ah h];refine cl (ahK s f hs hl hE hA hc hK Pw) ?_;have aoE:(((iq (Hp s f)).length:Nat):Int)=((Hp s f).length:Int):=by simp[iq]
 refine aA (λh2=>?_) (λh2=>?_);have h2:(((iq (Hp s f)).length:Nat):Int)=0:=h2;rw[an (show(Hp s f).length=0 by omega)];exact rfl;have h2:¬(((iq (Hp s f)).length:Nat):Int)=0:=h2;rw[ah (show¬(Hp s f).length=0 by omega)];exact rfl
end Qv
