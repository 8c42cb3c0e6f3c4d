/- Part 13 of the proof: its lemmas. No condition. -/
import Derived.Test.YtlbofhenpfnenaaGreatDoorW6
import Derived.Test.YtlbofhenpfnenaaGreatDoorX1
import Derived.Test.YtlbofhenpfnenaaGreatDoorX2
import Derived.Lib.ItoaLen
import Derived.Test.YtlbofhenpfnenaaGreatDoorCards
import Derived.Test.YtlbofhenpfnenaaGreatDoorTie
import Derived.KernelRfl
import Derived.ProofKit
import Derived.OpenShut
import Derived.Deep.DeepHandedRow
import Derived.Deep.DeepWitnessRowRef
import Derived.Shelf.Vars
set_option maxRecDepth 10000
set_option maxHeartbeats 80000000
set_option linter.all false
open Go Go.Proofs Go.RowKit
namespace Qv
theorem wX {α:Type}{l:List α}{k:Nat}{x:α}(hk:k<l.length)(h:x∉l.take k)(hx:l[k]≠x):x∉l.take (k+1):=by rw[<-eS hk,aW,aO];rintro(h1|h1);exact h h1;exact hx h1.symm
theorem aaI (l:List bf)(x:bf)(hl:l.length<=2^47):aj C 22 [.sl (iS l),.agg (cI x)] (λr=>r=.val (.bool (decide (x∈l)))):=by
 unfold iS;refine ag Tryz.func22 rfl rfl rfl ?_;refine bI 18 (λk:Nat=>[(0,.p (.sl (l.map cI))),(3,.ptr 3 0),(5,.p (.int .i64 k))]) (λ_=>[(3,aF (cI x))]) (λk=>k<=l.length/\x∉l.take k) (λk=>l.length-k) 0 ⟨zL,by simp⟩ rfl wS oS ?_;rintro k ⟨hk,hn⟩;refine bY (λhlt=>?_) (λhge=>?_);refine cG 5 kK ?_;refine ix hlt ?_;refine rB ?_;refine jK (a:=l[k]) (b:=x) ?_;by_cases h:l[k]=x;rw[av h];have :x∈l:=h▸aL hlt;show dh.val (.bool true)=_;simp[this];rw[ak h];exact nx (k+1) (aU (k+1) ⟨hlt,wX hlt hn h⟩ oO rfl wS oS);have :x∉l:=by rw[cF oO]at hn;exact hn
 show dh.val (.bool false)=_;simp[this]
def yp:List bf->Bool|a::b::r=>decide (fU a b<0)&&yp (b::r)|_=>true
theorem Dk:∀l:List bf,yp l=true↔∀(i:Nat)(a b:bf),l[i]?=some a->l[i+1]?=some b->fU a b<0
 |[]=>by simp[yp]
 |[x]=>by simp[yp]
 |x::y::r=>by
  rw[yp,aY,decide_eq_true_eq,Dk (y::r)];constructor;rintro⟨h1,h2⟩ i a b ha hb;cases i with
  |zero=>simp only[List.getElem?_cons_zero,lY,bM]at ha hb;subst ha;subst hb;exact h1
  |succ i=>exact h2 i a b ha hb
  intro h;exact⟨h 0 x y rfl rfl,λi a b ha hb=>h (i+1) a b ha hb⟩
theorem QJ {l:List bf}{k:Nat}(h1:0<k)(hk:k<l.length)(h:¬fU l[k-1] l[k]<0):yp l=false:=by
 cases hq:yp l with
 |false=>rfl
 |true=>refine absurd ((Dk l).1 hq (k-1) l[k-1] l[k] (aq oO) ?_) h;rw[show k-1+1=k from oO];exact aq hk
theorem aeg (l:List bf)(hl:l.length<=2^47):aj C 173 [.sl (iS l)] (λr=>r=.val (.bool (yp l))):=by
 unfold iS;refine ag Tryz.func173 rfl rfl rfl ?_;refine bI 21 (λk:Nat=>[(0,.p (.sl (l.map cI))),(3,.p (.int .i64 k))]) (λ_=>[]) (λk=>1<=k/\k<=l.length+1/\∀(i:Nat)(a b:bf),i+1<k->l[i]?=some a->l[i+1]?=some b->fU a b<0) (λk=>l.length+1-k) 1 ⟨ay _,oO,λi a b h=>oO⟩ rfl wS trivial ?_;rintro k ⟨h1,hk,hn⟩;refine bY (λhlt=>?_) (λhge=>?_);have hlt':k-1<l.length:=oO
 refine cG 9 kK ?_;refine nx (k-1) ?_;refine ix hlt' ?_;refine ix hlt ?_;refine cl (zi l[k-1] l[k]) ?_;refine az (λh=>?_) (λh=>?_);rw[QJ h1 hlt oO];exact rfl;refine nx (k+1) (aU (k+1) ⟨oO,oO,λi a b hi ha hb=>?_⟩ oO rfl wS trivial);by_cases hik:i+1=k;have e:i=k-1:=oO
 subst e;rw[aq hlt']at ha;rw[show k-1+1=k from oO,aq hlt]at hb;obtain rfl:=an ha;obtain rfl:=an hb;omega;exact hn i a b oO ha hb;rw[(Dk l).2 λi a b ha hb=>hn i a b (by have :=(aC.1 hb).1;omega) ha hb];exact rfl
theorem gL {l:List bf}:∀zs,zs∈l.map cI->zs.length=33:=by intro zs h;obtain⟨x,-,rfl⟩:=aA.1 h;rfl
def kX:List bf->bf->List bf|[],x=>[x]|y::l,x=>if fU y x<0 then y::kX l x else if y=x then y::l else x::y::l
theorem Ih:∀(a b:List bf)(x:bf),(∀y,y∈a->fU y x<0)->kX (a++b) x=a++kX b x|[],b,x,_=>rfl|y::a,b,x,h=>by rw[dZ,kX,af (h y (by simp)),Ih a b x λz hz=>h z (by simp[hz])];rfl
theorem aeh {l:List bf}{k:Nat}{x:bf}(hk:k<l.length)(h:∀y,y∈l.take k->fU y x<0)(h2:¬fU l[k] x<0):kX l x=if l[k]=x then l else l.take k++[x]++l.drop k:=by
 have e:l=l.take k++(l[k]::l.drop (k+1)):=by rw[<-bQ hk,dw]
 have e2:l.drop k=l[k]::l.drop (k+1):=bQ hk;rw[e2];generalize l[k]=y at*;rw[show kX l x=kX (l.take k++(y::l.drop (k+1))) x from by rw[<-e],Ih _ _ _ h,kX,aa h2];by_cases hy:y=x;rw[af hy,af hy];exact e.symm;rw[aa hy,aa hy];simp
theorem aaJ {l:List bf}{x:bf}(h:∀y,y∈l->fU y x<0):kX l x=l++[x]:=by have :=Ih l [] x h;rw[bg]at this;exact this
theorem Ny {l:List bf}{k:Nat}{x:bf}(hk:k<l.length)(h:∀y,y∈l.take k->fU y x<0)(h2:fU l[k] x<0):∀y,y∈l.take (k+1)->fU y x<0:=by intro y hy;rw[<-eS hk,aW,aO]at hy;rcases hy with hy|rfl;exact h y hy;exact h2
theorem VA (l:List bf)(x:bf)(hl:l.length<=2^20):aj C 53 [.sl (iS l),.agg (cI x)] (λr=>r=.val (.sl (iS (kX l x)))):=by
 unfold iS;refine ag Tryz.func53 rfl rfl rfl ?_;refine bI 49 (λk:Nat=>[(0,.p (.sl (l.map cI))),(3,.ptr 3 0),(5,.p (.int .i64 k))]) (λ_=>[(3,aF (cI x))]) (λk=>k<=l.length/\∀y,y∈l.take k->fU y x<0) (λk=>l.length-k) 0 ⟨zL,by simp⟩ rfl wS oS ?_;rintro k ⟨hk,hn⟩;refine cG 10 kK ?_;refine bY (λhlt=>?_) (λhge=>?_);refine ix hlt ?_;refine cl (zi l[k] x) ?_;refine az (λh=>?_) (λh=>?_);exact nx (k+1) (aU (k+1) ⟨hlt,Ny hlt hn h⟩ oO rfl wS oS);have hI:=aeh hlt hn h;refine cG 10 kK ?_;refine bY (λhlt=>?_) (λhge=>absurd hlt hge);refine ix hlt ?_;refine rB ?_;refine jK (a:=l[k]) (b:=x) ?_;by_cases hx:l[k]=x;rw[av hx];rw[af hx]at hI;rw[hI];exact rfl;rw[ak hx];rw[aa hx]at hI;rw[hI];refine⟨k,rfl,zL,by rw[ai];exact hk,gL,(l.take k).map cI,by simp[mc],?_⟩;refine⟨(λzs h=>nomatch h),gL,by show(0+((l.take k).map cI).length)*40<=_;rw[ai,aH];omega,(l.take k).map cI,rfl,?_⟩;refine⟨gL,gL (l:=[x]),by show(((l.take k).map cI).length+1)*40<=_;rw[ai,aH];omega,(l.take k++[x]).map cI,by rw[aN];rfl,?_⟩;refine⟨k,rfl,by rw[ai];exact hk,ay _,gL,(l.drop k).map cI,by rw[cF (ay _),nQ],?_⟩;refine⟨gL,gL,by show(((l.take k++[x]).map cI).length+((l.drop k).map cI).length)*40<=_;simp only[ai,au,aH,cL,aI,bk];omega,(l.take k++[x]++l.drop k).map cI,by rw[<-aN],?_⟩;exact .inr rfl;have ZU:k=l.length:=oO
 have hI:kX l x=l.take k++[x]++l.drop k:=by rw[cF oO]at hn⊢;rw[dG oO,bg];exact aaJ hn
 refine cG 10 kK ?_;refine bY (λhlt=>absurd hlt hge) (λhge=>?_);rw[hI];refine⟨k,rfl,zL,by rw[ai];exact hk,gL,(l.take k).map cI,by simp[mc],?_⟩;refine⟨(λzs h=>nomatch h),gL,by show(0+((l.take k).map cI).length)*40<=_;rw[ai,aH];omega,(l.take k).map cI,rfl,?_⟩;refine⟨gL,gL (l:=[x]),by show(((l.take k).map cI).length+1)*40<=_;rw[ai,aH];omega,(l.take k++[x]).map cI,by rw[aN];rfl,?_⟩;refine⟨k,rfl,by rw[ai];exact hk,ay _,gL,(l.drop k).map cI,by rw[cF (ay _),nQ],?_⟩;refine⟨gL,gL,by show(((l.take k++[x]).map cI).length+((l.drop k).map cI).length)*40<=_;simp only[ai,au,aH,cL,aI,bk];omega,(l.take k++[x]++l.drop k).map cI,by rw[<-aN],?_⟩;exact .inr rfl
def tL (l:List Bytes):Nat:=(l.map List.length).sum
theorem QK (l:List Bytes)(k:Nat)(h:k<l.length):tL (l.take (k+1))=tL (l.take k)+l[k].length:=by unfold tL;rw[<-eS h,aN,nR];simp
theorem FH {α:Type}(f:α->Nat)(l:List α)(k:Nat):((l.take k).map f).sum<=(l.map f).sum:=by have :=aS (λx=>(x.map f).sum) (dw k l);simp only[aN,nR]at this;omega
def zk (l:List Bytes):Bool:=decide (40<l.length)||decide (3000<tL l)
structure SzS (a:List Bytes):Prop where
 len:a.length<=2^47
 each:∀s,s∈a->s.length<=2^47
theorem zl {α:Type}(f:α->Nat)(m:Nat):∀(l:List α),(∀x,x∈l->f x<=m)->(l.map f).sum<=l.length*m
 |[],_=>by simp
 |x::l,h=>by have h1:=h x (by simp);have h2:=zl f m l λy hy=>h y (by simp[hy]);simp only[cE,qa,aI,bD,jT];omega
theorem wrap_add (x y:Int):IntKind.i64.wrap (IntKind.i64.wrap x+y)=IntKind.i64.wrap (x+y):=by simp only[IntKind.wrap,IntKind.bits,IntKind.signed];simp;split<;>split<;>omega
theorem Xs (a:List Bytes)(hs:SzS a):aj C 127 [Gn a] (λr=>r=.val (.bool (zk a))):=by
 have ha:=hs.len;refine ag Tryz.func127 rfl rfl rfl ?_;refine bI 25 (λk:Nat=>[(0,.p (Gn a)),(3,.p (.int .i64 (IntKind.i64.wrap ((tL (a.take k):Nat):Int)))),(4,.p (.int .i64 k))]) (λ_=>[]) (λk=>k<=a.length) (λk=>a.length-k) 0 (zL) rfl wS trivial ?_;intro k hk;refine bY (λhlt=>?_) (λhge=>?_);have h1:=QK a k hlt;refine⟨oO,_,cO rfl hlt,rfl,IntKind.i64.wrap ((tL (a.take (k+1)):Nat):Int),by rw[wrap_add,h1,Int.natCast_add],k+1,wrap64 (by first|omega|(simp only[ai,au,aI,bk]at*;omega)) (by first|omega|(simp only[ai,au,aI,bk]at*;omega)),aU (k+1) hlt oO rfl wS trivial⟩;obtain rfl:k=a.length:=oO
 rw[aP];have hx:¬40<a.length->IntKind.i64.wrap ((tL a:Nat):Int)=(tL a:Int):=λh=>by have h1:=zl List.length (2^47) a hs.each;have h2:a.length*2^47<=40*2^47:=ec _ oO;unfold tL;exact wrap64 oO oO
 refine⟨none,az (λh=>?_) (λh=>az (λh2=>?_) (λh2=>?_))⟩;have :40<a.length:=by simp only[ai]at h;omega
 show dh.val (.bool true)=_;simp[zk,this];rw[hx (by simp only[ai]at h;omega)]at h2;have :3000<tL a:=oO
 show dh.val (.bool true)=_;simp[zk,this];have h3:¬40<a.length:=by simp only[ai]at h;omega
 rw[hx h3]at h2;have h4:¬3000<tL a:=oO
 show dh.val (.bool false)=_;simp[zk,h3,h4]
structure SzC (c:ew):Prop where
 name:c.name.length<=2^47
 data:c.data.length<=2^47
 lines:SzS c.lines
 over:c.over.length<=2^47
structure Sw (p:fW):Prop where
 eV:p.eV.length<=2^47
 message:p.message.length<=2^47
 deps:p.deps.length<=2^47
 len:p.changes.length<=2^47
 each:∀c,c∈p.changes->SzC c
structure SzT (s:List bK):Prop where
 len:s.length<=2^47
 each:∀x,x∈s->Sw x.pat
theorem aaK (a b:ew)(ha:SzC a)(hb:SzC b):aj C 114 [.agg (cC a),.agg (cC b)] (λr=>r=.val (.bool (decide (a=b)))):=by refine ag Tryz.func114 rfl rfl rfl ?_;refine⟨none,?_⟩;refine aD (λh1=>?_) (λh1=>?_);rotate_left;exact aS dh.val (aS AV.bool (ak λe=>h1 (by rw[e])).symm);refine rB ?_;refine jK (a:=a.file) (b:=b.file) ?_;by_cases h2:a.file=b.file;rotate_left;rw[ak h2];exact aS dh.val (aS AV.bool (ak λe=>h2 (by rw[e])).symm);rw[av h2];refine aD (λh3=>?_) (λh3=>?_);rotate_left;exact aS dh.val (aS AV.bool (ak λe=>h3 (by rw[e])).symm);refine rB ?_;refine jK (a:=a.parent) (b:=b.parent) ?_;by_cases h4:a.parent=b.parent;rotate_left;rw[ak h4];exact aS dh.val (aS AV.bool (ak λe=>h4 (by rw[e])).symm);rw[av h4];refine aD (λh5=>?_) (λh5=>?_);rotate_left;exact aS dh.val (aS AV.bool (ak λe=>h5 (by rw[e])).symm);refine aD (λh6=>?_) (λh6=>?_);rotate_left;exact aS dh.val (aS AV.bool (ak λe=>h6 (by rw[e])).symm);refine aD (λh7=>?_) (λh7=>?_);rotate_left;exact aS dh.val (aS AV.bool (ak λe=>h7 (by rw[e])).symm);refine rB ?_;refine jK (a:=a.dc) (b:=b.dc) ?_;by_cases h8:a.dc=b.dc;rotate_left;rw[ak h8];exact aS dh.val (aS AV.bool (ak λe=>h8 (by rw[e])).symm);rw[av h8];refine rB ?_;refine jK (a:=a.dy) (b:=b.dy) ?_;by_cases h9:a.dy=b.dy;rotate_left;rw[ak h9];exact aS dh.val (aS AV.bool (ak λe=>h9 (by rw[e])).symm);rw[av h9];refine cl (aaG a.lines b.lines ha.lines.len hb.lines.len) ?_;by_cases h10:a.lines=b.lines;rotate_left;rw[ak h10];exact aS dh.val (aS AV.bool (ak λe=>h10 (by rw[e])).symm);rw[av h10];refine cl (Lp a.over b.over ha.over hb.over) ?_;exact aS dh.val (aS AV.bool (decide_eq_decide.2 ⟨λh11=>by cases a;cases b;simp_all,λe=>by rw[e]⟩))
theorem aej {a b:fW}(h1:a.eV=b.eV)(h2:a.message=b.message)(h3:a.time=b.time)(h4:a.deps=b.deps)(h5:a.changes=b.changes):a=b:=by cases a;cases b;simp_all
theorem vE {a b:fW}(h:a≠b):dh.val (.bool false)=dh.val (.bool (decide (a=b))):=by simp[h]
theorem aaP (a b:fW)(ha:Sw a)(hb:Sw b):aj C 86 [.agg (cP a),.agg (cP b)] (λr=>r=.val (.bool (decide (a=b)))):=by
 have ha1:=ha.len;have BT:=hb.len;refine ag Tryz.func86 rfl rfl rfl ?_;refine⟨none,?_⟩;refine uK (λh1=>vE λe=>h1 (by rw[e])) (λh1=>?_);refine uK (λh2=>vE λe=>h2 (by rw[e])) (λh2=>?_);refine cS (λh3=>vE λe=>h3 (by rw[e])) (λh3=>?_);refine cl (aaH a.deps b.deps ha.deps hb.deps) ?_;refine bq ?_;by_cases h4:a.deps=b.deps;rotate_left;rw[ak h4];exact vE λe=>h4 (by rw[e]);rw[av h4];refine cS (λh5=>vE λe=>h5 (by rw[e])) (λh5=>?_);have hl:a.changes.length=b.changes.length:=by have :(((yo a.changes).length:Nat):Int)=((yo b.changes).length:Int):=h5;simp only[yo,ai]at this;omega
 refine bI 61 (λk:Nat=>[(2,.ptr 2 0),(3,.ptr 3 0),(5,.p (.int .i64 k))]) (λ_=>[(2,aF (cP a)),(3,aF (cP b))]) (λk=>k<=a.changes.length/\a.changes.take k=b.changes.take k) (λk=>a.changes.length-k) 0 ⟨zL,rfl⟩ rfl wS oS ?_;rintro k ⟨hk,he⟩;refine bY (l:=a.changes) (f:=cC) (λhlt=>?_) (λhge=>?_);have hlb:k<b.changes.length:=oO
 refine cG 10 kK ?_;refine ix hlt ?_;refine ix hlb ?_;refine cl (aaK a.changes[k] b.changes[k] (ha.each _ (aL _)) (hb.each _ (aL _))) ?_;refine bq ?_;by_cases h:a.changes[k]=b.changes[k];rw[av h];exact nx (k+1) (aU (k+1) ⟨hlt,Ai hl hlt he h⟩ oO rfl wS oS);rw[ak h];exact vE λe=>by subst e;exact h rfl
 have :a=b:=aej h1 h2 h3 h4 (Dj hl hge he);show dh.val (.bool true)=_;simp[this]
def zm (s:Bytes)(x y:UInt8):Bool:=s.all λc=>c !=x&&c !=y
theorem Lt {s:Bytes}{x y:UInt8}{k:Nat}{c:UInt8}(h:s[k]?=some c)(h2:c=x\/c=y):zm s x y=false:=by unfold zm;rw[List.all_eq_false];refine⟨c,bA h,?_⟩;rcases h2 with rfl|rfl<;>simp
theorem aaQ {a b:UInt8}(h:(a.toNat:Int)=(b.toNat:Int)):a=b:=UInt8.toNat_inj.1 oO
theorem aaR (s:Bytes)(x y:UInt8)(hs:s.length<=2^47):aj C 243 [.str s,.int .u8 x.toNat,.int .u8 y.toNat] (λr=>r=.val (.bool (zm s x y))):=by
 refine ag Tryz.func243 rfl rfl rfl ?_;refine bI 26 (λk:Nat=>[(0,.p (.str s)),(1,.p (.int .u8 x.toNat)),(2,.p (.int .u8 y.toNat)),(7,.p (.int .i64 k))]) (λ_=>[]) (λk=>k<=s.length/\∀i c,i<k->s[i]?=some c->c≠x/\c≠y) (λk=>s.length-k) 0 ⟨zL,λi c h=>absurd h (gu _)⟩ rfl wS trivial ?_;rintro k ⟨hk,hall⟩;refine az (λhlt=>?_) (λhge=>?_);have hlt:k<s.length:=by have :(k:Int)<(s.length:Int):=hlt;omega
 obtain⟨c,hc⟩:∃c,s[k]?=some c:=⟨_,aq hlt⟩;refine⟨none,?_⟩;refine⟨oO,c,GC rfl hc,?_⟩;refine aD (λh=>?_) (λh=>?_);rw[Lt hc (.inl (aaQ h))];exact rfl;refine⟨oO,c,GC rfl hc,?_⟩;refine aD (λh2=>?_) (λh2=>?_);rw[Lt hc (.inr (aaQ h2))];exact rfl;refine nx (k+1) (aU (k+1) ⟨hlt,λi d hi hd=>?_⟩ oO rfl wS trivial);by_cases hik:i=k;subst hik;rw[hc]at hd;obtain rfl:=an hd;exact⟨λe=>h (by rw[e]),λe=>h2 (by rw[e])⟩;exact hall i d oO hd;have hge:¬k<s.length:=λh=>hge (show(k:Int)<(s.length:Int)by omega);have :zm s x y=true:=by unfold zm;rw[bU];intro c hc;obtain⟨i,hi⟩:=iI hc;have :=hall i c (by have :=(aC.1 hi).1;omega) hi;simp[this.1,this.2]
 rw[this];exact rfl
def qc (s:Bytes):Bool:=decide (s.length<=1000)&&zm s 10 0
theorem Xt (s:Bytes)(hs:s.length<=2^47):aj C 204 [.str s] (λr=>r=.val (.bool (qc s))):=by
 refine ag Tryz.func204 rfl rfl rfl ?_;refine⟨none,?_⟩;refine az (λh=>?_) (λh=>?_);refine cl (aaR s 10 0 hs) ?_;have :s.length<=1000:=by have :(s.length:Int)<=1000:=h;omega
 show dh.val _=_;simp[qc,this];have :¬s.length<=1000:=by have :¬(s.length:Int)<=1000:=h;omega
 show dh.val _=_;simp[qc,this]
def vF (l:List ew):Nat:=(l.map λc=>c.name.length+c.data.length).sum
def Ez (c:ew):Bool:=zk c.lines||decide (40<c.over.length)
def iD (p:fW):Bool:=p.changes.any Ez||decide (3000<p.eV.length+p.message.length+vF p.changes)||decide (20<p.deps.length)||decide (20<p.changes.length)
theorem Tz (l:List ew)(k:Nat)(h:k<l.length):vF (l.take (k+1))=vF (l.take k)+(l[k].name.length+l[k].data.length):=by unfold vF;rw[<-eS h,aN,nR];simp
theorem AX {α:Type}{f:α->Bool}{l:List α}{k:Nat}(hk:k<l.length)(h:(l.take k).any f=false)(h2:f l[k]=false):(l.take (k+1)).any f=false:=by rw[<-eS hk,List.any_append,h];simp[h2]
theorem Xu (p:fW)(hp:Sw p):aj C 97 [.agg (cP p)] (λr=>r=.val (.bool (iD p))):=by
 have h1:=hp.len;refine ag Tryz.func97 rfl rfl rfl ?_;refine⟨IntKind.i64.wrap ((p.eV.length+p.message.length+vF (p.changes.take 0):Nat):Int),rfl,?_⟩;refine bI 57 (λk:Nat=>[(1,.ptr 1 0),(3,.p (.int .i64 (IntKind.i64.wrap ((p.eV.length+p.message.length+vF (p.changes.take k):Nat):Int)))),(4,.p (.int .i64 k))]) (λ_=>[(1,aF (cP p))]) (λk=>k<=p.changes.length/\(p.changes.take k).any Ez=false) (λk=>p.changes.length-k) 0 ⟨zL,rfl⟩ rfl wS oS ?_;rintro k ⟨hk,hn⟩;refine bY (l:=p.changes) (f:=cC) (λhlt=>?_) (λhge=>?_);have hc:=hp.each p.changes[k] (aL _);have bad:Ez p.changes[k]=true->dh.val (.bool true)=dh.val (.bool (iD p)):=λh=>by have :p.changes.any Ez=true:=fS.2 ⟨_,aL hlt,h⟩;simp[iD,this]
 refine ix hlt ?_;refine⟨none,?_⟩;refine cl (Xs p.changes[k].lines hc.lines) ?_;cases hg:zk p.changes[k].lines with
 |true=>exact bad (by simp[Ez,hg])
 |false=>
  refine az (λh=>?_) (λh=>?_);have :40<p.changes[k].over.length:=by have :(((iS p.changes[k].over).length:Nat):Int)>40:=h;simp only[iS,ai]at this;omega
  exact bad (by simp[Ez,this]);have h40:¬40<p.changes[k].over.length:=by have :¬(((iS p.changes[k].over).length:Nat):Int)>40:=h;simp only[iS,ai]at this;omega
  refine⟨IntKind.i64.wrap ((p.eV.length+p.message.length+vF (p.changes.take k)+p.changes[k].name.length:Nat):Int),by rw[wrap_add];rfl,?_⟩;refine⟨IntKind.i64.wrap ((p.eV.length+p.message.length+vF (p.changes.take (k+1)):Nat):Int),by rw[wrap_add,Tz _ _ hlt];congr 1;omega,?_⟩;exact nx (k+1) (aU (k+1) ⟨hlt,AX hlt hn (by simp[Ez,hg,h40])⟩ oO rfl wS oS)
 obtain rfl:k=p.changes.length:=oO
 rw[aP]at hn⊢;have hx:¬20<p.changes.length->IntKind.i64.wrap ((p.eV.length+p.message.length+vF p.changes:Nat):Int)=((p.eV.length+p.message.length+vF p.changes:Nat):Int):=λh=>by
  have h1:=zl (λc:ew=>c.name.length+c.data.length) (2^48) p.changes λc hc=>by have :=(hp.each c hc).name;have :=(hp.each c hc).data;omega
  have h2:p.changes.length*2^48<=20*2^48:=ec _ oO;have h3:=hp.eV;have h4:=hp.message;unfold vF;exact wrap64 oO oO
 refine⟨none,?_⟩;have jE:(((yo p.changes).length:Nat):Int)=(p.changes.length:Int):=by simp only[yo,ai]
 have hdl:(((jJ p.deps).length:Nat):Int)=(p.deps.length:Int):=by simp only[jJ,ai]
 refine az (λh=>?_) (λh=>az (λh2=>?_) (λh2=>az (λh3=>?_) (λh3=>?_)));show dh.val (.bool true)=_;by_cases h20:20<p.changes.length;simp[iD,h20];rw[hx h20]at h;have :3000<p.eV.length+p.message.length+vF p.changes:=oO
 simp[iD,this];have :20<p.deps.length:=by have :(((jJ p.deps).length:Nat):Int)>20:=h2;omega
 show dh.val (.bool true)=_;simp[iD,this];have :20<p.changes.length:=by have :(((yo p.changes).length:Nat):Int)>20:=h3;omega
 show dh.val (.bool true)=_;simp[iD,this];have h20:¬20<p.changes.length:=by have :¬(((yo p.changes).length:Nat):Int)>20:=h3;omega
 have hd:¬20<p.deps.length:=by have :¬(((jJ p.deps).length:Nat):Int)>20:=h2;omega
 rw[hx h20]at h;have hs:¬3000<p.eV.length+p.message.length+vF p.changes:=oO
 show dh.val (.bool false)=_;simp only[iD,hn,h20,hd,hs,decide_false,Bool.or_self]
inductive Sx where|atom (s:Bytes)|list (l:List Sx)
theorem Sx.ind {P:Sx->Prop}(h1:∀s,P (.atom s))(h2:∀l,(∀x,x∈l->P x)->P (.list l))(x:Sx):P x:=Sx.rec (motive_1:=P) (motive_2:=λl=>∀x,x∈l->P x) h1 (λl ih=>h2 l ih) (λx hx=>by cases hx) (λq l hq hl x hx=>by rcases aG.1 hx with rfl|hx;exact hq;exact hl x hx) x
mutual def cX:Sx->List AV|.atom s=>[.bool false,.str s,.sl []]|.list l=>[.bool true,.str [],.sl (mw l)] def mw:List Sx->List (List AV)|[]=>[]|x::l=>cX x::mw l end
mutual def nX:Sx->Nat|.atom _=>1|.list l=>1+sO l def sO:List Sx->Nat|[]=>0|x::l=>nX x+sO l end
mutual def dX:Sx->Nat|.atom _=>1|.list l=>1+VD l def VD:List Sx->Nat|[]=>0|x::l=>max (dX x) (VD l) end
mutual def aX:Sx->Nat|.atom s=>s.length|.list l=>aXs l def aXs:List Sx->Nat|[]=>0|x::l=>max (aX x) (aXs l) end
mutual def eX:Sx->Bytes|.atom s=>Lib.itoa (s.length:Int)++[58]++s|.list l=>[40]++JN l++[41] def JN:List Sx->Bytes|[]=>[]|x::l=>eX x++JN l end
theorem uu:∀l,mw l=l.map cX|[]=>rfl|x::l=>by show cX x::mw l=_;rw[uu l];rfl
theorem uv:∀l,sO l=(l.map nX).sum|[]=>rfl|x::l=>by show nX x+sO l=_;rw[uv l];simp
theorem vG:∀l,JN l=l.flatMap eX|[]=>rfl|x::l=>by show eX x++JN l=_;rw[vG l];simp
theorem NB:∀{l:List Sx}{x:Sx},x∈l->dX x<=VD l|y::l,x,h=>by show _<=max (dX y) (VD l);rcases aG.1 h with rfl|h;omega;have :=NB h;omega
theorem GD:∀{l:List Sx}{x:Sx},x∈l->aX x<=aXs l|y::l,x,h=>by show _<=max (aX y) (aXs l);rcases aG.1 h with rfl|h;omega;have :=GD h;omega
theorem agZ (x:Sx):1<=nX x:=by cases x<;>simp[nX]
theorem vH {l:List Sx}{k:Nat}(h:k<l.length):sO (l.take (k+1))=sO (l.take k)+nX l[k]:=by rw[uv,uv,<-eS h,aN,nR];simp
theorem nw (l:List Sx)(k:Nat):sO (l.take k)<=sO l:=by rw[uv,uv];exact FH nX l k
theorem wY:∀l,l.length<=sO l|[]=>ay _|x::l=>by have :=wY l;have :=agZ x;show l.length+1<=nX x+sO l;omega
theorem QM {l:List Sx}{k:Nat}(h:k<l.length):JN (l.take (k+1))=JN (l.take k)++eX l[k]:=by rw[vG,vG,<-eS h,mg];simp
theorem Xv (l:List Sx)(k:Nat):JN l=JN (l.take k)++JN (l.drop k):=by rw[vG,vG,vG,<-mg,dw]
theorem FI (l:List Sx)(k:Nat):(JN (l.take k)).length<=(JN l).length:=by rw[Xv l k,au];omega
theorem ag0 (x:Sx):(cX x).length=3:=by cases x<;>rfl
theorem Xw {l:List Sx}{k:Nat}(h:k<l.length):(mw l)[((k:Nat):Int).toNat]?=some (cX l[k]):=by rw[uu,lW,aM,aq h];rfl
theorem rC (l:List Sx):(mw l).length=l.length:=by rw[uu,ai]
theorem EA {k:Nat}{l:List Sx}{K:Bool->Prop}(h1:k<l.length->K true)(h2:¬k<l.length->K false):Al λt:Bool=>t=decide ((k:Int)<((mw l).length:Int))->K t:=by rw[uu];exact bY h1 h2
theorem aaS (x:Sx):∀lim d:Nat,nX x<=lim->dX x<=d->lim<=2^20->d<=100->aj C 240 [.agg (cX x),.int .i64 (lim:Int),.int .i64 (d:Int)] (λr=>r=.val (.int .i64 (nX x:Int))):=by
 induction x using Sx.ind with
 |h1 s=>intro lim d h1 h2 h3 h4;have h1:1<=lim:=h1;have h2:1<=d:=h2;refine ag Tryz.func240 rfl rfl rfl ?_;refine⟨none,?_⟩;refine az (λh=>absurd h oO) (λ_=>az (λh=>absurd h oO) (λ_=>?_));refine bq ?_;exact rfl
 |h2 l ih=>
  intro lim d h1 h2 h3 h4;have h1:1+sO l<=lim:=h1;have h2:1+VD l<=d:=h2;refine ag Tryz.func240 rfl rfl rfl ?_;refine⟨none,?_⟩;refine az (λh=>absurd h oO) (λ_=>az (λh=>absurd h oO) (λ_=>?_));refine bq ?_;have hlen:=wY l;refine bI 47 (λk:Nat=>[(1,.p (.int .i64 (lim:Int))),(2,.p (.int .i64 (d:Int))),(3,.ptr 3 0),(7,.p (.int .i64 ((1+sO (l.take k):Nat):Int))),(8,.p (.int .i64 k))]) (λ_=>[(3,aF [.bool true,.str [],.sl (mw l)])]) (λk=>k<=l.length) (λk=>l.length-k) 0 (zL) rfl wS oS ?_;intro k hk;have ht:=nw l k;refine⟨none,?_⟩;refine EA (λhlt=>?_) (λhge=>?_)
  ·refine az (λ_=>?_) (λh=>absurd (show((1+sO (l.take k):Nat):Int)<=(lim:Int)by omega) h);have ht2:=nw l (k+1);have hs:=vH hlt;have hm:=aL hlt;have hi:=ih l[k] hm (lim-(1+sO (l.take k))) (d-1) oO (by have :=NB hm;omega) oO oO;have jc:=Xw hlt;generalize l[k]=y at hi jc hs;cases y;all_goals refine⟨oO,_,jc,rfl,?_⟩;refine⟨((lim-(1+sO (l.take k)):Nat):Int),by rw[wrap64 oO oO];omega,?_⟩;refine nx (d-1) ?_;refine cl hi ?_;refine⟨((1+sO (l.take (k+1)):Nat):Int),by rw[wrap64 oO oO];omega,?_⟩;exact nx (k+1) (aU (k+1) hlt oO rfl wS oS)
  have :k=l.length:=oO
  subst this;rw[aP];exact rfl
theorem ag1 (x:Sx):aX x<=65536->nX x<=2^20->aj C 241 [.agg (cX x)] (λr=>r=.val (.int .i64 0)):=by
 induction x using Sx.ind with
 |h1 s=>intro h1 _;have h1:s.length<=65536:=h1;refine ag Tryz.func241 rfl rfl rfl ?_;refine bq ?_;refine az (λh=>absurd h dD) (λ_=>?_);refine az (λh=>absurd h oO) (λ_=>?_);exact rfl
 |h2 l ih=>
  intro h1 h2;have h1:aXs l<=65536:=h1;have h2:1+sO l<=2^20:=h2;have hlen:=wY l;refine ag Tryz.func241 rfl rfl rfl ?_;refine bq ?_;refine uK (λh=>absurd rfl h) (λ_=>?_);refine bI 35 (λk:Nat=>[(1,.ptr 1 0),(3,.p (.int .i64 k))]) (λ_=>[(1,aF [.bool true,.str [],.sl (mw l)])]) (λk=>k<=l.length) (λk=>l.length-k) 0 (zL) rfl wS oS ?_;intro k hk;refine EA (λhlt=>?_) (λhge=>?_)
  ·have hm:=aL hlt;have hs:=vH hlt;have ht2:=nw l (k+1);have hi:=ih l[k] hm (by have :=GD hm;omega) oO;have jc:=Xw hlt;generalize l[k]=y at hi jc hs;cases y;all_goals refine⟨oO,_,jc,rfl,?_⟩;refine cl hi ?_;refine cS (λh=>absurd rfl h) (λ_=>?_);exact nx (k+1) (aU (k+1) hlt oO rfl wS oS)
  exact rfl
theorem Xx (x:Sx)(h1:nX x<=20000)(h2:dX x<=12)(h3:aX x<=65536):aj C 200 [.agg (cX x)] (λr=>r=.val (.int .i64 0)):=by have hc:=aaS x 20000 12 h1 h2 dD dD;have hk:=ag1 x h3 oO;cases x;all_goals refine ag Tryz.func200 rfl rfl rfl ?_;refine cl hc ?_;refine az (λh=>absurd h oO) (λ_=>?_);refine cl hk ?_;exact rfl
theorem aaT (u:Nat)(h:u<10):Lib.itoa (u:Int)=[UInt8.ofNat (48+u)]:=by unfold Lib.itoa;rw[aa oO];show Lib.decDigits (Int.toNat (u:Int))=_;rw[lW,Lib.decDigits,dif_pos h]
theorem Xy (u:Nat)(h:¬u<10):Lib.itoa (u:Int)=Lib.itoa ((u/10:Nat):Int)++[UInt8.ofNat (48+u%10)]:=by
 unfold Lib.itoa;rw[aa oO,aa oO];show Lib.decDigits (Int.toNat (u:Int))=Lib.decDigits (Int.toNat ((u/10:Nat):Int))++_;rw[lW,lW];conv=>lhs;rw[Lib.decDigits]
 rw[dif_neg h]
theorem Bu (u:Nat)(hu:u<=2^60):aj C 242 [.int .i64 (u:Int)] (λr=>r=.val (.str (Lib.itoa u))):=by
 induction u using Nat.strongRecOn with
 |_ u ih=>
  have dig:∀d:Nat,d<10->((48+d:Nat):Int)=((UInt8.ofNat (48+d)).toNat:Int):=λd hd=>by simp;omega
  refine ag Tryz.func242 rfl rfl rfl ?_;refine az (λh=>absurd h oO) (λ_=>?_);refine az (λh=>?_) (λh=>?_);have hu:u<10:=oO
  refine⟨_,(show IntKind.i64.wrap (48+(u:Int))=((48+u:Nat):Int)from by rw[wrap64 oO oO];omega),?_⟩;refine⟨((48+u:Nat):Int),aag oO oO,?_⟩;refine⟨[UInt8.ofNat (48+u)],(by show[[AV.int .u8 ((48+u:Nat):Int)]]=[[AV.int .u8 ((UInt8.ofNat (48+u)).toNat:Int)]];rw[dig u hu]),?_⟩;show dh.val _=_;rw[aaT u hu];have hu':¬u<10:=oO
  have l1:=Lib.itoa_length_le ((u/10:Nat):Int) oO oO;refine cG 11 kK ?_;refine⟨dD,((u/10:Nat):Int),(by rw[show((u:Int).tdiv 10)=((u/10:Nat):Int)from rfl];exact wrap64 oO oO),?_⟩;refine⟨_,ih (u/10) oO oO,?_⟩;refine⟨dD,((u%10:Nat):Int),rfl,?_⟩;refine⟨_,(show IntKind.i64.wrap (48+((u%10:Nat):Int))=((48+u%10:Nat):Int)from by rw[wrap64 oO oO];omega),?_⟩;refine⟨.p (.int .u8 ((48+u%10:Nat):Int)),⟨_,aag oO oO,rfl⟩,?_⟩;refine⟨_,rfl,?_⟩;refine⟨.p (.str [UInt8.ofNat (48+u%10)]),⟨[UInt8.ofNat (48+u%10)],(by show[[AV.int .u8 ((48+u%10:Nat):Int)]]=[[AV.int .u8 ((UInt8.ofNat (48+u%10)).toNat:Int)]];rw[dig _ oO]),rfl⟩,?_⟩;refine⟨by simp only[au,fo];omega,?_⟩;show dh.val _=_;rw[Xy u hu']
theorem itoa_neg (n:Int)(h:n<0):Lib.itoa n=[45]++Lib.itoa (-n):=by unfold Lib.itoa;rw[af h,aa oO,show n.natAbs=(-n).toNat from oO];rfl
theorem ael (n:Int)(h0:-2^60<=n)(h1:n<=2^60):aj C 242 [.int .i64 n] (λr=>r=.val (.str (Lib.itoa n))):=by by_cases h:n<0;obtain⟨u,hu⟩:=ji (show 0<=-n by omega);refine ag Tryz.func242 rfl rfl rfl ?_;refine az (λ_=>?_) (λh2=>absurd h h2);refine az (λh2=>absurd h2 oO) (λ_=>?_);refine⟨(u:Int),by rw[wrap64 oO oO];omega,?_⟩;have l1:=Lib.itoa_length_le (u:Int) oO oO;refine cl (Bu u oO) ?_;refine⟨by simp only[aI,bk];omega,?_⟩;rw[itoa_neg n h,hu];exact rfl;obtain⟨u,rfl⟩:=ji (show 0<=n by omega);exact Bu u oO
theorem TA (x:Sx):(eX x).length<=2^40->nX x<=2^20->aj C 201 [.agg (cX x)] (λr=>r=.val (.str (eX x))):=by
 induction x using Sx.ind with
 |h1 s=>intro h1 _;have h1:(Lib.itoa (s.length:Int)++[58]++s).length<=2^40:=h1;simp only[au,aI,bk]at h1;refine ag Tryz.func201 rfl rfl rfl ?_;refine bq ?_;refine cG 9 kK ?_;refine⟨_,Bu s.length oO,?_⟩;refine⟨by simp only[aI,bk];omega,?_⟩;refine⟨by simp only[au,aI,bk];omega,?_⟩;exact rfl
 |h2 l ih=>
  intro h1 h2;have h1:([40]++JN l++[41]).length<=2^40:=h1;have h2:1+sO l<=2^20:=h2;simp only[au,aI,bk]at h1;have hlen:=wY l;refine ag Tryz.func201 rfl rfl rfl ?_;refine bq ?_;refine bI 33 (λk:Nat=>[(1,.ptr 1 0),(3,.p (.str ([40]++JN (l.take k)))),(4,.p (.int .i64 k))]) (λ_=>[(1,aF [.bool true,.str [],.sl (mw l)])]) (λk=>k<=l.length) (λk=>l.length-k) 0 (zL) rfl wS oS ?_;intro k hk;refine EA (λhlt=>?_) (λhge=>?_)
  ·have hm:=aL hlt;have hs:=vH hlt;have he:=QM hlt;have hel:=aS List.length he;rw[au]at hel;have ht2:=nw l (k+1);have hb:=FI l (k+1);have hi:=ih l[k] hm oO oO;have jc:=Xw hlt;generalize l[k]=y at hi jc hs he hel;cases y;all_goals refine⟨oO,_,jc,rfl,?_⟩;refine cl hi ?_;refine⟨by simp only[au,aI,bk];omega,?_⟩;exact nx (k+1) (aU (k+1) hlt oO rfl ⟨aR.refl _,aR.eq (by rw[he,<-br];rfl),aR.refl _,trivial⟩ oS)
  have :k=l.length:=oO
  subst this;rw[aP];refine⟨by simp only[au,aI,bk];omega,?_⟩;exact rfl
structure OkX (x:Sx):Prop where
 nodes:nX x<=20000
 depth:dX x<=12
 atoms:aX x<=65536
 len:(eX x).length<=2^40
theorem TB (x:Sx)(h:OkX x):aj C 159 [.agg (cX x)] (λr=>r=.val (.eY [.str (eX x),.int .i64 0])):=by have hc:=Xx x h.nodes h.depth h.atoms;have hk:=TA x h.len (by have :=h.nodes;omega);clear h;cases x;all_goals refine ag Tryz.func159 rfl rfl rfl ?_;refine cl hc ?_;refine cS (λh=>absurd rfl h) (λ_=>?_);refine cl hk ?_;exact rfl
def ali (n:Int):Sx:=.atom (Lib.itoa n)
theorem aem (n:Int)(h0:-1099511627776<=n)(h1:n<=1099511627776):aj C 202 [.int .i64 n] (λr=>r=.val (.eY [.agg (cX (ali n)),.int .i64 0])):=by refine ag Tryz.func202 rfl rfl rfl ?_;refine⟨none,?_⟩;refine az (λh=>absurd h oO) (λ_=>az (λh=>absurd h oO) (λ_=>?_));refine cl (ael n oO oO) ?_;exact rfl
def QN (n:Int):Bytes:=if-1099511627776<=n/\n<=1099511627776 then Lib.itoa n else[]
def dgB (d:Dg):Bytes:=if d=bz then[]else d.1
abbrev zX:List FV:=[.p (.bool false),.p (.str []),.full []]
def cr (n:Int):Sx:=.atom (QN n)
def nc (d:Dg):Sx:=.atom (dgB d)
def bO (x:bf):Sx:=.list [nc x.p,cr x.n]
def rN (l:List bf):Sx:=.list (l.map bO)
def Sy (l:List Bytes):Sx:=.list (l.map Sx.atom)
theorem rO (s:Bytes):aj C 161 [.str s] (λr=>r=.val (.agg (cX (.atom s)))):=by refine ag Tryz.func161 rfl rfl rfl ?_;exact rfl
theorem kY (l:List Sx):aj C 160 [.sl (mw l)] (λr=>r=.val (.agg (cX (.list l)))):=by refine ag Tryz.func160 rfl rfl rfl ?_;exact rfl
theorem Xz (n:Int)(h:¬(-1099511627776<=n/\n<=1099511627776)):aj C 202 [.int .i64 n] (λr=>r=.val (.eY [.agg (cX (.atom [])),.int .i64 2])):=by refine ag Tryz.func202 rfl rfl rfl ?_;refine⟨none,?_⟩;refine az (λ_=>?_) (λh1=>az (λ_=>?_) (λh2=>absurd (show-1099511627776<=n/\n<=1099511627776 by omega) h));exact rfl;exact rfl
theorem qd (n:Int):aj C 162 [.int .i64 n] (λr=>r=.val (.agg (cX (cr n)))):=by by_cases h:-1099511627776<=n/\n<=1099511627776;have e:QN n=Lib.itoa n:=af h;unfold cr;rw[e];refine ag Tryz.func162 rfl rfl rfl ?_;refine cl (aem n h.1 h.2) ?_;exact rfl;have e:QN n=[]:=aa h;unfold cr;rw[e];refine ag Tryz.func162 rfl rfl rfl ?_;refine cl (Xz n h) ?_;exact rfl
theorem XA (d:Dg):aj C 197 [.agg (cD d)] (λr=>r=.val (.str d.1)):=by refine bn {opens:=[],Be:=[],full:=false,fzo:=[1]} [] Tryz.func197 rfl rfl rfl ?_;refine⟨[1],bZ (cells:=aF (cD d)) (ys:=cD d) rfl (bl _) rfl ?_⟩;refine⟨dD,dD,rfl,(by show 32<=32;decide),_,Tv d,?_⟩;refine⟨d.1,rfl,?_⟩;exact rfl
theorem VE (d:Dg):aj C 157 [.agg (cD d)] (λr=>r=.val (.agg (cX (nc d)))):=by refine ag Tryz.func157 rfl rfl rfl ?_;refine cl (wU d) ?_;unfold nc;by_cases h:d=bz;have e:dgB d=[]:=af h;rw[av h,e];refine cl (rO []) ?_;exact rfl;have e:dgB d=d.1:=aa h;rw[ak h,e];refine cl (XA d) ?_;refine cl (rO d.1) ?_;exact rfl
theorem qe (x:bf):aj C 198 [.agg (cI x)] (λr=>r=.val (.agg (cX (bO x)))):=by refine ag Tryz.func198 rfl rfl rfl ?_;refine cG 5 kK ?_;refine⟨_,VE x.p,?_⟩;refine cl (qd x.n) ?_;refine cl (kY [nc x.p,cr x.n]) ?_;exact rfl
theorem ct {α β:Type}{f:α->β}{l:List α}{k:Nat}(h:k<l.length):(l.take (k+1)).map f=(l.take k).map f++[f l[k]]:=by rw[<-eS h,aN];rfl
theorem gv (l:List Sx):∀zs,zs∈mw l->zs.length=3:=by intro zs h;rw[uu]at h;obtain⟨x,-,rfl⟩:=aA.1 h;exact ag0 x
theorem uw (a b:List Sx):mw a++mw b=mw (a++b):=by rw[uu,uu,uu,aN]
theorem zn (l:List bf)(hl:l.length<=2^40):aj C 199 [.sl (iS l)] (λr=>r=.val (.agg (cX (rN l)))):=by
 unfold iS;refine ag Tryz.func199 rfl rfl rfl ?_;refine bI 22 (λk:Nat=>[(0,.p (.sl (l.map cI))),(2,.ptr 2 0),(3,.eU 5 192 3 (mw ((l.take k).map bO))),(4,.p (.int .i64 k))]) (λ_=>[(2,zX)]) (λk=>k<=l.length) (λk=>l.length-k) 0 (zL) rfl wS oS ?_;intro k hk;refine bY (λhlt=>?_) (λhge=>?_);refine ix hlt ?_;refine cl (qe l[k]) ?_;refine⟨gv _,gv [bO l[k]],by show((mw ((l.take k).map bO)).length+1)*48<=_;rw[rC,ai,aH];omega,mw ((l.take (k+1)).map bO),by rw[ct hlt,<-uw];rfl,?_⟩;exact nx (k+1) (aU (k+1) hlt oO rfl wS oS);obtain rfl:k=l.length:=oO
 rw[aP];refine cl (kY (l.map bO)) ?_;exact rfl
def qA (c:ew):List Sx:=[cr c.kind]++((if c.kind=1 then[]else if c.kind=7 then[]else[bO c.file])++((if c.kind=1 then[cr c.type]else if c.kind=2 then[bO c.parent,.atom c.name]else if c.kind=3 then[cr c.mode]else if c.kind=4 then[.atom c.data]else if c.kind=5\/c.kind=6 then[bO c.dc,bO c.dy]else[])++(if c.kind=5 then[Sy c.lines]else if c.kind=1 then[]else[rN c.over])))
def mD (c:ew):Sx:=.list (qA c)
theorem bX (a b:List Sx)(ha:a.length<=100)(hb:b.length<=100):((mw a).length+(mw b).length)*48<=140737488355328:=by rw[rC,rC];omega
theorem aen (c:ew)(hk:c.kind=1)(ho:c.over.length<=2^40):aj C 158 [.agg (cC c)] (λr=>r=.val (.agg (cX (mD c)))):=by
 cases c with
 |mk kind file type parent name mode data dc dy lines over=>simp only at hk ho;subst hk;refine ag Tryz.func158 rfl rfl rfl ?_;refine cl (qd 1) ?_;refine⟨none,?_⟩;refine az (λh=>absurd (show(1:Int)≥2 from h) dD) (λ_=>?_);refine aD (λ_=>?_) (λh=>absurd (show(1:Int)=1 by decide) h);refine cl (qd type) ?_;refine⟨gv [cr 1],gv [cr type],bX [cr 1] [cr type] (by simp) (by simp),mw [cr 1,cr type],rfl,?_⟩;refine aD (λh=>absurd (show(1:Int)=5 from h) dD) (λ_=>?_);refine cS (λh=>absurd rfl h) (λ_=>?_);refine cl (kY [cr 1,cr type]) ?_;exact rfl
theorem aeo (c:ew)(hk:c.kind=2)(ho:c.over.length<=2^40):aj C 158 [.agg (cC c)] (λr=>r=.val (.agg (cX (mD c)))):=by
 cases c with
 |mk kind file type parent name mode data dc dy lines over=>simp only at hk ho;subst hk;refine ag Tryz.func158 rfl rfl rfl ?_;refine cl (qd 2) ?_;refine⟨none,?_⟩;refine az (λ_=>?_) (λh=>absurd (show(2:Int)≥2 by decide) h);refine az (λ_=>?_) (λh=>absurd (show(2:Int)<=6 by decide) h);refine cl (qe file) ?_;refine⟨gv [cr 2],gv [bO file],bX [cr 2] [bO file] (by simp) (by simp),mw [cr 2,bO file],rfl,?_⟩;refine aD (λh=>absurd (show(2:Int)=1 from h) dD) (λ_=>?_);refine aD (λ_=>?_) (λh=>absurd (show(2:Int)=2 by decide) h);refine cG 8 kK ?_;refine⟨_,qe parent,?_⟩;refine⟨_,rO name,?_⟩;refine⟨_,rfl,?_⟩;refine⟨gv [cr 2,bO file],gv [bO parent,.atom name],bX [cr 2,bO file] [bO parent,.atom name] (by simp) (by simp),mw [cr 2,bO file,bO parent,.atom name],rfl,?_⟩;refine aD (λh=>absurd (show(2:Int)=5 from h) dD) (λ_=>?_);refine cS (λ_=>?_) (λh=>absurd (show(2:Int)=1 from h) dD);refine cl (zn over ho) ?_;refine⟨gv [cr 2,bO file,bO parent,.atom name],gv [rN over],bX [cr 2,bO file,bO parent,.atom name] [rN over] (by simp) (by simp),mw [cr 2,bO file,bO parent,.atom name,rN over],rfl,?_⟩;refine cl (kY [cr 2,bO file,bO parent,.atom name,rN over]) ?_;exact rfl
theorem aep (c:ew)(hk:c.kind=3)(ho:c.over.length<=2^40):aj C 158 [.agg (cC c)] (λr=>r=.val (.agg (cX (mD c)))):=by
 cases c with
 |mk kind file type parent name mode data dc dy lines over=>simp only at hk ho;subst hk;refine ag Tryz.func158 rfl rfl rfl ?_;refine cl (qd 3) ?_;refine⟨none,?_⟩;refine az (λ_=>?_) (λh=>absurd (show(3:Int)≥2 by decide) h);refine az (λ_=>?_) (λh=>absurd (show(3:Int)<=6 by decide) h);refine cl (qe file) ?_;refine⟨gv [cr 3],gv [bO file],bX [cr 3] [bO file] (by simp) (by simp),mw [cr 3,bO file],rfl,?_⟩;refine aD (λh=>absurd (show(3:Int)=1 from h) dD) (λ_=>?_);refine aD (λh=>absurd (show(3:Int)=2 from h) dD) (λ_=>?_);refine aD (λ_=>?_) (λh=>absurd (show(3:Int)=3 by decide) h);refine cl (qd mode) ?_;refine⟨gv [cr 3,bO file],gv [cr mode],bX [cr 3,bO file] [cr mode] (by simp) (by simp),mw [cr 3,bO file,cr mode],rfl,?_⟩;refine aD (λh=>absurd (show(3:Int)=5 from h) dD) (λ_=>?_);refine cS (λ_=>?_) (λh=>absurd (show(3:Int)=1 from h) dD);refine cl (zn over ho) ?_;refine⟨gv [cr 3,bO file,cr mode],gv [rN over],bX [cr 3,bO file,cr mode] [rN over] (by simp) (by simp),mw [cr 3,bO file,cr mode,rN over],rfl,?_⟩;refine cl (kY [cr 3,bO file,cr mode,rN over]) ?_;exact rfl
theorem aeq (c:ew)(hk:c.kind=4)(ho:c.over.length<=2^40):aj C 158 [.agg (cC c)] (λr=>r=.val (.agg (cX (mD c)))):=by
 cases c with
 |mk kind file type parent name mode data dc dy lines over=>simp only at hk ho;subst hk;refine ag Tryz.func158 rfl rfl rfl ?_;refine cl (qd 4) ?_;refine⟨none,?_⟩;refine az (λ_=>?_) (λh=>absurd (show(4:Int)≥2 by decide) h);refine az (λ_=>?_) (λh=>absurd (show(4:Int)<=6 by decide) h);refine cl (qe file) ?_;refine⟨gv [cr 4],gv [bO file],bX [cr 4] [bO file] (by simp) (by simp),mw [cr 4,bO file],rfl,?_⟩;refine aD (λh=>absurd (show(4:Int)=1 from h) dD) (λ_=>?_);refine aD (λh=>absurd (show(4:Int)=2 from h) dD) (λ_=>?_);refine aD (λh=>absurd (show(4:Int)=3 from h) dD) (λ_=>?_);refine aD (λ_=>?_) (λh=>absurd (show(4:Int)=4 by decide) h);refine cl (rO data) ?_;refine⟨gv [cr 4,bO file],gv [.atom data],bX [cr 4,bO file] [.atom data] (by simp) (by simp),mw [cr 4,bO file,.atom data],rfl,?_⟩;refine aD (λh=>absurd (show(4:Int)=5 from h) dD) (λ_=>?_);refine cS (λ_=>?_) (λh=>absurd (show(4:Int)=1 from h) dD);refine cl (zn over ho) ?_;refine⟨gv [cr 4,bO file,.atom data],gv [rN over],bX [cr 4,bO file,.atom data] [rN over] (by simp) (by simp),mw [cr 4,bO file,.atom data,rN over],rfl,?_⟩;refine cl (kY [cr 4,bO file,.atom data,rN over]) ?_;exact rfl
theorem aer (c:ew)(hk:c.kind=5)(ho:c.lines.length<=2^40):aj C 158 [.agg (cC c)] (λr=>r=.val (.agg (cX (mD c)))):=by
 cases c with
 |mk kind file type parent name mode data dc dy lines over=>
  simp only at hk ho;subst hk;refine ag Tryz.func158 rfl rfl rfl ?_;refine cl (qd 5) ?_;refine⟨none,?_⟩;refine az (λ_=>?_) (λh=>absurd (show(5:Int)≥2 by decide) h);refine az (λ_=>?_) (λh=>absurd (show(5:Int)<=6 by decide) h);refine cl (qe file) ?_;refine⟨gv [cr 5],gv [bO file],bX [cr 5] [bO file] (by simp) (by simp),mw [cr 5,bO file],rfl,?_⟩;refine aD (λh=>absurd (show(5:Int)=1 from h) dD) (λ_=>?_);refine aD (λh=>absurd (show(5:Int)=2 from h) dD) (λ_=>?_);refine aD (λh=>absurd (show(5:Int)=3 from h) dD) (λ_=>?_);refine aD (λh=>absurd (show(5:Int)=4 from h) dD) (λ_=>?_);refine aD (λ_=>?_) (λh=>absurd (show(5:Int)=5 by decide) h);refine cG 8 kK ?_;refine⟨_,qe dc,?_⟩;refine⟨_,qe dy,?_⟩;refine⟨_,rfl,?_⟩;refine⟨gv [cr 5,bO file],gv [bO dc,bO dy],bX [cr 5,bO file] [bO dc,bO dy] (by simp) (by simp),mw [cr 5,bO file,bO dc,bO dy],rfl,?_⟩;refine aD (λ_=>?_) (λh=>absurd (show(5:Int)=5 by decide) h);refine bI 109 (λk:Nat=>[(1,.ptr 1 0),(2,.ptr 2 0),(3,.eU 9 192 3 (mw [cr 5,bO file,bO dc,bO dy])),(4,.eU 76 192 3 (mw ((lines.take k).map Sx.atom))),(5,.p (.int .i64 k))]) (λ_=>[(1,aF (cC ⟨5,file,type,parent,name,mode,data,dc,dy,lines,over⟩)),(2,zX)]) (λk=>k<=lines.length) (λk=>lines.length-k) 0 (zL) rfl wS oS ?_;intro k hk;refine bY (l:=lines) (f:=oo) (λhlt=>?_) (λhge=>?_);refine ix hlt ?_;refine cl (rO lines[k]) ?_;refine⟨gv _,gv [.atom lines[k]],by show((mw ((lines.take k).map Sx.atom)).length+1)*48<=_;rw[rC,ai,aH];omega,mw ((lines.take (k+1)).map Sx.atom),by rw[ct hlt,<-uw];rfl,?_⟩;exact nx (k+1) (aU (k+1) hlt oO rfl wS oS);obtain rfl:k=lines.length:=oO
  rw[aP];refine cl (kY (lines.map Sx.atom)) ?_;refine⟨gv [cr 5,bO file,bO dc,bO dy],gv [Sy lines],bX [cr 5,bO file,bO dc,bO dy] [Sy lines] (by simp) (by simp),mw [cr 5,bO file,bO dc,bO dy,Sy lines],rfl,?_⟩;refine cl (kY [cr 5,bO file,bO dc,bO dy,Sy lines]) ?_;exact rfl
theorem aes (c:ew)(hk:c.kind=6)(ho:c.over.length<=2^40):aj C 158 [.agg (cC c)] (λr=>r=.val (.agg (cX (mD c)))):=by
 cases c with
 |mk kind file type parent name mode data dc dy lines over=>simp only at hk ho;subst hk;refine ag Tryz.func158 rfl rfl rfl ?_;refine cl (qd 6) ?_;refine⟨none,?_⟩;refine az (λ_=>?_) (λh=>absurd (show(6:Int)≥2 by decide) h);refine az (λ_=>?_) (λh=>absurd (show(6:Int)<=6 by decide) h);refine cl (qe file) ?_;refine⟨gv [cr 6],gv [bO file],bX [cr 6] [bO file] (by simp) (by simp),mw [cr 6,bO file],rfl,?_⟩;refine aD (λh=>absurd (show(6:Int)=1 from h) dD) (λ_=>?_);refine aD (λh=>absurd (show(6:Int)=2 from h) dD) (λ_=>?_);refine aD (λh=>absurd (show(6:Int)=3 from h) dD) (λ_=>?_);refine aD (λh=>absurd (show(6:Int)=4 from h) dD) (λ_=>?_);refine aD (λh=>absurd (show(6:Int)=5 from h) dD) (λ_=>?_);refine aD (λ_=>?_) (λh=>absurd (show(6:Int)=6 by decide) h);refine cG 8 kK ?_;refine⟨_,qe dc,?_⟩;refine⟨_,qe dy,?_⟩;refine⟨_,rfl,?_⟩;refine⟨gv [cr 6,bO file],gv [bO dc,bO dy],bX [cr 6,bO file] [bO dc,bO dy] (by simp) (by simp),mw [cr 6,bO file,bO dc,bO dy],rfl,?_⟩;refine aD (λh=>absurd (show(6:Int)=5 from h) dD) (λ_=>?_);refine cS (λ_=>?_) (λh=>absurd (show(6:Int)=1 from h) dD);refine cl (zn over ho) ?_;refine⟨gv [cr 6,bO file,bO dc,bO dy],gv [rN over],bX [cr 6,bO file,bO dc,bO dy] [rN over] (by simp) (by simp),mw [cr 6,bO file,bO dc,bO dy,rN over],rfl,?_⟩;refine cl (kY [cr 6,bO file,bO dc,bO dy,rN over]) ?_;exact rfl
theorem aet (c:ew)(hk:c.kind=7)(ho:c.over.length<=2^40):aj C 158 [.agg (cC c)] (λr=>r=.val (.agg (cX (mD c)))):=by
 cases c with
 |mk kind file type parent name mode data dc dy lines over=>simp only at hk ho;subst hk;refine ag Tryz.func158 rfl rfl rfl ?_;refine cl (qd 7) ?_;refine⟨none,?_⟩;refine az (λ_=>?_) (λh=>absurd (show(7:Int)≥2 by decide) h);refine az (λh=>absurd (show(7:Int)<=6 from h) dD) (λ_=>?_);refine aD (λh=>absurd (show(7:Int)=1 from h) dD) (λ_=>?_);refine aD (λh=>absurd (show(7:Int)=2 from h) dD) (λ_=>?_);refine aD (λh=>absurd (show(7:Int)=3 from h) dD) (λ_=>?_);refine aD (λh=>absurd (show(7:Int)=4 from h) dD) (λ_=>?_);refine aD (λh=>absurd (show(7:Int)=5 from h) dD) (λ_=>?_);refine aD (λh=>absurd (show(7:Int)=6 from h) dD) (λ_=>?_);refine aD (λh=>absurd (show(7:Int)=5 from h) dD) (λ_=>?_);refine cS (λ_=>?_) (λh=>absurd (show(7:Int)=1 from h) dD);refine cl (zn over ho) ?_;refine⟨gv [cr 7],gv [rN over],bX [cr 7] [rN over] (by simp) (by simp),mw [cr 7,rN over],rfl,?_⟩;refine cl (kY [cr 7,rN over]) ?_;exact rfl
theorem aeu (c:ew)(h1:1<=c.kind)(h7:c.kind<=7)(hl:c.lines.length<=2^40)(ho:c.over.length<=2^40):aj C 158 [.agg (cC c)] (λr=>r=.val (.agg (cX (mD c)))):=by by_cases e1:c.kind=1;exact aen c e1 ho;by_cases e2:c.kind=2;exact aeo c e2 ho;by_cases e3:c.kind=3;exact aep c e3 ho;by_cases e4:c.kind=4;exact aeq c e4 ho;by_cases e5:c.kind=5;exact aer c e5 hl;by_cases e6:c.kind=6;exact aes c e6 ho;exact aet c oO ho
def q1B:Bytes:=[113,117,105,108,116,49]
def kj (p:fW):Sx:=.list [.atom q1B,.atom p.eV,.atom p.message,cr p.time,.list (p.deps.map nc),.list (p.changes.map mD)]
def aev (p:fW):AV:=if(eX (kj p)).length<=65536 then .eY [.str (eX (kj p)),.int .i64 0]else .eY [.str [],.int .i64 4]
theorem aew (p:fW)(hx:OkX (kj p))(hd:p.deps.length<=2^40)(hc:p.changes.length<=2^40)(hk:∀c,c∈p.changes->1<=c.kind/\c.kind<=7/\c.lines.length<=2^40/\c.over.length<=2^40):aj C 128 [.agg (cP p)] (λr=>r=.val (aev p)):=by
 refine ag Tryz.func128 rfl rfl rfl ?_;refine bI 72 (λk:Nat=>[(1,.ptr 1 0),(4,.eU 10 192 3 (mw ((p.deps.take k).map nc))),(5,.eU 11 192 3 []),(6,.p (.int .i64 k))]) (λ_=>[(1,aF (cP p))]) (λk=>k<=p.deps.length) (λk=>p.deps.length-k) 0 (zL) rfl wS oS ?_;intro k tW;refine bY (l:=p.deps) (f:=cD) (λhlt=>?_) (λhge=>?_);refine ix hlt ?_;refine cl (VE p.deps[k]) ?_;refine⟨gv _,gv [nc p.deps[k]],by show((mw ((p.deps.take k).map nc)).length+1)*48<=_;rw[rC,ai,aH];omega,mw ((p.deps.take (k+1)).map nc),by rw[ct hlt,<-uw];rfl,?_⟩;exact nx (k+1) (aU (k+1) hlt oO rfl wS oS);obtain rfl:k=p.deps.length:=oO
 rw[aP];refine bI 72 (λk:Nat=>[(1,.ptr 1 0),(4,.eU 10 192 3 (mw (p.deps.map nc))),(5,.eU 11 192 3 (mw ((p.changes.take k).map mD))),(7,.p (.int .i64 k))]) (λ_=>[(1,aF (cP p))]) (λk=>k<=p.changes.length) (λk=>p.changes.length-k) 0 (zL) rfl wS oS ?_;intro k hk2;refine bY (l:=p.changes) (f:=cC) (λhlt=>?_) (λhge=>?_);obtain⟨g1,g2,g3,g4⟩:=hk p.changes[k] (aL _);refine ix hlt ?_;refine cl (aeu p.changes[k] g1 g2 g3 g4) ?_;refine⟨gv _,gv [mD p.changes[k]],by show((mw ((p.changes.take k).map mD)).length+1)*48<=_;rw[rC,ai,aH];omega,mw ((p.changes.take (k+1)).map mD),by rw[ct hlt,<-uw];rfl,?_⟩;exact nx (k+1) (aU (k+1) hlt oO rfl wS oS);obtain rfl:k=p.changes.length:=oO
 rw[aP];refine cG 21 kK ?_;refine⟨_,rO q1B,?_⟩;refine⟨_,rO p.eV,?_⟩;refine⟨_,rO p.message,?_⟩;refine⟨_,qd p.time,?_⟩;refine⟨_,kY (p.deps.map nc),?_⟩;refine⟨_,kY (p.changes.map mD),?_⟩;refine⟨_,rfl,?_⟩;refine⟨_,kY [.atom q1B,.atom p.eV,.atom p.message,cr p.time,.list (p.deps.map nc),.list (p.changes.map mD)],?_⟩;refine⟨_,TB (kj p) hx,?_⟩;refine⟨none,?_⟩;refine cS (λh=>absurd rfl h) (λ_=>?_);have hl:=hx.len;refine az (λh=>?_) (λh=>?_);have :¬(eX (kj p)).length<=65536:=by have :((eX (kj p)).length:Int)>65536:=h;omega
 show dh.val _=_;unfold aev;rw[aa this];have :(eX (kj p)).length<=65536:=by have :¬((eX (kj p)).length:Int)>65536:=h;omega
 show dh.val _=_;unfold aev;rw[af this]
def aT:bf:=⟨bz,0⟩
def qD:bf:=⟨bz,-1⟩
theorem mR:aj C 203 [] (λr=>r=.val (.agg (cI aT))):=by refine ag Tryz.func203 rfl rfl rfl ?_;exact rfl
theorem NC:aj C 176 [] (λr=>r=.val (.agg (cI qD))):=by refine ag Tryz.func176 rfl rfl rfl ?_;exact rfl
def tM (x:bf)(first:Int):Bool:=if x.p=bz then decide (0<=x.n)&&decide (x.n<first)else decide (0<=x.n)&&decide (x.n<100000)
theorem aaV (x:bf)(first:Int):aj C 205 [.agg (cI x),.int .i64 first] (λr=>r=.val (.bool (tM x first))):=by refine ag Tryz.func205 rfl rfl rfl ?_;refine cl (wU x.p) ?_;unfold tM;by_cases h:x.p=bz;rw[av h,af h];refine⟨none,?_⟩;refine az (λh1=>?_) (λh1=>?_);have h1:0<=x.n:=h1;refine az (λh2=>?_) (λh2=>?_);have h2:x.n<first:=h2;show dh.val (.bool true)=_;simp[h1,h2];have h2:¬x.n<first:=h2;show dh.val (.bool false)=_;simp[h2];have h1:¬0<=x.n:=h1;show dh.val (.bool false)=_;simp[h1];rw[ak h,aa h];refine⟨none,?_⟩;refine az (λh1=>?_) (λh1=>?_);have h1:0<=x.n:=h1;refine az (λh2=>?_) (λh2=>?_);have h2:x.n<100000:=h2;show dh.val (.bool true)=_;simp[h1,h2];have h2:¬x.n<100000:=h2;show dh.val (.bool false)=_;simp[h2];have h1:¬0<=x.n:=h1;show dh.val (.bool false)=_;simp[h1]
def gM (k:Int):Bool:=decide (k=5)||decide (k=6)
theorem ND (k:Int):aj C 167 [.int .i64 k] (λr=>r=.val (.bool (gM k))):=by refine ag Tryz.func167 rfl rfl rfl ?_;refine⟨none,?_⟩;refine aD (λh=>?_) (λh=>aD (λh2=>?_) (λh2=>?_));show dh.val (.bool true)=_;simp[gM,h];show dh.val (.bool true)=_;simp[gM,h2];show dh.val (.bool false)=_;simp[gM,h,h2]
def Il (k:Int):Int:=if k=7 then 0 else k
theorem VF (k:Int):aj C 169 [.int .i64 k] (λr=>r=.val (.int .i64 (Il k))):=by refine ag Tryz.func169 rfl rfl rfl ?_;refine aD (λh=>?_) (λh=>?_);show dh.val _=_;rw[Il,af h];show dh.val _=_;rw[Il,aa h]
def kZ (file:bf)(x:bw):Bool:=decide (x.kind=5)&&decide (x.file=file)
theorem Im (file:bf)(x:bw):aj C 168 [.agg (cI file),.agg (cA x)] (λr=>r=.val (.bool (kZ file x))):=by refine ag Tryz.func168 rfl rfl rfl ?_;refine⟨none,?_⟩;refine aD (λh=>?_) (λh=>?_);refine rB ?_;refine jK (a:=x.file) (b:=file) ?_;show dh.val _=_;simp[kZ,h];show dh.val (.bool false)=_;simp[kZ,h]
def fh (kind:Int)(file:bf)(x:bw):Bool:=decide (Il kind=0)||(decide (x.kind=Il kind)&&decide (x.file=file))
theorem FJ (kind:Int)(file:bf)(x:bw):aj C 136 [.int .i64 kind,.agg (cI file),.agg (cA x)] (λr=>r=.val (.bool (fh kind file x))):=by refine ag Tryz.func136 rfl rfl rfl ?_;refine cG 16 kK ?_;refine⟨_,VF kind,?_⟩;refine aD (λh=>?_) (λh=>?_);show dh.val (.bool true)=_;simp[fh,h];refine⟨_,VF kind,?_⟩;refine aD (λh2=>?_) (λh2=>?_);refine rB ?_;refine jK (a:=x.file) (b:=file) ?_;show dh.val _=_;simp[fh,h,h2];show dh.val (.bool false)=_;simp[fh,h,h2]
def ej (kind:Int)(x:bw):Bool:=decide (x.kind=1)&&(if gM kind=true then decide (x.type=1)else decide (kind≠4)||decide (x.type=2)||decide (x.type=3))
theorem FK (kind:Int)(x:bw):aj C 133 [.int .i64 kind,.agg (cA x)] (λr=>r=.val (.bool (ej kind x))):=by
 refine ag Tryz.func133 rfl rfl rfl ?_;refine cS (λh=>?_) (λh=>?_);show dh.val (.bool false)=_;simp[ej,h];refine cl (ND kind) ?_;cases ht:gM kind with
 |true=>refine aD (λh2=>?_) (λh2=>?_);show dh.val (.bool true)=_;simp[ej,h,ht,h2];show dh.val (.bool false)=_;simp[ej,h,ht,h2]
 |false=>refine⟨none,?_⟩;refine cS (λh2=>?_) (λh2=>?_);show dh.val (.bool true)=_;simp[ej,h,ht,h2];refine aD (λh3=>?_) (λh3=>?_);show dh.val (.bool true)=_;simp[ej,h,ht,h3];refine aD (λh4=>?_) (λh4=>?_);show dh.val (.bool true)=_;simp[ej,h,ht,h4];show dh.val (.bool false)=_;have ht4:gM 4=false:=rfl;simp[ej,h,ht4,h2,h3,h4]
def hU:bw:=⟨aT,0,aT,0,aT,[],0,[],[],aT,aT,[]⟩
def kH (own:List bw)(x:bf):bw:=if x.p=bz/\0<=x.n/\x.n<own.length then own.getD x.n.toNat hU else hU
theorem NF (own:List bw)(x:bf)(hl:own.length<=2^47):aj C 175 [.sl (fH own),.agg (cI x)] (λr=>r=.val (.agg (cA (kH own x)))):=by
 unfold fH;refine ag Tryz.func175 rfl rfl rfl ?_;refine⟨none,?_⟩;refine cl (wU x.p) ?_;have no:¬(x.p=bz/\0<=x.n/\x.n<own.length)->dh.val (.agg (cA hU))=dh.val (.agg (cA (kH own x))):=λh=>by rw[kH,aa h]
 by_cases h:x.p=bz;rotate_left;rw[ak h];exact no λh2=>h h2.1;rw[av h];refine az (λh1=>?_) (λh1=>?_);rotate_left;exact no λh2=>h1 h2.2.1;have h1:0<=x.n:=h1;obtain⟨n,hn⟩:=ji h1;refine az (λh2=>?_) (λh2=>?_);rotate_left;refine no λh3=>h2 ?_;show x.n<((own.map cA).length:Int);rw[ai];exact h3.2.2;have h2:x.n<((own.map cA).length:Int):=h2;rw[ai]at h2;have hlt:n<own.length:=oO
 have hg:kH own x=own[n]:=by rw[kH,af ⟨h,h1,h2⟩,hn];simp[List.getD,hlt]
 rw[hg];refine⟨h1,_,by rw[hn];exact cO rfl hlt,rfl,?_⟩;exact rfl
def rP (x:bf)(n:Nat)(fits:Bool):Int:=if tM x n=true then(if x.p=bz/\fits=false then 8 else 0)else 7
theorem Bv (x:bf)(own:List bw)(fits:Bool):aj C 174 [.agg (cI x),.sl (fH own),.bool fits] (λr=>r=.val (.int .i64 (rP x own.length fits))):=by
 have hl:((fH own).length:Int)=(own.length:Int):=by simp[fH]
 refine ag Tryz.func174 rfl rfl rfl ?_;refine⟨_,aaV x ((fH own).length:Int),λr hr=>?_⟩;rw[hl]at hr;subst hr;refine bq ?_;unfold rP;cases ha:tM x own.length with
 |false=>exact rfl
 |true=>
  rw[af rfl];refine⟨none,?_⟩;refine cl (wU x.p) ?_;by_cases h:x.p=bz;rw[av h];refine bq ?_;cases fits with
  |true=>rw[aa (by simp)];exact rfl
  |false=>rw[af ⟨h,rfl⟩];exact rfl
  rw[ak h,aa λe=>h e.1];exact rfl
end Qv
open Go Go.Proofs
namespace Qv
theorem Dl:laidOutB Tryz.prog=true:=kK
def Bs:List TypeId:=[3,5,9,23,31,33,38,39,41,43,87,89,92]
theorem agW:zg Tryz.prog Bs=true:=kK
theorem Ty:Li Tryz.prog Bs=true:=kK
theorem aiQ:Tryz.prog.underlying 87=some (.slice 9):=kK
theorem aiR:Tryz.prog.underlying 39=some (.slice 89):=kK
theorem aiS:Tryz.prog.underlying 5=some (.int .u8):=kK
section
variable {H:Type}{d:DataW H}{xs:List AV}
theorem Aj (h:gZ Tryz.prog 9 d xs):∃s,xs=oo s:=gZ.jD Tryz.underlying9 h
theorem Ak (h:gZ Tryz.prog 3 d xs):∃n,xs=[.int .i64 n]:=let⟨n,h,_⟩:=gZ.fJ Tryz.underlying3 h;⟨n,h⟩
theorem Nz (h:gZ Tryz.prog 5 d xs):∃n:Nat,xs=[.int .u8 (n:Int)]/\n<256:=by
 obtain⟨n,rfl,hn⟩:=gZ.fJ aiS h;have h3:0<=n/\n<=255:=by simpa[Lit.wf,IntKind.min,IntKind.max,IntKind.signed,IntKind.bits]using hn
 exact⟨n.toNat,by rw[Int.toNat_of_nonneg h3.1],oO⟩
theorem QL {β:Type}(f:β->AV):∀l:List β,(l.map λx=>[f x]).flatten=l.map f|[]=>rfl|x::l=>by simp[QL f l]
theorem aaL (h:gZ Tryz.prog 31 d xs):∃a,xs=cD a:=by
 obtain⟨ds,ps,-,rfl,hd,hp,he⟩:=gZ.adX Tryz.underlying31 h;obtain⟨bs,rfl⟩:=Bo (λb:UInt8=>[AV.int .u8 (b.toNat:Int)]) ps λx hx=>by
  obtain⟨i,hi⟩:=iI hx;have hlt:i<ds.length:=by rw[hd,<-hp];exact(aC.1 hi).1
  obtain⟨n,hn,hl⟩:=Nz (he i _ x (aq hlt) hi);exact⟨UInt8.ofNat n,by rw[hn,UInt8.toNat_ofNat_of_lt' hl]⟩
 have hl:bs.length=32:=by simpa using hp
 exact⟨⟨bs,hl⟩,by rw[Ia];exact QL (λb:UInt8=>AV.int .u8 (b.toNat:Int)) bs⟩
theorem Lq (h:gZ Tryz.prog 33 d xs):∃a,xs=cI a:=by obtain⟨ds,ps,-,rfl,hd,hp,he⟩:=gZ.tH Tryz.underlying33 h;match ds,ps,hd,hp with|[_,_],[_,_],_,_=>obtain⟨p,rfl⟩:=aaL (he 0 _ _ _ rfl rfl rfl);obtain⟨n,rfl⟩:=Ak (he 1 _ _ _ rfl rfl rfl);exact⟨⟨p,n⟩,rfl⟩
theorem aiT (h:gZ Tryz.prog 89 d xs):∃a,xs=cC a:=by obtain⟨ds,ps,-,rfl,hd,hp,he⟩:=gZ.tH Tryz.underlying89 h;match ds,ps,hd,hp with|[_,_,_,_,_,_,_,_,_,_,_],[_,_,_,_,_,_,_,_,_,_,_],_,_=>obtain⟨k,rfl⟩:=Ak (he 0 _ _ _ rfl rfl rfl);obtain⟨f,rfl⟩:=Lq (he 1 _ _ _ rfl rfl rfl);obtain⟨t,rfl⟩:=Ak (he 2 _ _ _ rfl rfl rfl);obtain⟨p,rfl⟩:=Lq (he 3 _ _ _ rfl rfl rfl);obtain⟨n,rfl⟩:=Aj (he 4 _ _ _ rfl rfl rfl);obtain⟨m,rfl⟩:=Ak (he 5 _ _ _ rfl rfl rfl);obtain⟨x,rfl⟩:=Aj (he 6 _ _ _ rfl rfl rfl);obtain⟨a,rfl⟩:=Lq (he 7 _ _ _ rfl rfl rfl);obtain⟨b,rfl⟩:=Lq (he 8 _ _ _ rfl rfl rfl);obtain⟨l,rfl⟩:=gZ.vA aiQ (λ_ _ h=>Aj h) (he 9 _ _ _ rfl rfl rfl);obtain⟨o,rfl⟩:=gZ.vA Tryz.underlying43 (λ_ _ h=>Lq h) (he 10 _ _ _ rfl rfl rfl);exact⟨⟨k,f,t,p,n,m,x,a,b,l,o⟩,rfl⟩
theorem aiU (h:gZ Tryz.prog 41 d xs):∃a,xs=cP a:=by obtain⟨ds,ps,-,rfl,hd,hp,he⟩:=gZ.tH Tryz.underlying41 h;match ds,ps,hd,hp with|[_,_,_,_,_],[_,_,_,_,_],_,_=>obtain⟨a,rfl⟩:=Aj (he 0 _ _ _ rfl rfl rfl);obtain⟨m,rfl⟩:=Aj (he 1 _ _ _ rfl rfl rfl);obtain⟨t,rfl⟩:=Ak (he 2 _ _ _ rfl rfl rfl);obtain⟨ds,rfl⟩:=gZ.vA Tryz.underlying38 (λ_ _ h=>aaL h) (he 3 _ _ _ rfl rfl rfl);obtain⟨cs,rfl⟩:=gZ.vA aiR (λ_ _ h=>aiT h) (he 4 _ _ _ rfl rfl rfl);exact⟨⟨a,m,t,ds,cs⟩,rfl⟩
theorem agX (h:gZ Tryz.prog 92 d xs):∃a,xs=mO a:=by obtain⟨ds,ps,-,rfl,hd,hp,he⟩:=gZ.tH Tryz.underlying92 h;match ds,ps,hd,hp with|[_,_],[_,_],_,_=>obtain⟨i,rfl⟩:=aaL (he 0 _ _ _ rfl rfl rfl);obtain⟨p,rfl⟩:=aiU (he 1 _ _ _ rfl rfl rfl);exact⟨⟨i,p⟩,by simp[mO]⟩
end
theorem alf {c:ew}(h:∀y,y∈cC c->AV.Small (2^47) y):SzC c:=by obtain⟨l1,l2⟩:=(h (Gn c.lines) (by simp[cC])).kS;refine⟨(h (.str c.name) (by simp[cC])).jD,(h (.str c.data) (by simp[cC])).jD,⟨by simpa using l1,λs hs=>?_⟩,?_⟩;exact(l2 (oo s) (sK hs) (.str s) (by simp[oo])).jD;have :=(h (.sl (iS c.over)) (by simp[cC])).kS.1;simpa[iS]using this
theorem alg {p:fW}(h:∀y,y∈cP p->AV.Small (2^47) y):Sw p:=by obtain⟨l1,l2⟩:=(h (.sl (yo p.changes)) (by simp[cP])).kS;refine⟨(h (.str p.eV) (by simp[cP])).jD,(h (.str p.message) (by simp[cP])).jD,?_,by simpa[yo]using l1,λc hc=>alf λy hy=>l2 (cC c) (sK hc) y hy⟩;have :=(h (.sl (jJ p.deps)) (by simp[cP])).kS.1;simpa[jJ]using this
theorem alh {s:List bK}(h:AV.Small (2^47) (.sl (cU s))):SzT s:=by obtain⟨l1,l2⟩:=h.kS;exact⟨by simpa[cU]using l1,λx hx=>alg λy hy=>l2 (mO x) (sK hx) y (pZ _ hy)⟩
theorem aei {H:Type}{t:TypeId}{d:DataW H}{x:AV}(hm:t∈Bs)(h:HU Tryz.prog t d x)(hw:∀n,n∈d.weights Tryz.prog t->n<=reachBytes):∃ys,gZ Tryz.prog t d ys/\x=CZ Tryz.prog t ys/\∀y,y∈ys->AV.Small (2^47) y:=by obtain⟨ys,h1,h2⟩:=h;exact⟨ys,h1,h2,h1.small agW Ty hm λn hn=>by have :=hw n hn;unfold reachBytes at this;omega⟩
theorem af9 {H:Type}{d:DataW H}{x:AV}(h:HU Tryz.prog 23 d x)(hw:∀n,n∈d.weights Tryz.prog 23->n<=reachBytes):∃s:List bK,x=.sl (cU s)/\SzT s:=by obtain⟨ys,h1,h2,h3⟩:=aei dD h hw;obtain⟨s,rfl⟩:=gZ.vA Tryz.underlying23 (λ_ _ h=>agX h) h1;exact⟨s,h2.trans (zh Tryz.underlying23 (λ_ h=>by cases h)),alh (h3 _ (by simp[cU]))⟩
theorem amy {H:Type}{d:DataW H}{x:AV}(h:HU Tryz.prog 9 d x):∃a:List UInt8,x=.str a:=by obtain⟨ys,h1,h2⟩:=h;obtain⟨a,rfl⟩:=Aj h1;exact⟨a,h2.trans (zh Tryz.underlying9 (λ_ h=>by cases h))⟩
theorem amz {H:Type}{d:DataW H}{x:AV}(h:HU Tryz.prog 3 d x):∃n:Int,x=.int .i64 n:=by obtain⟨ys,h1,h2⟩:=h;obtain⟨a,rfl⟩:=Ak h1;exact⟨a,h2.trans (zh Tryz.underlying3 (λ_ h=>by cases h))⟩
theorem aaM {H:Type}{d:DataW H}{x:AV}(h:HU Tryz.prog 5 d x):∃n:Nat,x=.int .u8 (n:Int)/\n<256:=by obtain⟨ys,h1,h2⟩:=h;obtain⟨n,rfl,hn⟩:=Nz h1;exact⟨n,h2.trans (zh aiS (λ_ h=>by cases h)),hn⟩
theorem amA {H:Type}{d:DataW H}{x:AV}(h:HU Tryz.prog 33 d x):∃a:bf,x=.agg (cI a):=by obtain⟨ys,h1,h2⟩:=h;obtain⟨a,rfl⟩:=Lq h1;exact⟨a,h2.trans (Qy Tryz.underlying33)⟩
end Qv
namespace Go.Proofs.YtlbofhenpfnenaaGreatDoor.door
open Go Qv Go.ChangeShapes Go.WideShapes Go.ChangeAt Go.RowKit
def agY:List (List Nat):=[[],[],[1],[11,13,14,12,15],[11,15,16,15,20,19,18,17,15,20,21,15],[11,15,16,15,20,19,18,18,17,17,17,17,15,20,19,22,19,22,21,21,13,19,23,24,15],[11,15,20,26,25,21,27,28,29,15],[11,15,16,15,20,20,21,28,21,28,13,24,24,15],[15,30,31,15],[15,30,15,30,15],[15,30,15,15],[32,33],[34],[35,24,36,37,36,40,44,43],[45,46,47,48,49],[17,18,17,18,17,20,13,21,50,21],[51],[52],[],[53],[55,56,54],[20,57,39],[],[],[58,59,60],[61],[45,46,47],[26],[20,62,42],[26],[63],[],[64],[65,66,67,69,68,70,71],[23],[59],[72],[38,39],[76,75],[],[41,42],[77,75],[],[],[43],[67,78],[79],[22],[],[45,80,81,82],[66],[65,83,84,84,84,84,84,53],[65,85,86,67,69,68,71,87],[50],[88],[89,90,91,54],[],[],[92,93,94,88],[90,89],[95],[23],[],[96],[97],[98,99],[],[],[100],[101,102,103,102],[100,69,68,66],[104],[55,73,74,54],[],[],[88],[],[],[85,51],[45,105,106],[],[46,22],[79,107,108,109],[110,111,112],[103],[],[113,114],[66],[],[115,90],[93,116,117],[],[120,119],[121],[],[122,123,125,124],[],[127],[83,128],[129,130],[],[98],[66],[],[131,132,133,131,132,134,135,135,131,132,137,136],[70,78,22],[22,53],[138,105,106],[80],[139,67,100,100],[],[103,66],[140,141,142],[],[143,23],[144],[145],[118],[146,147],[],[],[148,149,150,152,118],[58,115,152,118],[153],[154],[126],[155,156],[],[157,158,161,161,161,162,160,160,160,159],[163],[164,165,166,166,166,166,166,166],[],[85,51],[167],[],[131,132,137,168],[169,169],[],[45],[67,68,102,85,69,102],[171,170,110,172,173],[175,133,174,176,175,174,167,175,168,174,175,136,174,167],[],[],[177],[181,181,182,182],[183],[184,184],[185,186,187,188,189],[190,191],[151],[],[193,192],[],[],[194,195],[196],[103,161,197,161],[162,198,162,198,161,162,161,198,198,161,160,199,160],[200,201],[],[],[202],[],[166,166,166,166],[],[],[],[],[],[203,203,203,203],[203,203,203,203,203,203],[204],[50],[205,103],[103],[],[179,178,92,93,180],[206],[194,207,119],[210],[],[211,182,182],[],[],[212,213],[214,212,215,118],[216,151,151],[217],[219,219,220,221,222,219,220,220,220,222,219,223],[148],[224,225,226],[227,228,229,230,231,232,233,234,192,192],[235,236],[237],[238,239,213],[],[],[157,162,160],[198,160],[240,241],[242,201],[242],[],[243],[103],[],[209,208],[244],[],[],[245,245,245],[],[146],[246],[248,248],[249,250,251,252,176,253,254,255],[218],[],[],[],[257,258,261,262,263,265,266],[267],[268,269,270],[],[271],[272,273,274,274,274,274,274,274],[],[275,275],[276,277],[278,278,278,279],[],[],[],[],[],[],[280,281,216,151,239,213,282],[],[193,283],[240],[241],[242,242],[],[],[],[247],[284],[285],[],[],[],[],[],[],[256],[],[222],[259,259,220,260],[151,220,222,219,220,222,219],[219,259],[259,222,260],[259,220,260],[259,259,259,264],[219,220],[259,259,259,260],[260],[286],[287,288],[286,289,290,289,290,269,290],[],[],[274,274,274,274],[],[291],[],[193],[],[279],[292,292,292],[148],[],[],[293,294,295,296,297,298,299,300,283,283],[],[301],[302],[287],[288],[303],[303],[],[],[],[304,304],[276,277],[305,305,305,306],[],[],[],[],[],[307],[308],[],[306],[309,309,309],[310,311,312,313],[],[],[],[236,314,315],[],[316,317],[],[],[],[318,319],[],[],[],[],[],[],[],[],[],[],[],[],[],[],[],[],[],[],[],[],[],[],[],[],[],[]]
theorem Lr:Tryz.prog.funcs.toList.map Tryz.prog.leadsTo=agY:=by kernel_rfl
theorem gG {a b:Bool}(ha:a=true)(hb:b=true):(a&&b)=true:=by rw[ha,hb];rfl
theorem aaO:mapsRowed Tryz.prog=true:=by kernel_rfl
theorem VB:Tryz.prog.stopsHeard=true:=by kernel_rfl
theorem VC:Tryz.prog.mayEnter=true:=by kernel_rfl
theorem own:ownKnob Tryz.prog.godebug=none:=by kernel_rfl
theorem g3:Tryz.prog.globalNamed "math/bits.deBruijn64tab" =some 3:=by kernel_rfl
def three:List (String×DataW Unit):=[("math/bits.deBruijn32tab",Rows.laid_math_bits_deBruijn32tab),("math/bits.deBruijn64tab",Rows.laid_math_bits_deBruijn64tab),("internal/strconv.uint64pow10",Rows.laid_internal_strconv_uint64pow10)]
theorem listed {W:World}(h:laidMetH Tryz.prog three W):(aap W/\oM (λb _=>b<W.heap.size) W)/\4<=W.heap.size:=by have h':laidMet Tryz.prog three W:=h;exact⟨⟨adZ HY (t:=322) (by kernel_rfl) Tryz.underlying322 (by kernel_rfl) (by kernel_rfl) (by kernel_rfl) h' (.tail _ (.tail _ (.head _))),λg xs hg=>by cases hg⟩,ad0 g3 h' (.tail _ (.head _))⟩
def aga:DataW Unit->List Value|.lit (.int k n)=>[Value.int k n]|_=>[undef]
def He:DataW Unit->List Value|.agg l=>l.flatMap aga|d=>aga d
def Ik:DataW Unit->Array Value|.agg l=>(l.flatMap He).toArray|_=>#[]
def lay (c:Array Value):Obj->Obj|.cells _ t frozen=>.cells c t frozen|o=>o
noncomputable def qN (os:Os):World:={World.holding Tryz.prog os ⟨#[],#[],[]⟩with heap:=(((World.holding Tryz.prog os ⟨#[],#[],[]⟩).heap.modify 1 (lay (Ik Rows.laid_internal_strconv_uint64pow10))).modify 2 (lay (Ik Rows.laid_math_bits_deBruijn32tab))).modify 3 (lay (Ik Rows.laid_math_bits_deBruijn64tab))}
theorem Ls (os:Os)(args:Array Value):laidMet Tryz.prog three ((qN os).forCall (λ_ _=>0) ⟨#[],args,[]⟩).memory:=laidMet_of_run' 8 (by kernel_rfl) (by kernel_rfl)
theorem NA:(Bs.all λt=>!Tryz.pinned.checked.prog.wantsStandIn t)=true:=by kernel_rfl
theorem aiV (t:TypeId)(h:t∈Bs):Tryz.pinned.checked.prog.wantsStandIn t=false:=by have :=List.all_eq_true.1 NA t h;simpa using this
theorem adj {l:Array TypeId}{j:Nat}{t:TypeId}(hl:(l.toList.all λt=>Bs.contains t)=true)(h:l[j]?=some t):t∈Bs:=by have :=List.all_eq_true.1 hl t (by simpa using Array.mem_of_getElem? h);simpa using this
end Go.Proofs.YtlbofhenpfnenaaGreatDoor.door
open Go Go.Proofs
namespace Qv
def xO:List TypeId:=[3,5,9,23,29,31,33,38,39,41,43,52,87,89,92]
theorem WD:zg Tryz.prog xO=true:=kK
theorem agr:Tryz.prog.underlying 29=some (.int .u16):=kK
theorem OO {H:Type}{d:DataW H}{xs:List AV}(h:gZ Tryz.prog 29 d xs):∃n:Nat,xs=[.int .u16 (n:Int)]/\n<65536:=by
 obtain⟨n,rfl,hn⟩:=gZ.fJ agr h;have h3:0<=n/\n<=65535:=by simpa[Lit.wf,IntKind.min,IntKind.max,IntKind.signed,IntKind.bits]using hn
 exact⟨n.toNat,by rw[Int.toNat_of_nonneg h3.1],oO⟩
theorem ajR {H:Type}{d:DataW H}{x:AV}(h:HU Tryz.prog 29 d x):∃n:Nat,x=.int .u16 (n:Int)/\n<65536:=by obtain⟨ys,h1,h2⟩:=h;obtain⟨n,rfl,hn⟩:=OO h1;exact⟨n,h2.trans (zh agr (λ_ h=>by cases h)),hn⟩
theorem ajS {H:Type}{d:DataW H}{x:AV}(h:HU Tryz.prog 52 d x):∃a b c e:Nat,x=.agg [.int .u16 (a:Int),.int .u16 (b:Int),.int .u8 (c:Int),.int .u8 (e:Int)]/\a<65536/\b<65536/\c<256/\e<256:=by obtain⟨ys,h1,h2⟩:=h;obtain⟨ds,ps,-,rfl,hd,hp,he⟩:=gZ.tH Tryz.underlying52 h1;match ds,ps,hd,hp with|[_,_,_,_],[_,_,_,_],_,_=>obtain⟨a,rfl,ha⟩:=OO (he 0 _ _ _ rfl rfl rfl);obtain⟨b,rfl,hb⟩:=OO (he 1 _ _ _ rfl rfl rfl);obtain⟨c,rfl,hc⟩:=Nz (he 2 _ _ _ rfl rfl rfl);obtain⟨e,rfl,hx⟩:=Nz (he 3 _ _ _ rfl rfl rfl);exact⟨a,b,c,e,h2.trans (Qy Tryz.underlying52),ha,hb,hc,hx⟩
end Qv
