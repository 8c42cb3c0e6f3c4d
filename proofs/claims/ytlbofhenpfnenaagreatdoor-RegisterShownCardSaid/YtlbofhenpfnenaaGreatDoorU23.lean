/- Part 23 of the proof: its lemmas. No condition. -/
import Derived.Test.YtlbofhenpfnenaaGreatDoorU20
import Derived.Test.YtlbofhenpfnenaaGreatDoorU22
set_option maxRecDepth 10000
set_option maxHeartbeats 80000000
set_option linter.all false
open Go Go.Proofs Go.RowKit
namespace Qv
theorem TQ (s:Bytes):ak C 225 [.str s] (λr=>r=.val (.fn (.func 271) [] [.imp [.str s]])):=by refine ag Tryz.func225 rfl rfl rfl ?_;refine⟨[1],cu (cells:=[.p (.str s)]) (ys:=[.str s]) rfl rfl rfl ?_⟩;exact rfl
theorem aeu {s R:Bytes}{a:Nat}(h:a+64<=s.length):(s.take (a+64)).drop a=((s++R).take (a+64)).drop a:=by rw[nO h]
theorem aaY (M:Bytes)(c a:Nat):((M.drop c).take (a+64)).drop a=(M.take (c+a+64)).drop (c+a):=by rw[List.take_drop,sY,gj]
theorem aaZ (Y:Bytes)(h l:Nat):((lG Y).take h).drop l=lG ((Y.take h).drop l):=by simp[lG,me,nV]
theorem zQ (Y:Bytes):(lG Y).length=Y.length:=by simp[lG]
theorem DI (Y:Bytes):∀zs,zs∈lG Y->zs.length=1:=by intro zs h;obtain⟨c,-,rfl⟩:=aI.1 h;rfl
theorem aa0 (Y:Bytes)(c:UInt8):lG Y++[[.int .u8 (c.toNat:Int)]]=lG (Y++[c]):=by simp[lG]
theorem NX (x:AV):chunk 1 1 [x]=[[x]]:=rfl
theorem BP (x:AV):∀zs,zs∈chunk 1 1 [x]->zs.length=1:=by intro zs h;rw[NX]at h;obtain rfl:=aS.1 h;rfl
theorem TR (s:Bytes):uu s=s++([128]++jL ((120-(s.length+1)%64)%64)++ur s.length 8):=by simp[uu]
theorem aev (s:Bytes)(hs:s.length<2^40):ak C 191 [.str s] (λr=>r=.val (.agg (cD (Ri s)))):=by
 refine dM [] Tryz.func191 rfl rfl rfl ?_;refine cl TL.cut ?_;obtain⟨m,hm⟩:∃m,uu s=m:=⟨_,rfl⟩;obtain⟨q,hq,hql⟩:=Rl s;have hlen:m.length=64*q:=by rw[<-hm];exact hq
 have hq2:(uu s).length/64=q:=by rw[hq];omega
 obtain⟨Z,hZ⟩:∃Z,(120-(s.length+1)%64)%64=Z:=⟨_,rfl⟩;have aew:=TR s;rw[hm,hZ]at aew;obtain⟨p,hp⟩:∃p,s.length/64=p:=⟨_,rfl⟩;refine cl (TQ s).cut ?_;refine⟨_,rfl,rfl,rfl,rfl,?_⟩;refine⟨dD,(p:Int),by rw[<-hp];show IntKind.i64.wrap ((s.length:Int).tdiv ((64:Nat):Int))=_;rw[agi,wrap64 oO oO],?_⟩;refine nx (64*p) ?_;refine we 67 1000 (λk:Nat=>[(0,.ni 1000000),(1,.p (.imp [.str s])),(3,.p (.int .i64 ((64*p:Nat):Int))),(4,.p (.int .i64 ((64*k:Nat):Int)))]) (λk=>[(2,aH (cD bF)),(3,aH (cH (wh m k)))]) (λ_=>[(38,0,[(2,.ptr 2 0),(3,.ptr 3 0)])]) [.ready] (λ_=>[]) (λ_=>[]) (λ_=>[]) (λk=>k<=p) (λk=>p-k) 0 oO rfl wS oS ⟨rfl,wS,trivial⟩ trivial trivial trivial ?_;intro k hk;refine az (λhlt=>?_) (λhge=>?_);have hlt:k<p:=by have :((64*k:Nat):Int)<((64*p:Nat):Int):=hlt;omega
 have hin:64*k+64<=s.length:=oO
 refine nx (64*k+64) ?_;refine⟨64*k+64,rfl,64*k,rfl,oO,hin,_,rfl,?_⟩;refine⟨rfl,?_⟩;refine⟨_,(Gt (wh m k) ((s.take (64*k+64)).drop (64*k)) (by rw[bV,aD];omega)).cut,λr hr=>?_⟩;have e:DC (wh m k) ((s.take (64*k+64)).drop (64*k))=wh m (k+1):=by rw[aeu (R:=[128]++jL Z++ur s.length 8) hin,<-aew];rfl
 rw[e]at hr;subst hr;refine bl ?_;refine nx (64*(k+1)) ?_;refine mU (k+1) hlt (by show p-(k+1)<p-k;omega) rfl wS oS ⟨rfl,wS,trivial⟩ trivial trivial trivial;obtain rfl:k=p:=by have :¬((64*k:Nat):Int)<((64*p:Nat):Int):=hge;omega
 have sO:64*k<=s.length:=oO
 refine⟨64*k,rfl,oO,ay _,s.drop (64*k),by rw[aJ],?_⟩;have hsk:s.drop (64*k)++([128]++jL Z++ur s.length 8)=m.drop (64*k):=by rw[aew,CR sO]
 have ai3:(s.drop (64*k)).length=s.length-64*k:=bV;generalize s.drop (64*k)=X at hsk ai3;refine⟨DI X,BP _,by show((lG X).length+1)*1<=_;rw[zQ];omega,lG (X++[128]++jL 0),by simp[lG,jL,NX],?_⟩;refine we 67 1000 (λj:Nat=>[(0,.ni 1000000),(1,.p (.imp [.str s])),(3,.p (.int .i64 ((64*k:Nat):Int))),(5,.eH 1028 5 1 (lG (X++[128]++jL j)))]) (λ_=>[(2,aH (cD bF)),(3,aH (cH (wh m k)))]) (λ_=>[(38,0,[(2,.ptr 2 0),(3,.ptr 3 0)])]) [.ready] (λ_=>[]) (λ_=>[]) (λ_=>[]) (λj=>j<=Z) (λj=>Z-j) 0 oO rfl wS oS ⟨rfl,wS,trivial⟩ trivial trivial trivial ?_;intro j hj;have hYl:(lG (X++[128]++jL j)).length=s.length-64*k+1+j:=by rw[zQ];simp[jL,ai3];omega
 refine⟨dD,(((s.length-64*k+1+j)%64:Nat):Int),by rw[hYl];rfl,?_⟩;refine cF (λhne=>?_) (λheq=>?_);have hjZ:j<Z:=by have :¬(((s.length-64*k+1+j)%64:Nat):Int)=56:=hne;omega
 refine⟨DI _,BP _,by rw[hYl];show(s.length-64*k+1+j+1)*1<=_;omega,lG (X++[128]++jL (j+1)),by simp[lG,jL,List.replicate_succ',NX],?_⟩;refine mU (j+1) hjZ (by show Z-(j+1)<Z-j;omega) rfl wS oS ⟨rfl,wS,trivial⟩ trivial trivial trivial;obtain rfl:j=Z:=by have :(((s.length-64*k+1+j)%64:Nat):Int)=56:=heq;omega
 refine we 67 1000 (λx:Nat×Bytes=>[(0,.ni 1000000),(1,.p (.imp [.str s])),(5,.eH 1028 5 1 (lG x.2)),(6,.p (.int .i64 (((8*x.1:Nat):Int)-8)))]) (λ_=>[(2,aH (cD bF)),(3,aH (cH (wh m k)))]) (λ_=>[(38,0,[(2,.ptr 2 0),(3,.ptr 3 0)])]) [.ready] (λ_=>[]) (λ_=>[]) (λ_=>[]) (λx=>x.1<=8/\x.2++ur s.length x.1=m.drop (64*k)/\x.2.length<=2^41) (λx=>x.1) (8,X++[128]++jL j) ⟨ay 8,by rw[<-hsk];simp,by rw[<-zQ,hYl];omega⟩ rfl wS oS ⟨rfl,wS,trivial⟩ trivial trivial trivial ?_;rintro⟨i,Y⟩ ⟨hi,hY,hYn⟩;have hi:i<=8:=hi;have hY:Y++ur s.length i=m.drop (64*k):=hY;have hYn:Y.length<=2^41:=hYn;refine az (λali=>?_) (λTS=>?_);obtain⟨i,rfl⟩:∃i',i=i'+1:=⟨i-1,by have :((8*i:Nat):Int)-8≥0:=ali;omega⟩;have hs8:(((8*(i+1):Nat):Int)-8)=((8*i:Nat):Int):=oO
 have hE:Y.length+(i+1)=64*q-64*k:=by have :=aB List.length hY;rw[aq,Fh,bV,hlen]at this;exact this
 refine⟨(s.length:Int),uW oO oO,?_⟩;refine⟨((s.length*8:Nat):Int),by rw[uW oO oO];omega,?_⟩;refine⟨oO,((s.length*8/2^(8*i):Nat):Int),?_,?_⟩;rw[hs8];have :min ((8*i:Nat):Int).toNat IntKind.u64.bits=8*i:=by show min (((8*i:Nat):Int).toNat) 64=8*i;omega
 rw[this];exact agj _ _;refine⟨_,LR oO,?_⟩;refine⟨DI _,BP _,by show((lG Y).length+1)*1<=_;rw[zQ];omega,lG (Y++[NU s.length i]),by rw[NX,aa0],?_⟩;refine⟨((8*i:Nat):Int)-8,by rw[hs8,wrap64 oO oO],?_⟩;refine mU (i,Y++[NU s.length i]) ⟨by show i<=8;omega,by show Y++[NU s.length i]++ur s.length i=_;rw[<-hY];simp[ur],by show(Y++[_]).length<=_;rw[aq];show Y.length+1<=_;omega⟩ (by show i<i+1;omega) rfl wS oS ⟨rfl,wS,trivial⟩ trivial trivial trivial;obtain rfl:i=0:=by have :¬((8*i:Nat):Int)-8≥0:=TS;omega
 have hY:Y++[]=m.drop (64*k):=hY;rw[aY]at hY;subst hY;have hml:(lG (m.drop (64*k))).length=64*(q-k):=by rw[zQ,bV,hlen];omega
 refine we 67 1000 (λj:Nat=>[(0,.ni 1000000),(5,.eH 1028 5 1 (lG (m.drop (64*k)))),(7,.p (.int .i64 ((64*j:Nat):Int)))]) (λj=>[(2,aH (cD bF)),(3,aH (cH (wh m (k+j))))]) (λ_=>[(38,0,[(2,.ptr 2 0),(3,.ptr 3 0)])]) [.ready] (λ_=>[]) (λ_=>[]) (λ_=>[]) (λj=>j<=q-k) (λj=>q-k-j) 0 oO rfl wS oS ⟨rfl,wS,trivial⟩ trivial trivial trivial ?_;intro j hjq;refine az (λhlt=>?_) (λhge=>?_);have hlt:j<q-k:=by have :((64*j:Nat):Int)<((lG (m.drop (64*k))).length:Int):=hlt;omega
 refine nx (64*j+64) ?_;refine⟨64*j+64,rfl,64*j,rfl,oO,oO,DI _,lG ((m.take (64*(k+j)+64)).drop (64*(k+j))),by rw[aaZ,aaY,show 64*k+64*j=64*(k+j)from oO],?_⟩;refine⟨_,rfl,?_⟩;refine⟨rfl,?_⟩;refine⟨_,(Gt (wh m (k+j)) ((m.take (64*(k+j)+64)).drop (64*(k+j))) (by rw[bV,aD];omega)).cut,λr hr=>?_⟩;have e:DC (wh m (k+j)) ((m.take (64*(k+j)+64)).drop (64*(k+j)))=wh m (k+(j+1)):=rfl;rw[e]at hr;subst hr;refine bl ?_;refine nx (64*(j+1)) ?_;refine mU (j+1) hlt (by show q-k-(j+1)<q-k-j;omega) rfl wS oS ⟨rfl,wS,trivial⟩ trivial trivial trivial;obtain rfl:j=q-k:=by have :¬((64*j:Nat):Int)<((lG (m.drop (64*k))).length:Int):=hge;omega
 have hkq:k+(q-k)=q:=by have :=aB List.length aew;rw[aq,hlen]at this;omega
 have hout:=aaS s (wh m q) (by rw[hq2,hm]);rw[hkq];generalize wh m q=h at hout⊢;refine bu 38 (λi:Nat=>[(2,.ptr 2 0),(5,.ptr 5 0),(16,.agg (aH (cH h))),(17,.p (.int .i64 (i:Int)))]) (λi=>[(2,aH (cD bF)),(5,aH (cB (bS h (4*i))))]) (λi=>i<=8) (λi=>8-i) 0 oO rfl wS oS ?_;intro i hi8;refine az (λhlt=>?_) (λhge=>?_);have hlt:i<8:=by have :(i:Int)<8:=hlt;omega
 refine⟨i,rfl,hlt,aaV (aaW h hlt) ?_⟩;refine bu 38 (λj:Nat=>[(2,.ptr 2 0),(5,.ptr 5 0),(6,.p (.int .i64 (i:Int))),(7,.p (.int .u32 (h i))),(16,.agg (aH (cH h))),(17,.p (.int .i64 (i:Int))),(21,.p (.int .i64 (j:Int)))]) (λj=>[(2,aH (cD bF)),(5,aH (cB (bS h (4*i+j))))]) (λj=>j<=4) (λj=>4-j) 0 oO rfl wS oS ?_;intro j hj4;refine az (λdI=>?_) (λtA=>?_);have dI:j<4:=by have :(j:Int)<4:=dI;omega
 have ag8:4*i+j<32:=oO
 obtain⟨b1,b2⟩:=agk (bS h (4*i+j)) (k:=4*i+j) ag8;have b3:=aaR (bS h (4*i+j)) (k:=4*i+j) ag8 (IS h (4*i+j)).toNat;refine nx (4*i) ?_;refine nx (4*i+j) ?_;refine nx (8*j) ?_;refine nx (24-8*j) ?_;refine⟨oO,_,rfl,?_⟩;refine⟨((IS h (4*i+j)).toNat:Int),?_,?_⟩;have e:((24-8*j:Nat):Int)=24-8*(((4*i+j)%4:Nat):Int):=oO
 show IntKind.u8.wrap (Br (h i) ((24-8*j:Nat):Int))=_;rw[e,show i=(4*i+j)/4 from oO];have e2:(4*((4*i+j)/4)+j)=4*i+j:=oO
 rw[e2];exact(Wd _).symm;refine⟨4*i+j,rfl,ag8,true,4*i+j,(by show 0+(4*i+j)*1=4*i+j;omega),?_⟩;refine⟨_,_,_,b1,b2,?_⟩;refine⟨_,b3,?_⟩;exact nx (j+1) (aO (j+1) dI oO rfl wS oS);obtain rfl:j=4:=by have :¬(j:Int)<4:=tA;omega
 exact nx (i+1) (aO (i+1) hlt oO rfl wS oS);obtain rfl:i=8:=by have :¬(i:Int)<8:=hge;omega
 rw[hout];exact rfl
theorem Hx {s:Bytes}{c:UInt8}{n:Int}{k:Nat}(h:n.toNat=k)(hc:s[k]?=some c):s[n.toNat]?=some c:=by rw[h];exact hc
def oN (x:Int):Prop:=(97<=x/\x<=122)\/(65<=x/\x<=90)\/(48<=x/\x<=57)\/x=46\/x=95\/x=45
instance (x:Int):Decidable (oN x):=by unfold oN;exact inferInstance
def aa1 (c:UInt8):Bool:=decide (oN c.toNat)
def iC (s:Bytes):Bool:=decide (s≠[])&&decide (s≠[46])&&decide (s≠[46,46])&&decide (s.length<=40)&&s.all aa1
theorem jF {s:Bytes}(h:s=[]\/s=[46]\/s=[46,46]\/40<s.length\/∃c,c∈s/\¬oN c.toNat):iC s=false:=by
 cases hq:iC s with
 |false=>rfl
 |true=>simp only[iC,aW,decide_eq_true_eq,bY]at hq;obtain⟨⟨⟨⟨h1,h2⟩,h3⟩,h4⟩,h5⟩:=hq;rcases h with h|h|h|h|⟨c,hc,hn⟩;exact absurd h h1;exact absurd h h2;exact absurd h h3;omega;have :=h5 c hc;simp only[aa1,decide_eq_true_eq]at this;exact absurd this hn
theorem IT {s:Bytes}(h1:s≠[])(h2:s≠[46])(h3:s≠[46,46])(h4:s.length<=40)(h5:∀c,c∈s->oN c.toNat):iC s=true:=by simp only[iC,aW,decide_eq_true_eq,bY];exact⟨⟨⟨⟨h1,h2⟩,h3⟩,h4⟩,λc hc=>by simp only[aa1,decide_eq_true_eq];exact h5 c hc⟩
theorem IU (s:Bytes)(hs:s.length<=2^50):ak C 110 [.str s] (λr=>r=.val (.bool (iC s))):=by
 refine ag Tryz.func110 rfl rfl rfl ?_;refine bu 65 (λk:Nat=>[(0,.p (.str s)),(3,.p (.int .i64 k))]) (λ_=>[]) (λk=>k<=s.length/\∀i c,i<k->s[i]?=some c->oN c.toNat) (λk=>s.length-k) 0 ⟨zL,λi c h=>absurd h (ia _)⟩ rfl wS trivial ?_;rintro k ⟨hk,hall⟩;have hw:IntKind.i64.wrap ((k:Int)+1)=((k+1:Nat):Int):=by rw[wrap64 oO oO];omega
 refine az (λhlt=>?_) (λhge=>?_)
 ·have hlt:k<s.length:=by have :(k:Int)<(s.length:Int):=hlt;omega
  obtain⟨c,hc⟩:∃c,s[k]?=some c:=⟨_,av hlt⟩;refine⟨oO,c,Hx rfl hc,?_⟩;have bad:¬oN c.toNat->iC s=false:=λh=>jF (.inr (.inr (.inr (.inr ⟨c,bz hc,h⟩))));have good:oN c.toNat->k+1<=s.length/\∀i d,i<k+1->s[i]?=some d->oN d.toNat:=λh=>⟨hlt,λi d hi hd=>by by_cases hik:i=k;subst hik;rw[hc]at hd;obtain rfl:=au hd;exact h;exact hall i d oO hd⟩;refine⟨none,?_⟩;have aa2:¬oN c.toNat->cQ.val (.bool false)=cQ.val (.bool (iC s)):=λh=>by rw[bad h]
  repeat' (first|refine az (λh=>?_) (λh=>?_)|refine aA (λh=>?_) (λh=>?_)|refine bl ?_)
  all_goals first|exact aa2 (by unfold oN;omega)|exact⟨_,hw,aO (k+1) (good (by unfold oN;omega)) oO rfl wS trivial⟩
 have hge:¬k<s.length:=by intro h;exact hge (show(k:Int)<(s.length:Int)by omega)
 have hn:∀c,c∈s->oN c.toNat:=λc hc=>by obtain⟨i,hi⟩:=iP hc;exact hall i c (by have :=(aG.1 hi).1;omega) hi
 refine⟨none,?_⟩;refine az (λh1=>?_) (λh1=>?_);have hne:s≠[]:=λe=>by rw[e]at h1;exact absurd h1 dD
 refine az (λh2=>?_) (λh2=>?_);refine uo (λh3=>?_) (λh3=>?_);refine uo (λh4=>?_) (λh4=>?_);rw[IT hne h3 h4 oO hn];exact rfl;rw[jF (.inr (.inr (.inl h4)))];exact rfl;rw[jF (.inr (.inl h3))];exact rfl;rw[jF (.inr (.inr (.inr (.inl oO))))];exact rfl;have hne:s=[]:=by
  cases s with
  |nil=>rfl
  |cons _ _=>exact absurd (show((_:Int)≥1)by simp only[aL];omega) h1
 rw[jF (.inl hne)];exact rfl
theorem wj {α:Type}{a b:List α}{k:Nat}(hl:a.length=b.length)(hk:k<a.length)(he:a.take k=b.take k)(h:a[k]=b[k]):a.take (k+1)=b.take (k+1):=by rw[<-dn hk,<-dn (show k<b.length by omega),he,h]
theorem zR {α:Type}{a b:List α}{k:Nat}(hl:a.length=b.length)(hk:¬k<a.length)(he:a.take k=b.take k):a=b:=by rw[ck oO,ck oO]at he;exact he
theorem aa3 (a b:List Bytes)(ha:a.length<=2^47)(hb:b.length<=2^47):ak C 143 [Hf a,Hf b] (λr=>r=.val (.bool (decide (a=b)))):=by
 refine ag Tryz.func143 rfl rfl rfl ?_;refine cF (λh=>?_) (λh=>?_);have :a≠b:=λe=>h (by rw[e]);show cQ.val (.bool false)=_;simp[this];have hl:a.length=b.length:=by simp only[aj]at h;omega
 refine bu 26 (λk:Nat=>[(0,.p (Hf a)),(1,.p (Hf b)),(5,.p (.int .i64 k))]) (λ_=>[]) (λk=>k<=a.length/\a.take k=b.take k) (λk=>a.length-k) 0 ⟨zL,rfl⟩ rfl wS trivial ?_;rintro k ⟨hk,he⟩;refine bQ (λhlt=>?_) (λhge=>?_);have hlb:k<b.length:=oO
 refine cm 8 kK ?_;refine ix hlt ?_;refine ix hlb ?_;refine uo (λh=>?_) (λh=>?_);have :a≠b:=λe=>by subst e;exact h rfl
 show cQ.val (.bool false)=_;simp[this];exact nx (k+1) (aO (k+1) ⟨hlt,wj hl hlt he h⟩ oO rfl wS trivial);have :a=b:=zR hl hge he;show cQ.val (.bool true)=_;simp[this]
theorem aa4 (a b:List Dg)(ha:a.length<=2^47)(hb:b.length<=2^47):ak C 113 [.sl (jo a),.sl (jo b)] (λr=>r=.val (.bool (decide (a=b)))):=by
 unfold jo;refine ag Tryz.func113 rfl rfl rfl ?_;refine cF (λh=>?_) (λh=>?_);have :a≠b:=λe=>h (by rw[e]);show cQ.val (.bool false)=_;simp[this];have hl:a.length=b.length:=by simp only[aj]at h;omega
 refine bu 26 (λk:Nat=>[(0,.p (.sl (a.map cD))),(1,.p (.sl (b.map cD))),(5,.p (.int .i64 k))]) (λ_=>[]) (λk=>k<=a.length/\a.take k=b.take k) (λk=>a.length-k) 0 ⟨zL,rfl⟩ rfl wS trivial ?_;rintro k ⟨hk,he⟩;refine bQ (λhlt=>?_) (λhge=>?_);have hlb:k<b.length:=oO
 refine cm 8 kK ?_;refine ix hlt ?_;refine ix hlb ?_;refine⟨yX,dQ,lq,rfl,rfl,?_⟩;refine Rf (a:=a[k]) (b:=b[k]) ?_;by_cases h:a[k]=b[k];rw[an h];exact nx (k+1) (aO (k+1) ⟨hlt,wj hl hlt he h⟩ oO rfl wS trivial);rw[ah h];have :a≠b:=λe=>by subst e;exact h rfl
 show cQ.val (.bool false)=_;simp[this];have :a=b:=zR hl hge he;show cQ.val (.bool true)=_;simp[this]
theorem Fi (a b:List bg)(ha:a.length<=2^47)(hb:b.length<=2^47):ak C 23 [.sl (iq a),.sl (iq b)] (λr=>r=.val (.bool (decide (a=b)))):=by
 unfold iq;refine ag Tryz.func23 rfl rfl rfl ?_;refine cF (λh=>?_) (λh=>?_);have :a≠b:=λe=>h (by rw[e]);show cQ.val (.bool false)=_;simp[this];have hl:a.length=b.length:=by simp only[aj]at h;omega
 refine bu 26 (λk:Nat=>[(0,.p (.sl (a.map cI))),(1,.p (.sl (b.map cI))),(5,.p (.int .i64 k))]) (λ_=>[]) (λk=>k<=a.length/\a.take k=b.take k) (λk=>a.length-k) 0 ⟨zL,rfl⟩ rfl wS trivial ?_;rintro k ⟨hk,he⟩;refine bQ (λhlt=>?_) (λhge=>?_);have hlb:k<b.length:=oO
 refine cm 8 kK ?_;refine ix hlt ?_;refine ix hlb ?_;refine ou ?_;refine DA (a:=a[k]) (b:=b[k]) ?_;by_cases h:a[k]=b[k];rw[an h];exact nx (k+1) (aO (k+1) ⟨hlt,wj hl hlt he h⟩ oO rfl wS trivial);rw[ah h];have :a≠b:=λe=>by subst e;exact h rfl
 show cQ.val (.bool false)=_;simp[this];have :a=b:=zR hl hge he;show cQ.val (.bool true)=_;simp[this]
theorem xO {α:Type}{l:List α}{k:Nat}{x:α}(hk:k<l.length)(h:x∉l.take k)(hx:l[k]≠x):x∉l.take (k+1):=by rw[<-dn hk,bh,aS];rintro(h1|h1);exact h h1;exact hx h1.symm
theorem NY (l:List bg)(x:bg)(hl:l.length<=2^47):ak C 22 [.sl (iq l),.agg (cI x)] (λr=>r=.val (.bool (decide (x∈l)))):=by
 unfold iq;refine ag Tryz.func22 rfl rfl rfl ?_;refine bu 18 (λk:Nat=>[(0,.p (.sl (l.map cI))),(3,.ptr 3 0),(5,.p (.int .i64 k))]) (λ_=>[(3,aH (cI x))]) (λk=>k<=l.length/\x∉l.take k) (λk=>l.length-k) 0 ⟨zL,by simp⟩ rfl wS oS ?_;rintro k ⟨hk,hn⟩;refine bQ (λhlt=>?_) (λhge=>?_);refine cm 5 kK ?_;refine ix hlt ?_;refine ou ?_;refine iu (a:=l[k]) (b:=x) ?_;by_cases h:l[k]=x;rw[an h];have :x∈l:=h▸aK hlt;show cQ.val (.bool true)=_;simp[this];rw[ah h];exact nx (k+1) (aO (k+1) ⟨hlt,xO hlt hn h⟩ oO rfl wS oS);have :x∉l:=by rw[ck oO]at hn;exact hn
 show cQ.val (.bool false)=_;simp[this]
def yS:List bg->Bool|a::b::r=>decide (gN a b<0)&&yS (b::r)|_=>true
theorem DJ:∀l:List bg,yS l=true↔∀(i:Nat)(a b:bg),l[i]?=some a->l[i+1]?=some b->gN a b<0
 |[]=>by simp[yS]
 |[x]=>by simp[yS]
 |x::y::r=>by
  rw[yS,aW,decide_eq_true_eq,DJ (y::r)];constructor;rintro⟨h1,h2⟩ i a b ha hb;cases i with
  |zero=>simp only[List.getElem?_cons_zero,mb,bN]at ha hb;subst ha;subst hb;exact h1
  |succ i=>exact h2 i a b ha hb
  intro h;exact⟨h 0 x y rfl rfl,λi a b ha hb=>h (i+1) a b ha hb⟩
theorem Rn {l:List bg}{k:Nat}(h1:0<k)(hk:k<l.length)(h:¬gN l[k-1] l[k]<0):yS l=false:=by
 cases hq:yS l with
 |false=>rfl
 |true=>refine absurd ((DJ l).1 hq (k-1) l[k-1] l[k] (av oO) ?_) h;rw[show k-1+1=k from oO];exact av hk
theorem aex (l:List bg)(hl:l.length<=2^47):ak C 173 [.sl (iq l)] (λr=>r=.val (.bool (yS l))):=by
 unfold iq;refine ag Tryz.func173 rfl rfl rfl ?_;refine bu 21 (λk:Nat=>[(0,.p (.sl (l.map cI))),(3,.p (.int .i64 k))]) (λ_=>[]) (λk=>1<=k/\k<=l.length+1/\∀(i:Nat)(a b:bg),i+1<k->l[i]?=some a->l[i+1]?=some b->gN a b<0) (λk=>l.length+1-k) 1 ⟨ay _,oO,λi a b h=>oO⟩ rfl wS trivial ?_;rintro k ⟨h1,hk,hn⟩;refine bQ (λhlt=>?_) (λhge=>?_);have hlt':k-1<l.length:=oO
 refine cm 9 kK ?_;refine nx (k-1) ?_;refine ix hlt' ?_;refine ix hlt ?_;refine cl (zP l[k-1] l[k]) ?_;refine az (λh=>?_) (λh=>?_);rw[Rn h1 hlt oO];exact rfl;refine nx (k+1) (aO (k+1) ⟨oO,oO,λi a b hi ha hb=>?_⟩ oO rfl wS trivial);by_cases hik:i+1=k;have e:i=k-1:=oO
 subst e;rw[av hlt']at ha;rw[show k-1+1=k from oO,av hlt]at hb;obtain rfl:=au ha;obtain rfl:=au hb;omega;exact hn i a b oO ha hb;rw[(DJ l).2 λi a b ha hb=>hn i a b (by have :=(aG.1 hb).1;omega) ha hb];exact rfl
theorem fB {l:List bg}:∀zs,zs∈l.map cI->zs.length=33:=by intro zs h;obtain⟨x,-,rfl⟩:=aI.1 h;rfl
def qh:List bg->bg->List bg|[],x=>[x]|y::l,x=>if gN y x<0 then y::qh l x else if y=x then y::l else x::y::l
theorem IV:∀(a b:List bg)(x:bg),(∀y,y∈a->gN y x<0)->qh (a++b) x=a++qh b x|[],b,x,_=>rfl|y::a,b,x,h=>by rw[eB,qh,af (h y (by simp)),IV a b x λz hz=>h z (by simp[hz])];rfl
theorem aey {l:List bg}{k:Nat}{x:bg}(hk:k<l.length)(h:∀y,y∈l.take k->gN y x<0)(h2:¬gN l[k] x<0):qh l x=if l[k]=x then l else l.take k++[x]++l.drop k:=by
 have e:l=l.take k++(l[k]::l.drop (k+1)):=by rw[<-bL hk,cT]
 have e2:l.drop k=l[k]::l.drop (k+1):=bL hk;rw[e2];generalize l[k]=y at*;rw[show qh l x=qh (l.take k++(y::l.drop (k+1))) x from by rw[<-e],IV _ _ _ h,qh,aa h2];by_cases hy:y=x;rw[af hy,af hy];exact e.symm;rw[aa hy,aa hy];simp
theorem aa5 {l:List bg}{x:bg}(h:∀y,y∈l->gN y x<0):qh l x=l++[x]:=by have :=IV l [] x h;rw[aY]at this;exact this
theorem NZ {l:List bg}{k:Nat}{x:bg}(hk:k<l.length)(h:∀y,y∈l.take k->gN y x<0)(h2:gN l[k] x<0):∀y,y∈l.take (k+1)->gN y x<0:=by intro y hy;rw[<-dn hk,bh,aS]at hy;rcases hy with hy|rfl;exact h y hy;exact h2
theorem Wf (l:List bg)(x:bg)(hl:l.length<=2^20):ak C 53 [.sl (iq l),.agg (cI x)] (λr=>r=.val (.sl (iq (qh l x)))):=by
 unfold iq;refine ag Tryz.func53 rfl rfl rfl ?_;refine bu 49 (λk:Nat=>[(0,.p (.sl (l.map cI))),(3,.ptr 3 0),(5,.p (.int .i64 k))]) (λ_=>[(3,aH (cI x))]) (λk=>k<=l.length/\∀y,y∈l.take k->gN y x<0) (λk=>l.length-k) 0 ⟨zL,by simp⟩ rfl wS oS ?_;rintro k ⟨hk,hn⟩;refine cm 10 kK ?_;refine bQ (λhlt=>?_) (λhge=>?_);refine ix hlt ?_;refine cl (zP l[k] x) ?_;refine az (λh=>?_) (λh=>?_);exact nx (k+1) (aO (k+1) ⟨hlt,NZ hlt hn h⟩ oO rfl wS oS);have hI:=aey hlt hn h;refine cm 10 kK ?_;refine bQ (λhlt=>?_) (λhge=>absurd hlt hge);refine ix hlt ?_;refine ou ?_;refine iu (a:=l[k]) (b:=x) ?_;by_cases hx:l[k]=x;rw[an hx];rw[af hx]at hI;rw[hI];exact rfl;rw[ah hx];rw[aa hx]at hI;rw[hI];refine⟨k,rfl,zL,by rw[aj];exact hk,fB,(l.take k).map cI,by simp[me],?_⟩;refine⟨(λzs h=>nomatch h),fB,by show(0+((l.take k).map cI).length)*40<=_;rw[aj,aD];omega,(l.take k).map cI,rfl,?_⟩;refine⟨fB,fB (l:=[x]),by show(((l.take k).map cI).length+1)*40<=_;rw[aj,aD];omega,(l.take k++[x]).map cI,by rw[aM];rfl,?_⟩;refine⟨k,rfl,by rw[aj];exact hk,ay _,fB,(l.drop k).map cI,by rw[ck (ay _),nV],?_⟩;refine⟨fB,fB,by show(((l.take k++[x]).map cI).length+((l.drop k).map cI).length)*40<=_;simp only[aj,aq,aD,bV,aL,br];omega,(l.take k++[x]++l.drop k).map cI,by rw[<-aM],?_⟩;exact .inr rfl;have Pw:k=l.length:=oO
 have hI:qh l x=l.take k++[x]++l.drop k:=by rw[ck oO]at hn⊢;rw[cU oO,aY];exact aa5 hn
 refine cm 10 kK ?_;refine bQ (λhlt=>absurd hlt hge) (λhge=>?_);rw[hI];refine⟨k,rfl,zL,by rw[aj];exact hk,fB,(l.take k).map cI,by simp[me],?_⟩;refine⟨(λzs h=>nomatch h),fB,by show(0+((l.take k).map cI).length)*40<=_;rw[aj,aD];omega,(l.take k).map cI,rfl,?_⟩;refine⟨fB,fB (l:=[x]),by show(((l.take k).map cI).length+1)*40<=_;rw[aj,aD];omega,(l.take k++[x]).map cI,by rw[aM];rfl,?_⟩;refine⟨k,rfl,by rw[aj];exact hk,ay _,fB,(l.drop k).map cI,by rw[ck (ay _),nV],?_⟩;refine⟨fB,fB,by show(((l.take k++[x]).map cI).length+((l.drop k).map cI).length)*40<=_;simp only[aj,aq,aD,bV,aL,br];omega,(l.take k++[x]++l.drop k).map cI,by rw[<-aM],?_⟩;exact .inr rfl
def uv (l:List Bytes):Nat:=(l.map List.length).sum
theorem Ro (l:List Bytes)(k:Nat)(h:k<l.length):uv (l.take (k+1))=uv (l.take k)+l[k].length:=by unfold uv;rw[<-dn h,aM,nW];simp
theorem Gv {α:Type}(f:α->Nat)(l:List α)(k:Nat):((l.take k).map f).sum<=(l.map f).sum:=by have :=aB (λx=>(x.map f).sum) (cT k l);simp only[aM,nW]at this;omega
def zS (l:List Bytes):Bool:=decide (40<l.length)||decide (3000<uv l)
structure SzS (a:List Bytes):Prop where
 len:a.length<=2^47
 each:∀s,s∈a->s.length<=2^47
theorem zT {α:Type}(f:α->Nat)(m:Nat):∀(l:List α),(∀x,x∈l->f x<=m)->(l.map f).sum<=l.length*m
 |[],_=>by simp
 |x::l,h=>by have h1:=h x (by simp);have h2:=zT f m l λy hy=>h y (by simp[hy]);simp only[cS,xH,aL,bC,kn];omega
theorem wrap_add (x y:Int):IntKind.i64.wrap (IntKind.i64.wrap x+y)=IntKind.i64.wrap (x+y):=by simp only[IntKind.wrap,IntKind.bits,IntKind.signed];simp;split<;>split<;>omega
theorem XS (a:List Bytes)(hs:SzS a):ak C 127 [Hf a] (λr=>r=.val (.bool (zS a))):=by
 have ha:=hs.len;refine ag Tryz.func127 rfl rfl rfl ?_;refine bu 25 (λk:Nat=>[(0,.p (Hf a)),(3,.p (.int .i64 (IntKind.i64.wrap ((uv (a.take k):Nat):Int)))),(4,.p (.int .i64 k))]) (λ_=>[]) (λk=>k<=a.length) (λk=>a.length-k) 0 (zL) rfl wS trivial ?_;intro k hk;refine bQ (λhlt=>?_) (λhge=>?_);have h1:=Ro a k hlt;refine⟨oO,_,ct rfl hlt,rfl,IntKind.i64.wrap ((uv (a.take (k+1)):Nat):Int),by rw[wrap_add,h1,Int.natCast_add],k+1,wrap64 (by first|omega|(simp only[aj,aq,aL,br]at*;omega)) (by first|omega|(simp only[aj,aq,aL,br]at*;omega)),aO (k+1) hlt oO rfl wS trivial⟩;obtain rfl:k=a.length:=oO
 rw[aJ];have hx:¬40<a.length->IntKind.i64.wrap ((uv a:Nat):Int)=(uv a:Int):=λh=>by have h1:=zT List.length (2^47) a hs.each;have h2:a.length*2^47<=40*2^47:=dO _ oO;unfold uv;exact wrap64 oO oO
 refine⟨none,az (λh=>?_) (λh=>az (λh2=>?_) (λh2=>?_))⟩;have :40<a.length:=by simp only[aj]at h;omega
 show cQ.val (.bool true)=_;simp[zS,this];rw[hx (by simp only[aj]at h;omega)]at h2;have :3000<uv a:=oO
 show cQ.val (.bool true)=_;simp[zS,this];have h3:¬40<a.length:=by simp only[aj]at h;omega
 rw[hx h3]at h2;have h4:¬3000<uv a:=oO
 show cQ.val (.bool false)=_;simp[zS,h3,h4]
structure SzC (c:eG):Prop where
 name:c.name.length<=2^47
 data:c.data.length<=2^47
 lines:SzS c.lines
 over:c.over.length<=2^47
structure SS (p:ga):Prop where
 eW:p.eW.length<=2^47
 message:p.message.length<=2^47
 deps:p.deps.length<=2^47
 len:p.changes.length<=2^47
 each:∀c,c∈p.changes->SzC c
structure SzT (s:List bO):Prop where
 len:s.length<=2^47
 each:∀x,x∈s->SS x.pat
theorem aa7 (a b:eG)(ha:SzC a)(hb:SzC b):ak C 114 [.agg (cC a),.agg (cC b)] (λr=>r=.val (.bool (decide (a=b)))):=by refine ag Tryz.func114 rfl rfl rfl ?_;refine⟨none,?_⟩;refine aA (λh1=>?_) (λh1=>?_);rotate_left;exact aB cQ.val (aB AV.bool (ah λe=>h1 (by rw[e])).symm);refine ou ?_;refine iu (a:=a.file) (b:=b.file) ?_;by_cases h2:a.file=b.file;rotate_left;rw[ah h2];exact aB cQ.val (aB AV.bool (ah λe=>h2 (by rw[e])).symm);rw[an h2];refine aA (λh3=>?_) (λh3=>?_);rotate_left;exact aB cQ.val (aB AV.bool (ah λe=>h3 (by rw[e])).symm);refine ou ?_;refine iu (a:=a.parent) (b:=b.parent) ?_;by_cases h4:a.parent=b.parent;rotate_left;rw[ah h4];exact aB cQ.val (aB AV.bool (ah λe=>h4 (by rw[e])).symm);rw[an h4];refine aA (λh5=>?_) (λh5=>?_);rotate_left;exact aB cQ.val (aB AV.bool (ah λe=>h5 (by rw[e])).symm);refine aA (λh6=>?_) (λh6=>?_);rotate_left;exact aB cQ.val (aB AV.bool (ah λe=>h6 (by rw[e])).symm);refine aA (λh7=>?_) (λh7=>?_);rotate_left;exact aB cQ.val (aB AV.bool (ah λe=>h7 (by rw[e])).symm);refine ou ?_;refine iu (a:=a.dm) (b:=b.dm) ?_;by_cases h8:a.dm=b.dm;rotate_left;rw[ah h8];exact aB cQ.val (aB AV.bool (ah λe=>h8 (by rw[e])).symm);rw[an h8];refine ou ?_;refine iu (a:=a.dG) (b:=b.dG) ?_;by_cases h9:a.dG=b.dG;rotate_left;rw[ah h9];exact aB cQ.val (aB AV.bool (ah λe=>h9 (by rw[e])).symm);rw[an h9];refine cl (aa3 a.lines b.lines ha.lines.len hb.lines.len) ?_;by_cases h10:a.lines=b.lines;rotate_left;rw[ah h10];exact aB cQ.val (aB AV.bool (ah λe=>h10 (by rw[e])).symm);rw[an h10];refine cl (Fi a.over b.over ha.over hb.over) ?_;exact aB cQ.val (aB AV.bool (decide_eq_decide.2 ⟨λh11=>by cases a;cases b;simp_all,λe=>by rw[e]⟩))
theorem aa8 (a b:bD)(ha:a.over.length<=2^47)(hb:b.over.length<=2^47):ak C 61 [.agg (cA a),.agg (cA b)] (λr=>r=.val (.bool (decide (a=b)))):=by refine ag Tryz.func61 rfl rfl rfl ?_;refine⟨none,?_⟩;refine ou ?_;refine iu (a:=a.id) (b:=b.id) ?_;by_cases h1:a.id=b.id;rotate_left;rw[ah h1];exact aB cQ.val (aB AV.bool (ah λe=>h1 (by rw[e])).symm);rw[an h1];refine aA (λh2=>?_) (λh2=>?_);rotate_left;exact aB cQ.val (aB AV.bool (ah λe=>h2 (by rw[e])).symm);refine ou ?_;refine iu (a:=a.file) (b:=b.file) ?_;by_cases h3:a.file=b.file;rotate_left;rw[ah h3];exact aB cQ.val (aB AV.bool (ah λe=>h3 (by rw[e])).symm);rw[an h3];refine aA (λh4=>?_) (λh4=>?_);rotate_left;exact aB cQ.val (aB AV.bool (ah λe=>h4 (by rw[e])).symm);refine ou ?_;refine iu (a:=a.parent) (b:=b.parent) ?_;by_cases h5:a.parent=b.parent;rotate_left;rw[ah h5];exact aB cQ.val (aB AV.bool (ah λe=>h5 (by rw[e])).symm);rw[an h5];refine aA (λh6=>?_) (λh6=>?_);rotate_left;exact aB cQ.val (aB AV.bool (ah λe=>h6 (by rw[e])).symm);refine aA (λh7=>?_) (λh7=>?_);rotate_left;exact aB cQ.val (aB AV.bool (ah λe=>h7 (by rw[e])).symm);refine aA (λh8=>?_) (λh8=>?_);rotate_left;exact aB cQ.val (aB AV.bool (ah λe=>h8 (by rw[e])).symm);refine aA (λh9=>?_) (λh9=>?_);rotate_left;exact aB cQ.val (aB AV.bool (ah λe=>h9 (by rw[e])).symm);refine ou ?_;refine iu (a:=a.fr) (b:=b.fr) ?_;by_cases h10:a.fr=b.fr;rotate_left;rw[ah h10];exact aB cQ.val (aB AV.bool (ah λe=>h10 (by rw[e])).symm);rw[an h10];refine ou ?_;refine iu (a:=a.to) (b:=b.to) ?_;by_cases h11:a.to=b.to;rotate_left;rw[ah h11];exact aB cQ.val (aB AV.bool (ah λe=>h11 (by rw[e])).symm);rw[an h11];refine cl (Fi a.over b.over ha hb) ?_;exact aB cQ.val (aB AV.bool (decide_eq_decide.2 ⟨λh12=>by cases a;cases b;simp_all,λe=>by rw[e]⟩))
end Qv
open Go Go.Proofs
namespace Qv
theorem mJ:laidOutB Tryz.prog=true:=kK
def qW:List TypeId:=[3,5,9,23,31,33,38,39,41,43,87,89,92]
theorem BQ:BM Tryz.prog qW=true:=kK
theorem TT:LP Tryz.prog qW=true:=kK
theorem ai4:Tryz.prog.underlying 87=some (.slice 9):=kK
theorem ai5:Tryz.prog.underlying 39=some (.slice 89):=kK
theorem ai6:Tryz.prog.underlying 5=some (.int .u8):=kK
section
variable {H:Type}{d:DataW H}{xs:List AV}
theorem AI (h:iB Tryz.prog 9 d xs):∃s,xs=oA s:=iB.jR Tryz.underlying9 h
theorem AJ (h:iB Tryz.prog 3 d xs):∃n,xs=[.int .i64 n]:=let⟨n,h,_⟩:=iB.fN Tryz.underlying3 h;⟨n,h⟩
theorem aa9 (h:iB Tryz.prog 5 d xs):∃n:Nat,xs=[.int .u8 (n:Int)]/\n<256:=by
 obtain⟨n,rfl,hn⟩:=iB.fN ai6 h;have h3:0<=n/\n<=255:=by simpa[Lit.wf,IntKind.min,IntKind.max,IntKind.signed,IntKind.bits]using hn
 exact⟨n.toNat,by rw[Int.toNat_of_nonneg h3.1],oO⟩
theorem Rp {β:Type}(f:β->AV):∀l:List β,(l.map λx=>[f x]).flatten=l.map f|[]=>rfl|x::l=>by simp[Rp f l]
theorem aba (h:iB Tryz.prog 31 d xs):∃a,xs=cD a:=by
 obtain⟨ds,ps,-,rfl,hd,hp,he⟩:=iB.aef Tryz.underlying31 h;obtain⟨bs,rfl⟩:=BN (λb:UInt8=>[AV.int .u8 (b.toNat:Int)]) ps λx hx=>by
  obtain⟨i,hi⟩:=iP hx;have hlt:i<ds.length:=by rw[hd,<-hp];exact(aG.1 hi).1
  obtain⟨n,hn,hl⟩:=aa9 (he i _ x (av hlt) hi);exact⟨UInt8.ofNat n,by rw[hn,UInt8.toNat_ofNat_of_lt' hl]⟩
 have hl:bs.length=32:=by simpa using hp
 exact⟨⟨bs,hl⟩,by rw[IP];exact Rp (λb:UInt8=>AV.int .u8 (b.toNat:Int)) bs⟩
theorem LU (h:iB Tryz.prog 33 d xs):∃a,xs=cI a:=by obtain⟨ds,ps,-,rfl,hd,hp,he⟩:=iB.xJ Tryz.underlying33 h;match ds,ps,hd,hp with|[_,_],[_,_],_,_=>obtain⟨p,rfl⟩:=aba (he 0 _ _ _ rfl rfl rfl);obtain⟨n,rfl⟩:=AJ (he 1 _ _ _ rfl rfl rfl);exact⟨⟨p,n⟩,rfl⟩
theorem ai7 (h:iB Tryz.prog 89 d xs):∃a,xs=cC a:=by obtain⟨ds,ps,-,rfl,hd,hp,he⟩:=iB.xJ Tryz.underlying89 h;match ds,ps,hd,hp with|[_,_,_,_,_,_,_,_,_,_,_],[_,_,_,_,_,_,_,_,_,_,_],_,_=>obtain⟨k,rfl⟩:=AJ (he 0 _ _ _ rfl rfl rfl);obtain⟨f,rfl⟩:=LU (he 1 _ _ _ rfl rfl rfl);obtain⟨t,rfl⟩:=AJ (he 2 _ _ _ rfl rfl rfl);obtain⟨p,rfl⟩:=LU (he 3 _ _ _ rfl rfl rfl);obtain⟨n,rfl⟩:=AI (he 4 _ _ _ rfl rfl rfl);obtain⟨m,rfl⟩:=AJ (he 5 _ _ _ rfl rfl rfl);obtain⟨x,rfl⟩:=AI (he 6 _ _ _ rfl rfl rfl);obtain⟨a,rfl⟩:=LU (he 7 _ _ _ rfl rfl rfl);obtain⟨b,rfl⟩:=LU (he 8 _ _ _ rfl rfl rfl);obtain⟨l,rfl⟩:=iB.wg ai4 (λ_ _ h=>AI h) (he 9 _ _ _ rfl rfl rfl);obtain⟨o,rfl⟩:=iB.wg Tryz.underlying43 (λ_ _ h=>LU h) (he 10 _ _ _ rfl rfl rfl);exact⟨⟨k,f,t,p,n,m,x,a,b,l,o⟩,rfl⟩
theorem ai8 (h:iB Tryz.prog 41 d xs):∃a,xs=cP a:=by obtain⟨ds,ps,-,rfl,hd,hp,he⟩:=iB.xJ Tryz.underlying41 h;match ds,ps,hd,hp with|[_,_,_,_,_],[_,_,_,_,_],_,_=>obtain⟨a,rfl⟩:=AI (he 0 _ _ _ rfl rfl rfl);obtain⟨m,rfl⟩:=AI (he 1 _ _ _ rfl rfl rfl);obtain⟨t,rfl⟩:=AJ (he 2 _ _ _ rfl rfl rfl);obtain⟨ds,rfl⟩:=iB.wg Tryz.underlying38 (λ_ _ h=>aba h) (he 3 _ _ _ rfl rfl rfl);obtain⟨cs,rfl⟩:=iB.wg ai5 (λ_ _ h=>ai7 h) (he 4 _ _ _ rfl rfl rfl);exact⟨⟨a,m,t,ds,cs⟩,rfl⟩
theorem ag9 (h:iB Tryz.prog 92 d xs):∃a,xs=mh a:=by obtain⟨ds,ps,-,rfl,hd,hp,he⟩:=iB.xJ Tryz.underlying92 h;match ds,ps,hd,hp with|[_,_],[_,_],_,_=>obtain⟨i,rfl⟩:=aba (he 0 _ _ _ rfl rfl rfl);obtain⟨p,rfl⟩:=ai8 (he 1 _ _ _ rfl rfl rfl);exact⟨⟨i,p⟩,by simp[mh]⟩
end
theorem alk {c:eG}(h:∀y,y∈cC c->AV.Small (2^47) y):SzC c:=by obtain⟨l1,l2⟩:=(h (Hf c.lines) (by simp[cC])).lD;refine⟨(h (.str c.name) (by simp[cC])).jR,(h (.str c.data) (by simp[cC])).jR,⟨by simpa using l1,λs hs=>?_⟩,?_⟩;exact(l2 (oA s) (tn hs) (.str s) (by simp[oA])).jR;have :=(h (.sl (iq c.over)) (by simp[cC])).lD.1;simpa[iq]using this
theorem alm {p:ga}(h:∀y,y∈cP p->AV.Small (2^47) y):SS p:=by obtain⟨l1,l2⟩:=(h (.sl (yR p.changes)) (by simp[cP])).lD;refine⟨(h (.str p.eW) (by simp[cP])).jR,(h (.str p.message) (by simp[cP])).jR,?_,by simpa[yR]using l1,λc hc=>alk λy hy=>l2 (cC c) (tn hc) y hy⟩;have :=(h (.sl (jo p.deps)) (by simp[cP])).lD.1;simpa[jo]using this
theorem aln {s:List bO}(h:AV.Small (2^47) (.sl (cn s))):SzT s:=by obtain⟨l1,l2⟩:=h.lD;exact⟨by simpa[cn]using l1,λx hx=>alm λy hy=>l2 (mh x) (tn hx) y (xG _ hy)⟩
theorem aez {H:Type}{t:TypeId}{d:DataW H}{x:AV}(hm:t∈qW)(h:NR Tryz.prog t d x)(hw:∀n,n∈d.weights Tryz.prog t->n<=reachBytes):∃ys,iB Tryz.prog t d ys/\x=Dx Tryz.prog t ys/\∀y,y∈ys->AV.Small (2^47) y:=by obtain⟨ys,h1,h2⟩:=h;exact⟨ys,h1,h2,h1.small BQ TT hm λn hn=>by have :=hw n hn;unfold reachBytes at this;omega⟩
theorem abb {H:Type}{d:DataW H}{x:AV}(h:NR Tryz.prog 23 d x)(hw:∀n,n∈d.weights Tryz.prog 23->n<=reachBytes):∃s:List bO,x=.sl (cn s)/\SzT s:=by obtain⟨ys,h1,h2,h3⟩:=aez dD h hw;obtain⟨s,rfl⟩:=iB.wg Tryz.underlying23 (λ_ _ h=>ag9 h) h1;exact⟨s,h2.trans (Dy Tryz.underlying23 (λ_ h=>by cases h)),aln (h3 _ (by simp[cn]))⟩
theorem DK {H:Type}{d:DataW H}{x:AV}(h:NR Tryz.prog 9 d x):∃a:List UInt8,x=.str a:=by obtain⟨ys,h1,h2⟩:=h;obtain⟨a,rfl⟩:=AI h1;exact⟨a,h2.trans (Dy Tryz.underlying9 (λ_ h=>by cases h))⟩
theorem Wg {H:Type}{d:DataW H}{x:AV}(h:NR Tryz.prog 3 d x):∃n:Int,x=.int .i64 n:=by obtain⟨ys,h1,h2⟩:=h;obtain⟨a,rfl⟩:=AJ h1;exact⟨a,h2.trans (Dy Tryz.underlying3 (λ_ h=>by cases h))⟩
theorem ai9 {H:Type}{d:DataW H}{x:AV}(h:NR Tryz.prog 5 d x):∃n:Nat,x=.int .u8 (n:Int)/\n<256:=by obtain⟨ys,h1,h2⟩:=h;obtain⟨n,rfl,hn⟩:=aa9 h1;exact⟨n,h2.trans (Dy ai6 (λ_ h=>by cases h)),hn⟩
theorem aja {H:Type}{d:DataW H}{x:AV}(h:NR Tryz.prog 33 d x):∃a:bg,x=.agg (cI a):=by obtain⟨ys,h1,h2⟩:=h;obtain⟨a,rfl⟩:=LU h1;exact⟨a,h2.trans (aaG Tryz.underlying33)⟩
end Qv
