/- Part 7 of the proof: its lemmas. No condition. -/
import Derived.Test.YtiboombocnfngaaGreatDoorU6
import Derived.Lib.BytesEntry
import Derived.Lib.Bytealg
import Derived.Lib.Walk
set_option maxRecDepth 100000
set_option maxHeartbeats 80000000
set_option linter.all false
open Go Go.Proofs Go.RowKit
namespace Qv
theorem afe (a b:Nat):(a:Int).tdiv (b:Int)=((a/b:Nat):Int):=rfl
theorem Uz (x:Int):((UInt8.ofNat (IntKind.u8.wrap x).toNat).toNat:Int)=IntKind.u8.wrap x:=by
 have h:0<=IntKind.u8.wrap x/\IntKind.u8.wrap x<256:=by simp[IntKind.wrap,IntKind.bits,IntKind.signed];omega
 rw[UInt8.toNat_ofNat'];omega
theorem aff (a k:Nat):(a:Int).fdiv (2^k)=((a/2^k:Nat):Int):=by
 have h:(2:Int)^k=((2^k:Nat):Int):=by simp
 rw[h,Dl _ (Dm _)];rfl
theorem Lg {n i:Nat}(hn:n<2^40):IntKind.u8.wrap ((n*8/2^(8*i):Nat):Int)=((MW n i).toNat:Int):=by unfold MW;rw[mu (show n*8<18446744073709551616 by omega),UInt8.toNat_ofNat'];simp[IntKind.wrap,IntKind.bits,IntKind.signed]
theorem EH (n:Nat):∀i,(tX n i).length=i|0=>rfl|i+1=>by show(tX n i).length+1=i+1;rw[EH n i]
theorem PW (s:Bytes):∃q,(tY s).length=64*q/\(tY s).length<=s.length+72+64:=by
 have h:(tY s).length=s.length+1+(120-(s.length+1)%64)%64+8:=by unfold tY jL;simp only[ay,aR,bn,List.length_replicate,EH]
 refine⟨(tY s).length/64,?_,?_⟩<;>omega
theorem Wj (s:Bytes)(hs:s.length<2^40):aq C 154 [.str s] (λr=>r=.val (.str (tY s))):=by
 refine ej [4] Tryz.func154 rfl rfl rfl ?_;refine⟨by show s.length+1<_;omega,?_⟩;have hl:(s++[128]).length=s.length+1:=by simp
 refine⟨dD,(((s.length+1)%64:Nat):Int),by rw[<-hl];rfl,?_⟩;refine nx (120-(s.length+1)%64) ?_;refine⟨dD,(((120-(s.length+1)%64)%64:Nat):Int),rfl,?_⟩;refine cl (ZA _ oO).cut ?_;refine⟨by simp[jL];omega,?_⟩;refine⟨(s.length:Int),uM oO oO,?_⟩;refine⟨((s.length*8:Nat):Int),by rw[uM oO oO];omega,?_⟩;obtain⟨X0,hX0⟩:∃X0,s++[128]++jL ((120-(s.length+1)%64)%64)=X0:=⟨_,rfl⟩;have hF:X0++tX s.length 8=tY s:=by rw[<-hX0];rfl
 have ant:X0.length<=s.length+200:=by rw[<-hX0];simp[jL];omega
 refine dc 35 [(3,.p (.str X0)),(4,.p (.int .u64 ((s.length*8:Nat):Int)))] [] rfl ⟨bh.eq (by rw[<-hX0];rfl),bh.refl _,trivial⟩ trivial ?_;refine bJ 35 (λx:Nat×Bytes=>[(3,.p (.str x.2)),(4,.p (.int .u64 ((s.length*8:Nat):Int))),(5,.p (.int .i64 ((x.1:Int)-1)))]) (λ_=>[]) (λx=>x.1<=8/\x.2++tX s.length x.1=tY s/\x.2.length<=s.length+200+8-x.1) (λx=>x.1) (8,X0) ⟨by show 8<=8;omega,hF,by show X0.length<=_;omega⟩ rfl wS trivial ?_;rintro⟨j,X⟩ ⟨hj,hX,hXl⟩;simp only at hj hX hXl;refine aF (λhge=>?_) (λhlt=>?_);obtain⟨i,rfl⟩:∃i,j=i+1:=⟨j-1,by have :(j:Int)-1≥0:=hge;omega⟩;have hii:(((i+1:Nat):Int)-1)=(i:Int):=oO
 refine⟨((8*i:Nat):Int),by show IntKind.i64.wrap (8*(((i+1:Nat):Int)-1))=_;rw[wrap64 oO oO];omega,?_⟩;refine⟨((8*i:Nat):Int),uM oO oO,?_⟩;refine⟨oO,((s.length*8/2^(8*i):Nat):Int),?_,?_⟩;have :min ((8*i:Nat):Int).toNat IntKind.u64.bits=8*i:=by show min (((8*i:Nat):Int).toNat) 64=8*i;omega
 rw[this];exact aff _ _;refine⟨_,Lg oO,?_⟩;refine⟨[MW s.length i],rfl,?_⟩;refine⟨by show X.length+1<_;omega,?_⟩;exact⟨((i:Int)-1),by show IntKind.i64.wrap (((i+1:Nat):Int)-1-1)=_;rw[wrap64 oO oO];omega,aQ (i,X++[MW s.length i]) ⟨by show i<=8;omega,by show X++[MW s.length i]++tX s.length i=_;rw[<-hX];simp[tX],by show(X++[_]).length<=_;simp;omega⟩ (by show i<i+1;omega) rfl wS trivial⟩;obtain rfl:j=0:=by have :¬((j:Int)-1≥0):=hlt;omega
 have hX:X++[]=tY s:=hX;rw[aW]at hX;subst hX;exact rfl
def cB (f:Nat->Int):List AV:=[.int .u8 (f 0),.int .u8 (f 1),.int .u8 (f 2),.int .u8 (f 3),.int .u8 (f 4),.int .u8 (f 5),.int .u8 (f 6),.int .u8 (f 7),.int .u8 (f 8),.int .u8 (f 9),.int .u8 (f 10),.int .u8 (f 11),.int .u8 (f 12),.int .u8 (f 13),.int .u8 (f 14),.int .u8 (f 15),.int .u8 (f 16),.int .u8 (f 17),.int .u8 (f 18),.int .u8 (f 19),.int .u8 (f 20),.int .u8 (f 21),.int .u8 (f 22),.int .u8 (f 23),.int .u8 (f 24),.int .u8 (f 25),.int .u8 (f 26),.int .u8 (f 27),.int .u8 (f 28),.int .u8 (f 29),.int .u8 (f 30),.int .u8 (f 31)]
abbrev fb (f:Nat->Int)(i:Nat):FV:=.p (.int .u8 (f i))
theorem mB (f:Nat->Int):aG (cB f)=(List.range 32).map (fb f):=rfl
theorem afg (f:Nat->Int){k:Nat}(h:k<32):aG (cB f)=(aG (cB f)).take k++([.p (.int .u8 (f k))]++(aG (cB f)).drop (k+1))/\((aG (cB f)).take k).length=k:=by rw[mB];exact uL (fb f) h
theorem ZB (f:Nat->Int){k:Nat}(h:k<32)(v:Int):(aG (cB f)).take k++([.p (.int .u8 v)]++(aG (cB f)).drop (k+1))=aG (cB (pU f k v)):=by
 rw[mB,mB];have :=EG (fb f) (fb (pU f k v)) h λi hi=>by simp only[fb,tc f k v i hi]
 simp only[fb,qg]at this⊢;exact this
def bS (h:Nat->Int):Nat->Nat->Int|0=>λ_=>0|k+1=>pU (bS h k) k (Iv h k).toNat
theorem afh (h:Nat->Int):∀k i,i<k->bS h k i=(Iv h i).toNat|0,i,hi=>absurd hi oO|k+1,i,hi=>by show pU (bS h k) k (Iv h k).toNat i=_;by_cases e:i=k;subst e;exact qg _ _ _;rw[tc _ _ _ i e];exact afh h k i oO
theorem ZC (s:Bytes)(h:Nat->Int)(e:h=vE (tY s) ((tY s).length/64)):cB (bS h 32)=cD (PT s):=by have h1:cB (bS h 32)=(List.range 32).map λi=>.int .u8 (bS h 32 i):=rfl;rw[h1,Is];refine dZ λi hi=>?_;have hi:=hU.1 hi;rw[afh h 32 i hi,e];simp[PT,List.getD,hi]
theorem adh (s:Bytes)(hs:s.length<2^40):aq C 81 [.str s] (λr=>r=.val (.agg (cD (PT s)))):=by
 refine ej [3,7,8] Tryz.func81 rfl rfl rfl ?_;refine cl (Wj s hs).cut ?_;obtain⟨q,hq,hql⟩:=PW s;obtain⟨m,hm⟩:∃m,tY s=m:=⟨_,rfl⟩;have hlen:m.length=64*q:=by rw[<-hm];exact hq
 have hq2:(tY s).length/64=q:=by rw[hq];omega
 refine dc 44 [(2,.ptr 2 0),(3,.ptr 3 0),(4,.p (.str m))] [(2,aG (cD aV)),(3,aG (cH h0F))] rfl ⟨bh.refl _,bh.refl _,bh.eq (by rw[<-hm];rfl),trivial⟩ oS ?_;refine bJ 44 (λk:Nat=>[(2,.ptr 2 0),(3,.ptr 3 0),(4,.p (.str m)),(5,.p (.int .i64 ((64*k:Nat):Int)))]) (λk=>[(2,aG (cD aV)),(3,aG (cH (vE m k)))]) (λk=>k<=q) (λk=>q-k) 0 oO rfl wS oS ?_;intro k hk;have w1:IntKind.i64.wrap (((64*k:Nat):Int)+64)=((64*k+64:Nat):Int):=by rw[wrap64 oO oO];omega
 refine⟨_,w1,?_⟩;refine aF (λhle=>?_) (λhgt=>?_);have hle:64*k+64<=m.length:=by have :((64*k+64:Nat):Int)<=(m.length:Int):=hle;omega
 refine bW 7 kK ?_;refine⟨_,w1,?_⟩;refine⟨.p (.str ((m.take (64*k+64)).drop (64*k))),⟨64*k+64,rfl,64*k,rfl,oO,hle,_,rfl,rfl⟩,?_⟩;refine⟨_,(adg (vE m k) ((m.take (64*k+64)).drop (64*k)) (by rw[cQ,aL];omega)).cut,?_⟩;exact nx (64*(k+1)) (aQ (k+1) (by show k+1<=q;omega) (by show q-(k+1)<q-k;omega) rfl wS oS);have hk:k=q:=by have :¬((64*k+64:Nat):Int)<=(m.length:Int):=hgt;omega
 subst hk;have hout:=ZC s (vE m k) (by rw[hq2,hm]);generalize vE m k=h at hout⊢;refine dc 44 [(2,.ptr 2 0),(3,.ptr 3 0)] [(2,aG (cD aV)),(3,aG (cH h))] rfl wS oS ?_;refine dc 44 [(2,.ptr 2 0),(3,.ptr 3 0),(6,.ptr 6 0)] [(2,aG (cD aV)),(3,aG (cH h)),(6,aG (cB λ_=>0))] rfl wS oS ?_;refine bJ 44 (λi:Nat=>[(2,.ptr 2 0),(3,.ptr 3 0),(6,.ptr 6 0),(7,.p (.int .i64 (i:Int)))]) (λi=>[(2,aG (cD aV)),(3,aG (cH h)),(6,aG (cB (bS h i)))]) (λi=>i<=32) (λi=>32-i) 0 oO rfl wS oS ?_;intro i hi;refine aF (λhlt=>?_) (λhge=>?_);have hlt:i<32:=oO
 obtain⟨a1,a2⟩:=PS h (k:=i/4) oO;obtain⟨b1,b2⟩:=afg (bS h i) (k:=i) hlt;have b3:=ZB (bS h i) (k:=i) hlt (Iv h i).toNat;refine⟨dD,((i/4:Nat):Int),by show IntKind.i64.wrap ((i:Int).tdiv ((4:Nat):Int))=_;rw[afe,wrap64 oO oO],?_⟩;refine⟨i/4,rfl,oO,true,i/4,(by show 0+i/4*1=i/4;omega),?_⟩;refine⟨_,_,_,a1,a2,?_⟩;refine⟨dD,((i%4:Nat):Int),rfl,?_⟩;refine nx (8*(i%4)) ?_;refine nx (24-8*(i%4)) ?_;refine⟨((24-8*(i%4):Nat):Int),uM oO oO,?_⟩;refine⟨oO,_,rfl,?_⟩;refine⟨((Iv h i).toNat:Int),?_,?_⟩;have e:((24-8*(i%4):Nat):Int)=24-8*((i%4:Nat):Int):=oO
 show IntKind.u8.wrap (AR (h (i/4)) ((24-8*(i%4):Nat):Int))=_;rw[e];exact(Uz _).symm;refine⟨i,rfl,hlt,true,i,(by show 0+i*1=i;omega),?_⟩;refine⟨_,_,_,b1,b2,?_⟩;refine⟨_,b3,?_⟩;exact nx (i+1) (aQ (i+1) hlt oO rfl wS oS);obtain rfl:i=32:=oO
 rw[hout];exact rfl
theorem ZD (a b:Int):Bz a b=Bz b a:=by unfold Bz yb;simp only[BitVec.or_comm]
theorem adi (x:Int)(n m:Int)(h0:0<=m)(h:m<=31)(hn:yb .and .u64 (IntKind.u64.wrap n) 31=m):aq C 301 [.int .u32 x,.int .i64 n] (λr=>r=.val (.int .u32 (Bz (jc x m) (AR x (32-m))))):=by refine ai Tryz.func301 rfl rfl rfl ?_;refine⟨_,rfl,?_⟩;refine⟨m,hn,?_⟩;refine⟨h0,_,rfl,?_⟩;refine⟨32-m,uM oO oO,?_⟩;refine⟨oO,_,rfl,?_⟩;refine⟨_,rfl,?_⟩;exact rfl
theorem oL (x:Int)(n:Int)(hn:n∈([2,6,7,11,13,17,18,19,22,25]:List Int)):aq C 256 [.int .u32 x,.int .i64 n] (λr=>r=.val (.int .u32 (uK x n))):=by
 have hb:1<=n/\n<=31:=by simp only[aK,gy,or_false]at hn;omega
 have hm:yb .and .u64 (IntKind.u64.wrap (0-n)) 31=32-n:=by simp only[aK,gy,or_false]at hn;rcases hn with rfl|rfl|rfl|rfl|rfl|rfl|rfl|rfl|rfl|rfl<;>decide+kernel
 have hr:=adi x (0-n) (32-n) oO oO hm;have e:Bz (jc x (32-n)) (AR x (32-(32-n)))=uK x n:=by rw[show(32:Int)-(32-n)=n by omega,ZD];rfl
 rw[e]at hr;refine ai Tryz.func256 rfl rfl rfl ?_;refine⟨0-n,wrap64 oO oO,?_⟩;refine cl hr ?_;exact rfl
theorem Kl:aq C 255 [] (λr=>r=.val (.agg (cW kF))):=by refine ai Tryz.func255 rfl rfl rfl ?_;exact rfl
theorem Sy:aq C 177 [] (λr=>r=.val (.agg (cH h0F))):=by refine ai Tryz.func177 rfl rfl rfl ?_;exact rfl
theorem ah3 (a:Nat)(h:a<4294967296):(BitVec.ofInt 32 (a:Int)).toNat=a:=by rw[BitVec.toNat_ofInt];omega
theorem Sz {a b:Nat}(ha:a<4294967296)(hb:b<4294967296):Bz (a:Int) (b:Int)=((a|||b:Nat):Int):=by have h:a|||b<2^32:=Dn ha hb;show IntKind.u32.wrap ((BitVec.ofInt 32 (a:Int)|||BitVec.ofInt 32 (b:Int)).toNat:Int)=_;rw[BitVec.toNat_or,ah3 a ha,ah3 b hb];exact wU oO oO
theorem SA {a k:Nat}(hk:k<=32)(h:a*2^k<4294967296):jc (a:Int) (k:Int)=((a<<<k:Nat):Int):=by
 unfold jc;rw[show min ((k:Int).toNat) 32=k by omega,oo];have e:(a:Int)*2^k=((a*2^k:Nat):Int):=by simp
 rw[e];exact wU oO oO
theorem SB {p q r s:Nat}(hp:p<256)(hq:q<256)(hr:r<256)(hs:s<256):Bz (jc (Bz (jc (Bz (jc (Bz (jc 0 8) p) 8) q) 8) r) 8) s=Bz (Bz (Bz (jc p 24) (jc q 16)) (jc r 8)) s:=by
 have z:jc 0 8=((0:Nat):Int):=by decide+kernel
 have e8:∀a:Nat,a<16777216->jc (a:Int) 8=((a*256:Nat):Int):=λa h=>by have :=SA (a:=a) (k:=8) dD oO;rw[oo]at this;exact this
 have e16:jc (q:Int) 16=((q*65536:Nat):Int):=by have :=SA (a:=q) (k:=16) dD oO;rw[oo]at this;exact this
 have e24:jc (p:Int) 24=((p*16777216:Nat):Int):=by have :=SA (a:=p) (k:=24) dD oO;rw[oo]at this;exact this
 have adj:∀a b:Nat,b<256->a*256|||b=a*256+b:=λa b h=>by have :=Dp (a:=a) (b:=b) (i:=8) h;rw[oo]at this;exact this.symm
 have afi:∀a b:Nat,b<65536->a*65536|||b=a*65536+b:=λa b h=>by have :=Dp (a:=a) (b:=b) (i:=16) h;rw[oo]at this;exact this.symm
 have ah4:∀a b:Nat,b<16777216->a*16777216|||b=a*16777216+b:=λa b h=>by have :=Dp (a:=a) (b:=b) (i:=24) h;rw[oo]at this;exact this.symm
 rw[z,Sz oO oO,Nat.zero_or,e8 p oO,Sz oO oO,adj p q hq,e8 _ oO,Sz oO oO,adj _ r hr,e8 _ oO,Sz oO oO,adj _ s hs,e24,e16,e8 r oO,Sz oO oO,ah4 p _ oO,Sz oO oO,Sz (by rw[show p*16777216+q*65536=(p*256+q)*65536 by omega,afi _ _ oO];omega) oO,show p*16777216+q*65536=(p*256+q)*65536 by omega,afi _ _ oO,show(p*256+q)*65536+r*256=(p*65536+q*256+r)*256 by omega,adj _ s hs];omega
theorem ZE {f g:Nat->Int}(h:∀i,i<64->f i=g i):cW f=cW g:=by rw[PR,PR];exact dZ λi hi=>by rw[h i (hU.1 hi)]
theorem UA (b:Bytes):∀k i,k<=i->qG b k i=0|0,_,_=>rfl|k+1,i,h=>by show pU (qG b k) k _ i=0;rw[tc _ _ _ i oO];exact UA b k i oO
def gS (b:Bytes)(t:Nat):Nat->Nat->Int|0=>qG b t|j+1=>pU (gS b t j) t (Bz (jc (gS b t j t) 8) (xT b (4*t+j)))
theorem afj (b:Bytes)(t:Nat):∀j i,i≠t->gS b t j i=qG b t i|0,_,_=>rfl|j+1,i,h=>by show pU (gS b t j) t _ i=_;rw[tc _ _ _ i h];exact afj b t j i h
theorem adk (b:Bytes)(t:Nat)(ht:t<16):cW (gS b t 4)=cW (qG b (t+1)):=by refine ZE λi _=>?_;show _=pU (qG b t) t (if t<16 then w1F b t else XX (qG b t) t) i;rw[ag ht];by_cases hi:i=t;subst hi;rw[qg];show pU _ i _ i=_;rw[qg];show Bz (jc (pU _ i _ i) 8) _=_;rw[qg];show Bz (jc (Bz (jc (pU _ i _ i) 8) _) 8) _=_;rw[qg];show Bz (jc (Bz (jc (Bz (jc (pU _ i _ i) 8) _) 8) _) 8) _=_;rw[qg];show Bz (jc (Bz (jc (Bz (jc (Bz (jc (qG b i i) 8) _) 8) _) 8) _) 8) _=_;rw[UA b i i (aA _)];exact SB (wV _) (wV _) (wV _) (wV _);rw[tc _ _ _ i hi,afj b t 4 i hi]
theorem ZF {xs:List FV}{n:Nat}{y:FV}{K:FV->Prop}(h:∃r,gh n xs=y::r)(hk:K y):match gh n xs with|y::_=>K y|[]=>False:=by obtain⟨r,h⟩:=h;rw[h];exact hk
theorem ZG (f:Nat->Int){k:Nat}(h:k<8):∃r,gh (k*1) (aG (cH f))=.p (.int .u32 (f k))::r:=by
 obtain⟨h1,h2⟩:=PS f h;refine⟨(aG (cH f)).drop (k+1),?_⟩;rw[sK,nA];conv=>lhs;rw[h1]
 rw[CB oO,CA oO];rfl
theorem Wk {aI:List (Nat×List FV)}{o:Nat}{l0 l:List FV}(h:Qv.getObj aI o=some l0)(e:l0=l):∃ys,Qv.getObj aI o=some ys/\ys.length=l.length/\∀(i:Nat)(x y:FV),ys[i]?=some x->l[i]?=some y->bh x y:=by subst e;exact aH h
theorem MY (b:Bytes)(hb:b.length=64):aq C 254 [.str b] (λr=>r=.val (.agg (cW (qG b 64)))):=by
 refine ej [] Tryz.func254 rfl rfl rfl ?_;refine bJ 76 (λk:Nat=>[(0,.p (.str b)),(2,.ptr 2 0),(3,.ptr 3 0),(9,.p (.int .i64 k))]) (λk=>[(2,aG (cW λ_=>0)),(3,aG (cW (qG b k)))]) (λk=>k<=64) (λk=>64-k) 0 oO rfl wS oS ?_;intro k hk;refine aF (λhlt=>?_) (λhge=>?_);have hlt:k<64:=oO
 have wk:IntKind.i64.wrap ((k:Int)+1)=((k+1:Nat):Int):=by rw[wrap64 oO oO];omega
 refine aF (λh16=>?_) (λh16=>?_);have h16:k<16:=oO
 have m0:IntKind.i64.wrap (4*(k:Int))=((4*k:Nat):Int):=by rw[wrap64 oO oO];omega
 refine⟨_,m0,?_⟩;refine⟨_,m0,?_⟩;refine nx (4*k+4) ?_;refine⟨4*k+4,rfl,4*k,rfl,oO,oO,_,rfl,?_⟩;have RX:((b.take (4*k+4)).drop (4*k)).length=4:=by rw[cQ,aL];omega
 have tN:∀j,j<4->(((b.take (4*k+4)).drop (4*k)).map λc=>[AV.int .u8 (c.toNat:Int)])[((j:Nat):Int).toNat]?=some [.int .u8 (xT b (4*k+j))]:=λj hj=>by rw[aN,gY,show((j:Nat):Int).toNat=j by omega,sW,ag oO];rw[av oO];simp[xT,List.getD,av (show 4*k+j<b.length by omega)]
 refine bJ 76 (λj:Nat=>[(0,.p (.str b)),(2,.ptr 2 0),(3,.ptr 3 0),(4,.p (.int .i64 k)),(9,.p (.int .i64 k)),(21,.p (.sl (((b.take (4*k+4)).drop (4*k)).map λc=>[AV.int .u8 (c.toNat:Int)]))),(22,.p (.int .i64 4)),(23,.p (.int .i64 j))]) (λj=>[(2,aG (cW λ_=>0)),(3,aG (cW (gS b k j)))]) (λj=>j<=4) (λj=>4-j) 0 oO rfl ⟨bh.refl _,bh.refl _,bh.refl _,bh.refl _,bh.refl _,bh.PJ _ _ _ _,bh.eq (by show FV.p (.int .i64 ((((b.take (4*k+4)).drop (4*k)).map λc=>[AV.int .u8 (c.toNat:Int)]).length:Int))=_;rw[ah,RX];rfl),bh.refl _,trivial⟩ oS ?_;intro j hj;refine aF (λhj4=>?_) (λhj4=>?_);have hj4:j<4:=by have :(j:Int)<4:=hj4;omega
 obtain⟨a1,a2⟩:=sy (gS b k j) (k:=k) hlt;have a3:=MV (gS b k j) (k:=k) hlt (Bz (jc (gS b k j k) 8) (xT b (4*k+j)));refine⟨oO,_,tN j hj4,rfl,?_⟩;refine⟨k,rfl,hlt,true,k,(by show 0+k*1=k;omega),?_⟩;refine⟨_,_,_,a1,a2,?_⟩;refine⟨dD,_,rfl,?_⟩;refine⟨_,wU (by unfold xT;omega) (by have :=(b.getD (4*k+j) 0).toNat_lt;unfold xT;omega),?_⟩;refine⟨_,rfl,?_⟩;refine⟨k,rfl,hlt,true,k,(by show 0+k*1=k;omega),?_⟩;refine⟨_,_,_,a1,a2,?_⟩;refine⟨_,a3,?_⟩;exact nx (j+1) (aQ (j+1) hj4 (by show 4-(j+1)<4-j;omega) rfl wS oS);obtain rfl:j=4:=by have :¬(j:Int)<4:=hj4;omega
 exact⟨_,wk,aQ (k+1) hlt (by show 64-(k+1)<64-k;omega) rfl wS ⟨aH rfl,Wk rfl (by rw[adk b k h16]),trivial⟩⟩;have h16:16<=k:=by have :¬(k:Int)<16:=h16;omega
 obtain⟨a1,a2⟩:=sy (qG b k) (k:=k) hlt;obtain⟨b1,b2⟩:=sy (qG b k) (k:=k-15) oO;obtain⟨c1,c2⟩:=sy (qG b k) (k:=k-2) oO;obtain⟨d1,d2⟩:=sy (qG b k) (k:=k-7) oO;obtain⟨e1,e2⟩:=sy (qG b k) (k:=k-16) oO;have a3:=MV (qG b k) (k:=k) hlt (XX (qG b k) k);have e:pU (qG b k) k (XX (qG b k) k)=qG b (k+1):=by show _=pU (qG b k) k (if k<16 then w1F b k else XX (qG b k) k);rw[af oO]
 rw[e]at a3;refine bW 10 kK ?_;refine nx (k-15) ?_;refine⟨k-15,rfl,oO,true,k-15,(by show 0+(k-15)*1=k-15;omega),?_⟩;refine⟨_,_,_,b1,b2,?_⟩;refine nx (k-2) ?_;refine⟨k-2,rfl,oO,true,k-2,(by show 0+(k-2)*1=k-2;omega),?_⟩;refine⟨_,_,_,c1,c2,?_⟩;refine bW 29 kK ?_;refine⟨_,(oL _ 17 dD).cut,?_⟩;refine⟨_,(oL _ 19 dD).cut,?_⟩;refine⟨_,rfl,?_⟩;refine⟨dD,_,rfl,?_⟩;refine⟨_,rfl,?_⟩;refine nx (k-7) ?_;refine⟨k-7,rfl,oO,true,k-7,(by show 0+(k-7)*1=k-7;omega),?_⟩;refine⟨_,_,_,d1,d2,?_⟩;refine⟨_,rfl,?_⟩;refine⟨_,(oL _ 7 dD).cut,?_⟩;refine⟨_,(oL _ 18 dD).cut,?_⟩;refine⟨_,rfl,?_⟩;refine⟨dD,_,rfl,?_⟩;refine⟨_,rfl,?_⟩;refine⟨_,rfl,?_⟩;refine nx (k-16) ?_;refine⟨k-16,rfl,oO,true,k-16,(by show 0+(k-16)*1=k-16;omega),?_⟩;refine⟨_,_,_,e1,e2,?_⟩;refine⟨_,rfl,?_⟩;refine⟨k,rfl,hlt,true,k,(by show 0+k*1=k;omega),?_⟩;refine⟨_,_,_,a1,a2,?_⟩;refine⟨_,a3,?_⟩;exact⟨_,wk,aQ (k+1) hlt (by show 64-(k+1)<64-k;omega) rfl wS oS⟩;obtain rfl:k=64:=by have :¬(k:Int)<64:=hge;omega
 exact rfl
theorem FI (h:Nat->Int)(b:Bytes)(hb:b.length=64):aq C 179 [.agg (cH h),.str b] (λr=>r=.val (.agg (cH (Dk h b)))):=by
 refine ej [3,10] Tryz.func179 rfl rfl rfl ?_;refine cl (MY b hb).cut ?_;refine cl Kl.cut ?_;have e:Dk h b=hS h (vS h (qG b 64) 64) 8:=rfl;rw[e];generalize qG b 64=w;refine bW 24 kK ?_;refine⟨0,rfl,dD,false,?_⟩;refine⟨1,rfl,dD,false,?_⟩;refine⟨2,rfl,dD,false,?_⟩;refine⟨3,rfl,dD,false,?_⟩;refine⟨4,rfl,dD,false,?_⟩;refine⟨5,rfl,dD,false,?_⟩;refine⟨6,rfl,dD,false,?_⟩;refine⟨7,rfl,dD,false,?_⟩;refine dc 123 [(2,.ptr 2 0),(4,.ptr 4 0),(5,.ptr 5 0),(6,.ptr 6 0),(7,.p (.int .u32 (h 0))),(8,.p (.int .u32 (h 1))),(9,.p (.int .u32 (h 2))),(10,.p (.int .u32 (h 3))),(11,.p (.int .u32 (h 4))),(12,.p (.int .u32 (h 5))),(13,.p (.int .u32 (h 6))),(14,.p (.int .u32 (h 7)))] [(2,aG (cH h)),(4,aG (cH λ_=>0)),(5,aG (cW w)),(6,aG (cW kF))] rfl wS oS ?_;refine bJ 123 (λt:Nat=>[(2,.ptr 2 0),(4,.ptr 4 0),(5,.ptr 5 0),(6,.ptr 6 0),(7,.p (.int .u32 (vS h w t 0))),(8,.p (.int .u32 (vS h w t 1))),(9,.p (.int .u32 (vS h w t 2))),(10,.p (.int .u32 (vS h w t 3))),(11,.p (.int .u32 (vS h w t 4))),(12,.p (.int .u32 (vS h w t 5))),(13,.p (.int .u32 (vS h w t 6))),(14,.p (.int .u32 (vS h w t 7))),(39,.p (.int .i64 t))]) (λt=>[(2,aG (cH h)),(4,aG (cH λ_=>0)),(5,aG (cW w)),(6,aG (cW kF))]) (λt=>t<=64) (λt=>64-t) 0 oO rfl wS oS ?_;intro t ht;refine aF (λhlt=>?_) (λhge=>?_);have hlt:t<64:=by have :(t:Int)<64:=hlt;omega
 obtain⟨a1,a2⟩:=sy kF (k:=t) hlt;obtain⟨b1,b2⟩:=sy w (k:=t) hlt;refine bW 28 kK ?_;refine⟨_,(oL _ 6 dD).cut,?_⟩;refine⟨_,(oL _ 11 dD).cut,?_⟩;refine⟨_,rfl,?_⟩;refine⟨_,(oL _ 25 dD).cut,?_⟩;refine⟨_,rfl,?_⟩;refine⟨_,rfl,?_⟩;refine⟨_,rfl,?_⟩;refine⟨_,rfl,?_⟩;refine⟨_,rfl,?_⟩;refine⟨_,rfl,?_⟩;refine⟨_,rfl,?_⟩;refine⟨t,rfl,hlt,true,t,(by show 0+t*1=t;omega),?_⟩;refine⟨_,_,_,a1,a2,?_⟩;refine⟨_,rfl,?_⟩;refine⟨t,rfl,hlt,true,t,(by show 0+t*1=t;omega),?_⟩;refine⟨_,_,_,b1,b2,?_⟩;refine⟨t1F (vS h w t) (kF t) (w t),rfl,?_⟩;refine cl (oL _ 2 dD).cut ?_;refine cl (oL _ 13 dD).cut ?_;refine⟨_,rfl,?_⟩;refine cl (oL _ 22 dD).cut ?_;refine⟨_,rfl,?_⟩;refine⟨_,rfl,?_⟩;refine⟨_,rfl,?_⟩;refine⟨_,rfl,?_⟩;refine⟨_,rfl,?_⟩;refine⟨_,rfl,?_⟩;refine⟨t2F (vS h w t),rfl,?_⟩;refine⟨_,rfl,?_⟩;refine⟨_,rfl,?_⟩;exact nx (t+1) (aQ (t+1) hlt (by show 64-(t+1)<64-t;omega) rfl wS oS);obtain rfl:t=64:=by have :¬(t:Int)<64:=hge;omega
 generalize vS h w 64=v;refine dc 123 [(2,.ptr 2 0),(4,.ptr 4 0),(7,.p (.int .u32 (v 0))),(8,.p (.int .u32 (v 1))),(9,.p (.int .u32 (v 2))),(10,.p (.int .u32 (v 3))),(11,.p (.int .u32 (v 4))),(12,.p (.int .u32 (v 5))),(13,.p (.int .u32 (v 6))),(14,.p (.int .u32 (v 7)))] [(2,aG (cH h)),(4,aG (cH λ_=>0))] rfl wS oS ?_;refine bJ 123 (λk:Nat=>[(2,.ptr 2 0),(4,.ptr 4 0),(110,.agg (aG (cH v))),(111,.p (.int .i64 k))]) (λk=>[(2,aG (cH (hS h v k))),(4,aG (cH λ_=>0))]) (λk=>k<=8) (λk=>8-k) 0 oO rfl wS oS ?_;intro k hk;refine aF (λhlt=>?_) (λhge=>?_);have hlt:k<8:=by have :(k:Int)<8:=hlt;omega
 obtain⟨a1,a2⟩:=PS (hS h v k) (k:=k) hlt;have a3:=Zz (hS h v k) (k:=k) hlt (oK (hS h v k k) (v k));refine⟨k,rfl,hlt,ZF (ZG v hlt) ?_⟩;refine⟨k,rfl,hlt,true,k,(by show 0+k*1=k;omega),?_⟩;refine⟨_,_,_,a1,a2,?_⟩;refine⟨_,rfl,?_⟩;refine⟨k,rfl,hlt,true,k,(by show 0+k*1=k;omega),?_⟩;refine⟨_,_,_,a1,a2,?_⟩;refine⟨_,a3,?_⟩;exact nx (k+1) (aQ (k+1) hlt (by show 8-(k+1)<8-k;omega) rfl wS oS);obtain rfl:k=8:=by have :¬(k:Int)<8:=hge;omega
 exact rfl
def iV (s:Bytes):List (List AV):=s.map λc=>[.int .u8 (c.toNat:Int)]
theorem cmpL_eq:∀a b:Bytes,Lib.compareBytes a b=cmpL a b|[],[]=>rfl|[],_::_=>rfl|_::_,[]=>rfl|x::a,y::b=>by show(if x<y then-1 else if y<x then 1 else Lib.compareBytes a b)=if x.toNat<y.toNat then-1 else if y.toNat<x.toNat then 1 else cmpL a b;rw[cmpL_eq a b];simp only[UInt8.lt_iff_toNat_lt]
theorem FJ {P:Program}{bk:Nat->Nat->Prop}{w:World}{v:Value}{s:Bytes}(h:dA bk w v (.sl (iV s))):(Extern.Bytes.bytesOf v).run P w=.ok ⟨s.toArray⟩ w:=by
 obtain⟨ad,c,rfl,hc,hne⟩:=h.mq;have hl:(iV s).length=s.length:=by simp[iV]
 rw[hl];by_cases h0:s=[];subst h0;cases ad<;>simp[Extern.Bytes.bytesOf,Extern.Bytes.loadBytes]<;>rfl;obtain⟨b,off,bM,cell,rfl,g1,g2⟩:=hne (by simpa[iV]using h0);have hpos:0<s.length:=nR.2 h0;have he1:bM=1:=(g1 0 [AV.int .u8 (s[0].toNat:Int)] (by simp[iV,hpos])).symm;subst he1;have :=Lib.run_loadBytesX (P:=P) (w:=w) (s.map λc=>(c.toNat:Int)) ⟨b,off,none⟩ .empty λj x hx=>by rw[aN]at hx;obtain⟨c',hc',rfl⟩:=sM.1 hx;obtain⟨-,g3,-,g4⟩:=g2 j [AV.int .u8 (c'.toNat:Int)] 0 _ (by simp[iV,hc']) rfl;rw[Addr.add_lit,show off+j=off+j*1+0 from oO,g3];generalize cell j 0=cc at g4;cases g4;rfl
 rw[ah]at this;have e:Lib.bytesOf (s.map λc=>(c.toNat:Int))=s:=by show(s.map λc=>(c.toNat:Int)).map (λn=>UInt8.ofNat n.toNat)=s;rw[fL];exact(dZ λc _=>by simp).trans (List.map_id s)
 rw[e]at this;simpa[Extern.Bytes.bytesOf]using this
theorem xU (a b:Bytes):aq C 146 [.sl (iV a),.sl (iV b)] (λr=>r=.val (.int .i64 (cmpL a b))):=by
 refine⟨⟨_,Tryz.func146,rfl,rfl⟩,λbk w vs hJ hn hi hl hr=>?_⟩;match vs,hl with
  |[v0,v1],_=>
   have h0:=hr 0 v0 _ rfl rfl;have h1:=hr 1 v1 _ rfl rfl;have e0:=FJ (P:=Tryz.prog) h0;have e1:=FJ (P:=Tryz.prog) h1;have hrun:(Extern.BytealgCompare.compare #[v0,v1]).run Tryz.prog w=.ok (.int .i64 (cmpL a b)) w:=by change Sem.run Tryz.prog (do pure (goInt (Extern.BytealgCompare.cmp (<-Extern.Bytes.bytesOf v0) (<-Extern.Bytes.bytesOf v1)))) w=_;simp only[Sem.run_bind,e0,e1,Result.andThen_ok,Sem.run_pure];rw[Lib.cmp_eq,cmpL_eq];rfl
   show Calls Tryz.prog 146 #[v0,v1] w _;clear h0 h1 hr e0 e1;go_enter Tryz.func146,Tryz.ntmps146;go_wp2;rw[run_callFunc_extern Tryz.func212 kK kK kK (e:=Extern.BytealgCompare.compare) kK,hrun];simp only[Result.andThen];rw[Oper.upon_value];go_wp2;go_ret;exact⟨_,_,rfl,rfl,.int _ _,RowKit.Below.refl _ _⟩
theorem dy {d:Nat}{ds:List Nat}{K:aj->Prop}{S:aj}{cells:List FV}{ys:List AV}(h1:Av S.aI d=some cells)(h2:FV.fe cells=some ys)(h3:uw ys=true)(h:Fl ds K (S.JL d ys)):Fl (d::ds) K S:=by simp only[Fl,h1,h2,h3];exact h
theorem bC (xs:List AV):FV.fe (aG xs)=some xs:=by
 induction xs with
 |nil=>rfl
 |cons x xs ih=>simp[aG,FV.fe,FV.eG,ih]
theorem PX (a:Int):aq C 234 [.int .i64 a] (λr=>r=.val (.bool false)):=by refine ai Tryz.func234 rfl rfl rfl ?_;refine cu (λh=>?_) (λh=>?_);exact absurd rfl h;exact rfl
theorem Wl (a b:Int):aq C 170 [.int .i64 a,.int .i64 b] (λr=>r=.val (.int .i64 (if a<b then-1 else if b<a then 1 else 0))):=by refine ai Tryz.func170 rfl rfl rfl ?_;refine cl (PX a) ?_;refine cl (PX b) ?_;refine aF (λh=>?_) (λh=>?_);rw[ag h];exact rfl;rw[af h];refine aF (λh=>?_) (λh=>?_);rw[ag oO];exact rfl;rw[af oO];exact rfl
theorem SC (d:Dg):(cD d).map (λx=>[x])=iV d.1:=by obtain⟨l,h⟩:=d;have :cD ⟨l,h⟩=l.map λc=>.int .u8 (c.toNat:Int):=It _;rw[this];simp[iV]
theorem Dq (a b:Dg):aq C 75 [.agg (cD a),.agg (cD b)] (λr=>r=.val (.int .i64 (ee a b))):=by refine aY {opens:=[],JL:=[],full:=false,fzo:=[1]} [] Tryz.func75 rfl rfl rfl ?_;refine⟨[2,3],dy (cells:=aG (cD a)) (ys:=cD a) rfl (bC _) rfl (dy (cells:=aG (cD b)) (ys:=cD b) rfl (bC _) rfl ?_)⟩;refine bW 2 kK ?_;refine⟨.p (.sl (iV a.1)),⟨dD,dD,rfl,(by show 32<=32;decide),_,SC a,rfl⟩,?_⟩;refine⟨.p (.sl (iV b.1)),⟨dD,dD,rfl,(by show 32<=32;decide),_,SC b,rfl⟩,?_⟩;refine cl (xU a.1 b.1).dz ?_;exact rfl
theorem Lh (a b:bV):aq C 96 [.agg (cI a),.agg (cI b)] (λr=>r=.val (.int .i64 (gV a b))):=by refine aY {opens:=[],JL:=[],full:=false,fzo:=[1]} [] Tryz.func96 rfl rfl rfl ?_;refine⟨[2,3],dy (cells:=aG (cI a)) (ys:=cI a) rfl (bC _) rfl (dy (cells:=aG (cI b)) (ys:=cI b) rfl (bC _) rfl ?_)⟩;refine bW 4 kK ?_;refine⟨.p (.sl (iV a.p.1)),⟨dD,dD,rfl,(by show 32<=33;decide),_,SC a.p,rfl⟩,?_⟩;refine⟨.p (.sl (iV b.p.1)),⟨dD,dD,rfl,(by show 32<=33;decide),_,SC b.p,rfl⟩,?_⟩;refine cl (xU a.p.1 b.p.1).dz ?_;unfold gV ee;refine cu (λh=>?_) (λh=>?_);rw[ag h];exact rfl;rw[af oO];refine cl (Wl a.n b.n).dz ?_;exact rfl
theorem SD (s:Bytes):aq C 178 [.str s] (λr=>r=.val (.fn (.func 253) [] [.imp [.str s]])):=by refine ai Tryz.func178 rfl rfl rfl ?_;refine⟨[1],dy (cells:=[.p (.str s)]) (ys:=[.str s]) rfl rfl rfl ?_⟩;exact rfl
theorem adl {s R:Bytes}{a:Nat}(h:a+64<=s.length):(s.take (a+64)).drop a=((s++R).take (a+64)).drop a:=by rw[sG h]
theorem ZH (M:Bytes)(c a:Nat):((M.drop c).take (a+64)).drop a=(M.take (c+a+64)).drop (c+a):=by rw[List.take_drop,wE,fH]
theorem ZI (Y:Bytes)(h l:Nat):((iV Y).take h).drop l=iV ((Y.take h).drop l):=by simp[iV,mz,qh]
theorem za (Y:Bytes):(iV Y).length=Y.length:=by simp[iV]
theorem Dr (Y:Bytes):∀zs,zs∈iV Y->zs.length=1:=by intro zs h;obtain⟨c,-,rfl⟩:=aC.1 h;rfl
theorem ZJ (Y:Bytes)(c:UInt8):iV Y++[[.int .u8 (c.toNat:Int)]]=iV (Y++[c]):=by simp[iV]
theorem MZ (x:AV):chunk 1 1 [x]=[[x]]:=rfl
theorem BA (x:AV):∀zs,zs∈chunk 1 1 [x]->zs.length=1:=by intro zs h;rw[MZ]at h;obtain rfl:=aP.1 h;rfl
theorem SE (s:Bytes):tY s=s++([128]++jL ((120-(s.length+1)%64)%64)++tX s.length 8):=by simp[tY]
theorem adm (s:Bytes)(hs:s.length<2^40):aq C 108 [.str s] (λr=>r=.val (.agg (cD (PT s)))):=by
 refine ej [] Tryz.func108 rfl rfl rfl ?_;refine cl Sy.cut ?_;obtain⟨m,hm⟩:∃m,tY s=m:=⟨_,rfl⟩;obtain⟨q,hq,hql⟩:=PW s;have hlen:m.length=64*q:=by rw[<-hm];exact hq
 have hq2:(tY s).length/64=q:=by rw[hq];omega
 obtain⟨Z,hZ⟩:∃Z,(120-(s.length+1)%64)%64=Z:=⟨_,rfl⟩;have adn:=SE s;rw[hm,hZ]at adn;obtain⟨p,hp⟩:∃p,s.length/64=p:=⟨_,rfl⟩;refine cl (SD s).cut ?_;refine⟨_,rfl,rfl,rfl,rfl,?_⟩;refine⟨dD,(p:Int),by rw[<-hp];show IntKind.i64.wrap ((s.length:Int).tdiv ((64:Nat):Int))=_;rw[afe,wrap64 oO oO],?_⟩;refine nx (64*p) ?_;refine tV 67 1000 (λk:Nat=>[(0,.lX 1000000),(1,.p (.imp [.str s])),(3,.p (.int .i64 ((64*p:Nat):Int))),(4,.p (.int .i64 ((64*k:Nat):Int)))]) (λk=>[(2,aG (cD aV)),(3,aG (cH (vE m k)))]) (λ_=>[(38,0,[(2,.ptr 2 0),(3,.ptr 3 0)])]) [.ready] (λ_=>[]) (λ_=>[]) (λ_=>[]) (λk=>k<=p) (λk=>p-k) 0 oO rfl wS oS ⟨rfl,wS,trivial⟩ trivial trivial trivial ?_;intro k hk;refine aF (λhlt=>?_) (λhge=>?_);have hlt:k<p:=by have :((64*k:Nat):Int)<((64*p:Nat):Int):=hlt;omega
 have hin:64*k+64<=s.length:=oO
 refine nx (64*k+64) ?_;refine⟨64*k+64,rfl,64*k,rfl,oO,hin,_,rfl,?_⟩;refine⟨rfl,?_⟩;refine⟨_,(FI (vE m k) ((s.take (64*k+64)).drop (64*k)) (by rw[cQ,aL];omega)).cut,λr hr=>?_⟩;have e:Dk (vE m k) ((s.take (64*k+64)).drop (64*k))=vE m (k+1):=by rw[adl (R:=[128]++jL Z++tX s.length 8) hin,<-adn];rfl
 rw[e]at hr;subst hr;refine bH ?_;refine nx (64*(k+1)) ?_;refine oD (k+1) hlt (by show p-(k+1)<p-k;omega) rfl wS oS ⟨rfl,wS,trivial⟩ trivial trivial trivial;obtain rfl:k=p:=by have :¬((64*k:Nat):Int)<((64*p:Nat):Int):=hge;omega
 have Zg:64*k<=s.length:=oO
 refine⟨64*k,rfl,oO,aA _,s.drop (64*k),by rw[aU],?_⟩;have hsk:s.drop (64*k)++([128]++jL Z++tX s.length 8)=m.drop (64*k):=by rw[adn,CB Zg]
 have ah5:(s.drop (64*k)).length=s.length-64*k:=cQ;generalize s.drop (64*k)=X at hsk ah5;refine⟨Dr X,BA _,by show((iV X).length+1)*1<=_;rw[za];omega,iV (X++[128]++jL 0),by simp[iV,jL,MZ],?_⟩;refine tV 67 1000 (λj:Nat=>[(0,.lX 1000000),(1,.p (.imp [.str s])),(3,.p (.int .i64 ((64*k:Nat):Int))),(5,.fM 1028 5 1 (iV (X++[128]++jL j)))]) (λ_=>[(2,aG (cD aV)),(3,aG (cH (vE m k)))]) (λ_=>[(38,0,[(2,.ptr 2 0),(3,.ptr 3 0)])]) [.ready] (λ_=>[]) (λ_=>[]) (λ_=>[]) (λj=>j<=Z) (λj=>Z-j) 0 oO rfl wS oS ⟨rfl,wS,trivial⟩ trivial trivial trivial ?_;intro j hj;have hYl:(iV (X++[128]++jL j)).length=s.length-64*k+1+j:=by rw[za];simp[jL,ah5];omega
 refine⟨dD,(((s.length-64*k+1+j)%64:Nat):Int),by rw[hYl];rfl,?_⟩;refine cu (λhne=>?_) (λheq=>?_);have hjZ:j<Z:=by have :¬(((s.length-64*k+1+j)%64:Nat):Int)=56:=hne;omega
 refine⟨Dr _,BA _,by rw[hYl];show(s.length-64*k+1+j+1)*1<=_;omega,iV (X++[128]++jL (j+1)),by simp[iV,jL,List.replicate_succ',MZ],?_⟩;refine oD (j+1) hjZ (by show Z-(j+1)<Z-j;omega) rfl wS oS ⟨rfl,wS,trivial⟩ trivial trivial trivial;obtain rfl:j=Z:=by have :(((s.length-64*k+1+j)%64:Nat):Int)=56:=heq;omega
 refine tV 67 1000 (λx:Nat×Bytes=>[(0,.lX 1000000),(1,.p (.imp [.str s])),(5,.fM 1028 5 1 (iV x.2)),(6,.p (.int .i64 (((8*x.1:Nat):Int)-8)))]) (λ_=>[(2,aG (cD aV)),(3,aG (cH (vE m k)))]) (λ_=>[(38,0,[(2,.ptr 2 0),(3,.ptr 3 0)])]) [.ready] (λ_=>[]) (λ_=>[]) (λ_=>[]) (λx=>x.1<=8/\x.2++tX s.length x.1=m.drop (64*k)/\x.2.length<=2^41) (λx=>x.1) (8,X++[128]++jL j) ⟨aA 8,by rw[<-hsk];simp,by rw[<-za,hYl];omega⟩ rfl wS oS ⟨rfl,wS,trivial⟩ trivial trivial trivial ?_;rintro⟨i,Y⟩ ⟨hi,hY,hYn⟩;have hi:i<=8:=hi;have hY:Y++tX s.length i=m.drop (64*k):=hY;have hYn:Y.length<=2^41:=hYn;refine aF (λakx=>?_) (λaky=>?_);obtain⟨i,rfl⟩:∃i',i=i'+1:=⟨i-1,by have :((8*i:Nat):Int)-8≥0:=akx;omega⟩;have hs8:(((8*(i+1):Nat):Int)-8)=((8*i:Nat):Int):=oO
 have hE:Y.length+(i+1)=64*q-64*k:=by have :=bg List.length hY;rw[ay,EH,cQ,hlen]at this;exact this
 refine⟨(s.length:Int),uM oO oO,?_⟩;refine⟨((s.length*8:Nat):Int),by rw[uM oO oO];omega,?_⟩;refine⟨oO,((s.length*8/2^(8*i):Nat):Int),?_,?_⟩;rw[hs8];have :min ((8*i:Nat):Int).toNat IntKind.u64.bits=8*i:=by show min (((8*i:Nat):Int).toNat) 64=8*i;omega
 rw[this];exact aff _ _;refine⟨_,Lg oO,?_⟩;refine⟨Dr _,BA _,by show((iV Y).length+1)*1<=_;rw[za];omega,iV (Y++[MW s.length i]),by rw[MZ,ZJ],?_⟩;refine⟨((8*i:Nat):Int)-8,by rw[hs8,wrap64 oO oO],?_⟩;refine oD (i,Y++[MW s.length i]) ⟨by show i<=8;omega,by show Y++[MW s.length i]++tX s.length i=_;rw[<-hY];simp[tX],by show(Y++[_]).length<=_;rw[ay];show Y.length+1<=_;omega⟩ (by show i<i+1;omega) rfl wS oS ⟨rfl,wS,trivial⟩ trivial trivial trivial;obtain rfl:i=0:=by have :¬((8*i:Nat):Int)-8≥0:=aky;omega
 have hY:Y++[]=m.drop (64*k):=hY;rw[aW]at hY;subst hY;have hml:(iV (m.drop (64*k))).length=64*(q-k):=by rw[za,cQ,hlen];omega
 refine tV 67 1000 (λj:Nat=>[(0,.lX 1000000),(5,.fM 1028 5 1 (iV (m.drop (64*k)))),(7,.p (.int .i64 ((64*j:Nat):Int)))]) (λj=>[(2,aG (cD aV)),(3,aG (cH (vE m (k+j))))]) (λ_=>[(38,0,[(2,.ptr 2 0),(3,.ptr 3 0)])]) [.ready] (λ_=>[]) (λ_=>[]) (λ_=>[]) (λj=>j<=q-k) (λj=>q-k-j) 0 oO rfl wS oS ⟨rfl,wS,trivial⟩ trivial trivial trivial ?_;intro j hjq;refine aF (λhlt=>?_) (λhge=>?_);have hlt:j<q-k:=by have :((64*j:Nat):Int)<((iV (m.drop (64*k))).length:Int):=hlt;omega
 refine nx (64*j+64) ?_;refine⟨64*j+64,rfl,64*j,rfl,oO,oO,Dr _,iV ((m.take (64*(k+j)+64)).drop (64*(k+j))),by rw[ZI,ZH,show 64*k+64*j=64*(k+j)from oO],?_⟩;refine⟨_,rfl,?_⟩;refine⟨rfl,?_⟩;refine⟨_,(FI (vE m (k+j)) ((m.take (64*(k+j)+64)).drop (64*(k+j))) (by rw[cQ,aL];omega)).cut,λr hr=>?_⟩;have e:Dk (vE m (k+j)) ((m.take (64*(k+j)+64)).drop (64*(k+j)))=vE m (k+(j+1)):=rfl;rw[e]at hr;subst hr;refine bH ?_;refine nx (64*(j+1)) ?_;refine oD (j+1) hlt (by show q-k-(j+1)<q-k-j;omega) rfl wS oS ⟨rfl,wS,trivial⟩ trivial trivial trivial;obtain rfl:j=q-k:=by have :¬((64*j:Nat):Int)<((iV (m.drop (64*k))).length:Int):=hge;omega
 have hkq:k+(q-k)=q:=by have :=bg List.length adn;rw[ay,hlen]at this;omega
 have hout:=ZC s (vE m q) (by rw[hq2,hm]);rw[hkq];generalize vE m q=h at hout⊢;refine bJ 38 (λi:Nat=>[(2,.ptr 2 0),(5,.ptr 5 0),(16,.agg (aG (cH h))),(17,.p (.int .i64 (i:Int)))]) (λi=>[(2,aG (cD aV)),(5,aG (cB (bS h (4*i))))]) (λi=>i<=8) (λi=>8-i) 0 oO rfl wS oS ?_;intro i hi8;refine aF (λhlt=>?_) (λhge=>?_);have hlt:i<8:=by have :(i:Int)<8:=hlt;omega
 refine⟨i,rfl,hlt,ZF (ZG h hlt) ?_⟩;refine bJ 38 (λj:Nat=>[(2,.ptr 2 0),(5,.ptr 5 0),(6,.p (.int .i64 (i:Int))),(7,.p (.int .u32 (h i))),(16,.agg (aG (cH h))),(17,.p (.int .i64 (i:Int))),(21,.p (.int .i64 (j:Int)))]) (λj=>[(2,aG (cD aV)),(5,aG (cB (bS h (4*i+j))))]) (λj=>j<=4) (λj=>4-j) 0 oO rfl wS oS ?_;intro j hj4;refine aF (λef=>?_) (λsq=>?_);have ef:j<4:=by have :(j:Int)<4:=ef;omega
 have aga:4*i+j<32:=oO
 obtain⟨b1,b2⟩:=afg (bS h (4*i+j)) (k:=4*i+j) aga;have b3:=ZB (bS h (4*i+j)) (k:=4*i+j) aga (Iv h (4*i+j)).toNat;refine nx (4*i) ?_;refine nx (4*i+j) ?_;refine nx (8*j) ?_;refine nx (24-8*j) ?_;refine⟨oO,_,rfl,?_⟩;refine⟨((Iv h (4*i+j)).toNat:Int),?_,?_⟩;have e:((24-8*j:Nat):Int)=24-8*(((4*i+j)%4:Nat):Int):=oO
 show IntKind.u8.wrap (AR (h i) ((24-8*j:Nat):Int))=_;rw[e,show i=(4*i+j)/4 from oO];have e2:(4*((4*i+j)/4)+j)=4*i+j:=oO
 rw[e2];exact(Uz _).symm;refine⟨4*i+j,rfl,aga,true,4*i+j,(by show 0+(4*i+j)*1=4*i+j;omega),?_⟩;refine⟨_,_,_,b1,b2,?_⟩;refine⟨_,b3,?_⟩;exact nx (j+1) (aQ (j+1) ef oO rfl wS oS);obtain rfl:j=4:=by have :¬(j:Int)<4:=sq;omega
 exact nx (i+1) (aQ (i+1) hlt oO rfl wS oS);obtain rfl:i=8:=by have :¬(i:Int)<8:=hge;omega
 rw[hout];exact rfl
theorem GI {s:Bytes}{c:UInt8}{n:Int}{k:Nat}(h:n.toNat=k)(hc:s[k]?=some c):s[n.toNat]?=some c:=by rw[h];exact hc
def oM (x:Int):Prop:=(97<=x/\x<=122)\/(65<=x/\x<=90)\/(48<=x/\x<=57)\/x=46\/x=95\/x=45
instance (x:Int):Decidable (oM x):=by unfold oM;exact inferInstance
def ZK (c:UInt8):Bool:=decide (oM c.toNat)
def iz (s:Bytes):Bool:=decide (s≠[])&&decide (s≠[46])&&decide (s≠[46,46])&&decide (s.length<=40)&&s.all ZK
theorem jw {s:Bytes}(h:s=[]\/s=[46]\/s=[46,46]\/40<s.length\/∃c,c∈s/\¬oM c.toNat):iz s=false:=by
 cases hq:iz s with
 |false=>rfl
 |true=>simp only[iz,br,decide_eq_true_eq,bA]at hq;obtain⟨⟨⟨⟨h1,h2⟩,h3⟩,h4⟩,h5⟩:=hq;rcases h with h|h|h|h|⟨c,hc,hn⟩;exact absurd h h1;exact absurd h h2;exact absurd h h3;omega;have :=h5 c hc;simp only[ZK,decide_eq_true_eq]at this;exact absurd this hn
theorem Iw {s:Bytes}(h1:s≠[])(h2:s≠[46])(h3:s≠[46,46])(h4:s.length<=40)(h5:∀c,c∈s->oM c.toNat):iz s=true:=by simp only[iz,br,decide_eq_true_eq,bA];exact⟨⟨⟨⟨h1,h2⟩,h3⟩,h4⟩,λc hc=>by simp only[ZK,decide_eq_true_eq];exact h5 c hc⟩
theorem Iy (s:Bytes)(hs:s.length<=2^50):aq C 196 [.str s] (λr=>r=.val (.bool (iz s))):=by
 refine ai Tryz.func196 rfl rfl rfl ?_;refine bJ 65 (λk:Nat=>[(0,.p (.str s)),(3,.p (.int .i64 k))]) (λ_=>[]) (λk=>k<=s.length/\∀i c,i<k->s[i]?=some c->oM c.toNat) (λk=>s.length-k) 0 ⟨zL,λi c h=>absurd h (jm _)⟩ rfl wS trivial ?_;rintro k ⟨hk,hall⟩;have hw:IntKind.i64.wrap ((k:Int)+1)=((k+1:Nat):Int):=by rw[wrap64 oO oO];omega
 refine aF (λhlt=>?_) (λhge=>?_)
 ·have hlt:k<s.length:=by have :(k:Int)<(s.length:Int):=hlt;omega
  obtain⟨c,hc⟩:∃c,s[k]?=some c:=⟨_,av hlt⟩;refine⟨oO,c,GI rfl hc,?_⟩;have bad:¬oM c.toNat->iz s=false:=λh=>jw (.inr (.inr (.inr (.inr ⟨c,bU hc,h⟩))));have good:oM c.toNat->k+1<=s.length/\∀i d,i<k+1->s[i]?=some d->oM d.toNat:=λh=>⟨hlt,λi d hi hd=>by by_cases hik:i=k;subst hik;rw[hc]at hd;obtain rfl:=au hd;exact h;exact hall i d oO hd⟩;refine⟨none,?_⟩;have ZL:¬oM c.toNat->dx.val (.bool false)=dx.val (.bool (iz s)):=λh=>by rw[bad h]
  repeat' (first|refine aF (λh=>?_) (λh=>?_)|refine aB (λh=>?_) (λh=>?_)|refine bH ?_)
  all_goals first|exact ZL (by unfold oM;omega)|exact⟨_,hw,aQ (k+1) (good (by unfold oM;omega)) oO rfl wS trivial⟩
 have hge:¬k<s.length:=by intro h;exact hge (show(k:Int)<(s.length:Int)by omega)
 have hn:∀c,c∈s->oM c.toNat:=λc hc=>by obtain⟨i,hi⟩:=iK hc;exact hall i c (by have :=(aJ.1 hi).1;omega) hi
 refine⟨none,?_⟩;refine aF (λh1=>?_) (λh1=>?_);have hne:s≠[]:=λe=>by rw[e]at h1;exact absurd h1 dD
 refine aF (λh2=>?_) (λh2=>?_);refine Bv (λh3=>?_) (λh3=>?_);refine Bv (λh4=>?_) (λh4=>?_);rw[Iw hne h3 h4 oO hn];exact rfl;rw[jw (.inr (.inr (.inl h4)))];exact rfl;rw[jw (.inr (.inl h3))];exact rfl;rw[jw (.inr (.inr (.inr (.inl oO))))];exact rfl;have hne:s=[]:=by
  cases s with
  |nil=>rfl
  |cons _ _=>exact absurd (show((_:Int)≥1)by simp only[aR];omega) h1
 rw[jw (.inl hne)];exact rfl
theorem EI {α:Type}{a b:List α}{k:Nat}(hl:a.length=b.length)(hk:k<a.length)(he:a.take k=b.take k)(h:a[k]=b[k]):a.take (k+1)=b.take (k+1):=by rw[<-gb hk,<-gb (show k<b.length by omega),he,h]
theorem Iz {α:Type}{a b:List α}{k:Nat}(hl:a.length=b.length)(hk:¬k<a.length)(he:a.take k=b.take k):a=b:=by rw[cU oO,cU oO]at he;exact he
theorem ZM (a b:List Dg)(ha:a.length<=2^47)(hb:b.length<=2^47):aq C 48 [.sl (jW a),.sl (jW b)] (λr=>r=.val (.bool (decide (a=b)))):=by
 unfold jW;refine ai Tryz.func48 rfl rfl rfl ?_;refine cu (λh=>?_) (λh=>?_);have :a≠b:=λe=>h (by rw[e]);show dx.val (.bool false)=_;simp[this];have hl:a.length=b.length:=by simp only[ah]at h;omega
 refine bJ 26 (λk:Nat=>[(0,.p (.sl (a.map cD))),(1,.p (.sl (b.map cD))),(5,.p (.int .i64 k))]) (λ_=>[]) (λk=>k<=a.length/\a.take k=b.take k) (λk=>a.length-k) 0 ⟨zL,rfl⟩ rfl wS trivial ?_;rintro k ⟨hk,he⟩;refine cg (λhlt=>?_) (λhge=>?_);have hlb:k<b.length:=oO
 refine bW 8 kK ?_;refine ix hlt ?_;refine ix hlb ?_;refine⟨qC,bY,lC,rfl,rfl,?_⟩;refine nE (a:=a[k]) (b:=b[k]) ?_;by_cases h:a[k]=b[k];rw[an h];exact nx (k+1) (aQ (k+1) ⟨hlt,EI hl hlt he h⟩ oO rfl wS trivial);rw[ak h];have :a≠b:=λe=>by subst e;exact h rfl
 show dx.val (.bool false)=_;simp[this];have :a=b:=Iz hl hge he;show dx.val (.bool true)=_;simp[this]
theorem Wm (a b:List bV)(ha:a.length<=2^47)(hb:b.length<=2^47):aq C 171 [.sl (oF a),.sl (oF b)] (λr=>r=.val (.bool (decide (a=b)))):=by
 unfold oF;refine ai Tryz.func171 rfl rfl rfl ?_;refine cu (λh=>?_) (λh=>?_);have :a≠b:=λe=>h (by rw[e]);show dx.val (.bool false)=_;simp[this];have hl:a.length=b.length:=by simp only[ah]at h;omega
 refine bJ 26 (λk:Nat=>[(0,.p (.sl (a.map cI))),(1,.p (.sl (b.map cI))),(5,.p (.int .i64 k))]) (λ_=>[]) (λk=>k<=a.length/\a.take k=b.take k) (λk=>a.length-k) 0 ⟨zL,rfl⟩ rfl wS trivial ?_;rintro k ⟨hk,he⟩;refine cg (λhlt=>?_) (λhge=>?_);have hlb:k<b.length:=oO
 refine bW 8 kK ?_;refine ix hlt ?_;refine ix hlb ?_;refine qT ?_;refine Iu (a:=a[k]) (b:=b[k]) ?_;by_cases h:a[k]=b[k];rw[an h];exact nx (k+1) (aQ (k+1) ⟨hlt,EI hl hlt he h⟩ oO rfl wS trivial);rw[ak h];have :a≠b:=λe=>by subst e;exact h rfl
 show dx.val (.bool false)=_;simp[this];have :a=b:=Iz hl hge he;show dx.val (.bool true)=_;simp[this]
theorem wW {α:Type}{l:List α}{k:Nat}{x:α}(hk:k<l.length)(h:x∉l.take k)(hx:l[k]≠x):x∉l.take (k+1):=by rw[<-gb hk,aZ,aP];rintro(h1|h1);exact h h1;exact hx h1.symm
theorem akz (l:List bV)(x:bV)(hl:l.length<=2^47):aq C 71 [.sl (oF l),.agg (cI x)] (λr=>r=.val (.bool (decide (x∈l)))):=by
 unfold oF;refine ai Tryz.func71 rfl rfl rfl ?_;refine bJ 18 (λk:Nat=>[(0,.p (.sl (l.map cI))),(3,.ptr 3 0),(5,.p (.int .i64 k))]) (λ_=>[(3,aG (cI x))]) (λk=>k<=l.length/\x∉l.take k) (λk=>l.length-k) 0 ⟨zL,by simp⟩ rfl wS oS ?_;rintro k ⟨hk,hn⟩;refine cg (λhlt=>?_) (λhge=>?_);refine bW 5 kK ?_;refine ix hlt ?_;refine qT ?_;refine jC (a:=l[k]) (b:=x) ?_;by_cases h:l[k]=x;rw[an h];have :x∈l:=h▸aO hlt;show dx.val (.bool true)=_;simp[this];rw[ak h];exact nx (k+1) (aQ (k+1) ⟨hlt,wW hlt hn h⟩ oO rfl wS oS);have :x∉l:=by rw[cU oO]at hn;exact hn
 show dx.val (.bool false)=_;simp[this]
def ye:List bV->Bool|a::b::r=>decide (gV a b<0)&&ye (b::r)|_=>true
theorem Ds:∀l:List bV,ye l=true↔∀(i:Nat)(a b:bV),l[i]?=some a->l[i+1]?=some b->gV a b<0
 |[]=>by simp[ye]
 |[x]=>by simp[ye]
 |x::y::r=>by
  rw[ye,br,decide_eq_true_eq,Ds (y::r)];constructor;rintro⟨h1,h2⟩ i a b ha hb;cases i with
  |zero=>simp only[List.getElem?_cons_zero,nT,bN]at ha hb;subst ha;subst hb;exact h1
  |succ i=>exact h2 i a b ha hb
  intro h;exact⟨h 0 x y rfl rfl,λi a b ha hb=>h (i+1) a b ha hb⟩
theorem PY {l:List bV}{k:Nat}(h1:0<k)(hk:k<l.length)(h:¬gV l[k-1] l[k]<0):ye l=false:=by
 cases hq:ye l with
 |false=>rfl
 |true=>refine absurd ((Ds l).1 hq (k-1) l[k-1] l[k] (av oO) ?_) h;rw[show k-1+1=k from oO];exact av hk
theorem ado (l:List bV)(hl:l.length<=2^47):aq C 198 [.sl (oF l)] (λr=>r=.val (.bool (ye l))):=by
 unfold oF;refine ai Tryz.func198 rfl rfl rfl ?_;refine bJ 21 (λk:Nat=>[(0,.p (.sl (l.map cI))),(3,.p (.int .i64 k))]) (λ_=>[]) (λk=>1<=k/\k<=l.length+1/\∀(i:Nat)(a b:bV),i+1<k->l[i]?=some a->l[i+1]?=some b->gV a b<0) (λk=>l.length+1-k) 1 ⟨aA _,oO,λi a b h=>oO⟩ rfl wS trivial ?_;rintro k ⟨h1,hk,hn⟩;refine cg (λhlt=>?_) (λhge=>?_);have hlt':k-1<l.length:=oO
 refine bW 9 kK ?_;refine nx (k-1) ?_;refine ix hlt' ?_;refine ix hlt ?_;refine cl (FH l[k-1] l[k]) ?_;refine aF (λh=>?_) (λh=>?_);rw[PY h1 hlt oO];exact rfl;refine nx (k+1) (aQ (k+1) ⟨oO,oO,λi a b hi ha hb=>?_⟩ oO rfl wS trivial);by_cases hik:i+1=k;have e:i=k-1:=oO
 subst e;rw[av hlt']at ha;rw[show k-1+1=k from oO,av hlt]at hb;obtain rfl:=au ha;obtain rfl:=au hb;omega;exact hn i a b oO ha hb;rw[(Ds l).2 λi a b ha hb=>hn i a b (by have :=(aJ.1 hb).1;omega) ha hb];exact rfl
theorem mU {l:List bV}:∀zs,zs∈l.map cI->zs.length=33:=by intro zs h;obtain⟨x,-,rfl⟩:=aC.1 h;rfl
def qU:List bV->bV->List bV|[],x=>[x]|y::l,x=>if gV y x<0 then y::qU l x else if y=x then y::l else x::y::l
theorem IA:∀(a b:List bV)(x:bV),(∀y,y∈a->gV y x<0)->qU (a++b) x=a++qU b x|[],b,x,_=>rfl|y::a,b,x,h=>by rw[dm,qU,ag (h y (by simp)),IA a b x λz hz=>h z (by simp[hz])];rfl
theorem adp {l:List bV}{k:Nat}{x:bV}(hk:k<l.length)(h:∀y,y∈l.take k->gV y x<0)(h2:¬gV l[k] x<0):qU l x=if l[k]=x then l else l.take k++[x]++l.drop k:=by
 have e:l=l.take k++(l[k]::l.drop (k+1)):=by rw[<-bZ hk,dI]
 have e2:l.drop k=l[k]::l.drop (k+1):=bZ hk;rw[e2];generalize l[k]=y at*;rw[show qU l x=qU (l.take k++(y::l.drop (k+1))) x from by rw[<-e],IA _ _ _ h,qU,af h2];by_cases hy:y=x;rw[ag hy,ag hy];exact e.symm;rw[af hy,af hy];simp
theorem ZN {l:List bV}{x:bV}(h:∀y,y∈l->gV y x<0):qU l x=l++[x]:=by have :=IA l [] x h;rw[aW]at this;exact this
theorem Na {l:List bV}{k:Nat}{x:bV}(hk:k<l.length)(h:∀y,y∈l.take k->gV y x<0)(h2:gV l[k] x<0):∀y,y∈l.take (k+1)->gV y x<0:=by intro y hy;rw[<-gb hk,aZ,aP]at hy;rcases hy with hy|rfl;exact h y hy;exact h2
theorem adq (l:List bV)(x:bV)(hl:l.length<=2^20):aq C 131 [.sl (oF l),.agg (cI x)] (λr=>r=.val (.sl (oF (qU l x)))):=by
 unfold oF;refine ai Tryz.func131 rfl rfl rfl ?_;refine bJ 49 (λk:Nat=>[(0,.p (.sl (l.map cI))),(3,.ptr 3 0),(5,.p (.int .i64 k))]) (λ_=>[(3,aG (cI x))]) (λk=>k<=l.length/\∀y,y∈l.take k->gV y x<0) (λk=>l.length-k) 0 ⟨zL,by simp⟩ rfl wS oS ?_;rintro k ⟨hk,hn⟩;refine bW 10 kK ?_;refine cg (λhlt=>?_) (λhge=>?_);refine ix hlt ?_;refine cl (FH l[k] x) ?_;refine aF (λh=>?_) (λh=>?_);exact nx (k+1) (aQ (k+1) ⟨hlt,Na hlt hn h⟩ oO rfl wS oS);have hI:=adp hlt hn h;refine bW 10 kK ?_;refine cg (λhlt=>?_) (λhge=>absurd hlt hge);refine ix hlt ?_;refine qT ?_;refine jC (a:=l[k]) (b:=x) ?_;by_cases hx:l[k]=x;rw[an hx];rw[ag hx]at hI;rw[hI];exact rfl;rw[ak hx];rw[af hx]at hI;rw[hI];refine⟨k,rfl,zL,by rw[ah];exact hk,mU,(l.take k).map cI,by simp[mz],?_⟩;refine⟨(λzs h=>nomatch h),mU,by show(0+((l.take k).map cI).length)*40<=_;rw[ah,aL];omega,(l.take k).map cI,rfl,?_⟩;refine⟨mU,mU (l:=[x]),by show(((l.take k).map cI).length+1)*40<=_;rw[ah,aL];omega,(l.take k++[x]).map cI,by rw[aD];rfl,?_⟩;refine⟨k,rfl,by rw[ah];exact hk,aA _,mU,(l.drop k).map cI,by rw[cU (aA _),qh],?_⟩;refine⟨mU,mU,by show(((l.take k++[x]).map cI).length+((l.drop k).map cI).length)*40<=_;simp only[ah,ay,aL,cQ,aR,bn];omega,(l.take k++[x]++l.drop k).map cI,by rw[<-aD],?_⟩;exact .inr rfl;have hkl:k=l.length:=oO
 have hI:qU l x=l.take k++[x]++l.drop k:=by rw[cU oO]at hn⊢;rw[cV oO,aW];exact ZN hn
 refine bW 10 kK ?_;refine cg (λhlt=>absurd hlt hge) (λhge=>?_);rw[hI];refine⟨k,rfl,zL,by rw[ah];exact hk,mU,(l.take k).map cI,by simp[mz],?_⟩;refine⟨(λzs h=>nomatch h),mU,by show(0+((l.take k).map cI).length)*40<=_;rw[ah,aL];omega,(l.take k).map cI,rfl,?_⟩;refine⟨mU,mU (l:=[x]),by show(((l.take k).map cI).length+1)*40<=_;rw[ah,aL];omega,(l.take k++[x]).map cI,by rw[aD];rfl,?_⟩;refine⟨k,rfl,by rw[ah];exact hk,aA _,mU,(l.drop k).map cI,by rw[cU (aA _),qh],?_⟩;refine⟨mU,mU,by show(((l.take k++[x]).map cI).length+((l.drop k).map cI).length)*40<=_;simp only[ah,ay,aL,cQ,aR,bn];omega,(l.take k++[x]++l.drop k).map cI,by rw[<-aD],?_⟩;exact .inr rfl
def tZ (l:List Bytes):Nat:=(l.map List.length).sum
theorem PZ (l:List Bytes)(k:Nat)(h:k<l.length):tZ (l.take (k+1))=tZ (l.take k)+l[k].length:=by unfold tZ;rw[<-gb h,aD,mE];simp
theorem FK {α:Type}(f:α->Nat)(l:List α)(k:Nat):((l.take k).map f).sum<=(l.map f).sum:=by have :=bg (λx=>(x.map f).sum) (dI k l);simp only[aD,mE]at this;omega
def zb (l:List Bytes):Bool:=decide (40<l.length)||decide (3000<tZ l)
structure SzS (a:List Bytes):Prop where
 len:a.length<=2^47
 each:∀s,s∈a->s.length<=2^47
theorem zc {α:Type}(f:α->Nat)(m:Nat):∀(l:List α),(∀x,x∈l->f x<=m)->(l.map f).sum<=l.length*m
 |[],_=>by simp
 |x::l,h=>by have h1:=h x (by simp);have h2:=zc f m l λy hy=>h y (by simp[hy]);simp only[bR,sX,aR,bw,kn];omega
theorem wrap_add (x y:Int):IntKind.i64.wrap (IntKind.i64.wrap x+y)=IntKind.i64.wrap (x+y):=by simp only[IntKind.wrap,IntKind.bits,IntKind.signed];simp;split<;>split<;>omega
theorem Wn (a:List Bytes)(hs:SzS a):aq C 51 [PI a] (λr=>r=.val (.bool (zb a))):=by
 have ha:=hs.len;refine ai Tryz.func51 rfl rfl rfl ?_;refine bJ 25 (λk:Nat=>[(0,.p (PI a)),(3,.p (.int .i64 (IntKind.i64.wrap ((tZ (a.take k):Nat):Int)))),(4,.p (.int .i64 k))]) (λ_=>[]) (λk=>k<=a.length) (λk=>a.length-k) 0 (zL) rfl wS trivial ?_;intro k hk;refine cg (λhlt=>?_) (λhge=>?_);have h1:=PZ a k hlt;refine⟨oO,_,dL rfl hlt,rfl,IntKind.i64.wrap ((tZ (a.take (k+1)):Nat):Int),by rw[wrap_add,h1,Int.natCast_add],k+1,wrap64 (by first|omega|(simp only[ah,ay,aR,bn]at*;omega)) (by first|omega|(simp only[ah,ay,aR,bn]at*;omega)),aQ (k+1) hlt oO rfl wS trivial⟩;obtain rfl:k=a.length:=oO
 rw[aU];have hx:¬40<a.length->IntKind.i64.wrap ((tZ a:Nat):Int)=(tZ a:Int):=λh=>by have h1:=zc List.length (2^47) a hs.each;have h2:a.length*2^47<=40*2^47:=ew _ oO;unfold tZ;exact wrap64 oO oO
 refine⟨none,aF (λh=>?_) (λh=>aF (λh2=>?_) (λh2=>?_))⟩;have :40<a.length:=by simp only[ah]at h;omega
 show dx.val (.bool true)=_;simp[zb,this];rw[hx (by simp only[ah]at h;omega)]at h2;have :3000<tZ a:=oO
 show dx.val (.bool true)=_;simp[zb,this];have h3:¬40<a.length:=by simp only[ah]at h;omega
 rw[hx h3]at h2;have h4:¬3000<tZ a:=oO
 show dx.val (.bool false)=_;simp[zb,h3,h4]
structure SzC (c:dn):Prop where
 name:c.name.length<=2^47
 data:c.data.length<=2^47
 lines:SzS c.lines
 over:c.over.length<=2^47
structure RC (p:gr):Prop where
 fq:p.fq.length<=2^47
 message:p.message.length<=2^47
 deps:p.deps.length<=2^47
 len:p.changes.length<=2^47
 each:∀c,c∈p.changes->SzC c
structure Wo (s:List cL):Prop where
 len:s.length<=2^47
 each:∀x,x∈s->RC x.pat
theorem ZO (a b:cq)(ha:a.over.length<=2^47)(hb:b.over.length<=2^47):aq C 92 [.agg (cA a),.agg (cA b)] (λr=>r=.val (.bool (decide (a=b)))):=by refine ai Tryz.func92 rfl rfl rfl ?_;refine⟨none,?_⟩;refine qT ?_;refine jC (a:=a.id) (b:=b.id) ?_;by_cases h1:a.id=b.id;rotate_left;rw[ak h1];exact bg dx.val (bg AV.bool (ak λe=>h1 (by rw[e])).symm);rw[an h1];refine aB (λh2=>?_) (λh2=>?_);rotate_left;exact bg dx.val (bg AV.bool (ak λe=>h2 (by rw[e])).symm);refine qT ?_;refine jC (a:=a.file) (b:=b.file) ?_;by_cases h3:a.file=b.file;rotate_left;rw[ak h3];exact bg dx.val (bg AV.bool (ak λe=>h3 (by rw[e])).symm);rw[an h3];refine aB (λh4=>?_) (λh4=>?_);rotate_left;exact bg dx.val (bg AV.bool (ak λe=>h4 (by rw[e])).symm);refine qT ?_;refine jC (a:=a.parent) (b:=b.parent) ?_;by_cases h5:a.parent=b.parent;rotate_left;rw[ak h5];exact bg dx.val (bg AV.bool (ak λe=>h5 (by rw[e])).symm);rw[an h5];refine aB (λh6=>?_) (λh6=>?_);rotate_left;exact bg dx.val (bg AV.bool (ak λe=>h6 (by rw[e])).symm);refine aB (λh7=>?_) (λh7=>?_);rotate_left;exact bg dx.val (bg AV.bool (ak λe=>h7 (by rw[e])).symm);refine aB (λh8=>?_) (λh8=>?_);rotate_left;exact bg dx.val (bg AV.bool (ak λe=>h8 (by rw[e])).symm);refine aB (λh9=>?_) (λh9=>?_);rotate_left;exact bg dx.val (bg AV.bool (ak λe=>h9 (by rw[e])).symm);refine qT ?_;refine jC (a:=a.fr) (b:=b.fr) ?_;by_cases h10:a.fr=b.fr;rotate_left;rw[ak h10];exact bg dx.val (bg AV.bool (ak λe=>h10 (by rw[e])).symm);rw[an h10];refine qT ?_;refine jC (a:=a.to) (b:=b.to) ?_;by_cases h11:a.to=b.to;rotate_left;rw[ak h11];exact bg dx.val (bg AV.bool (ak λe=>h11 (by rw[e])).symm);rw[an h11];refine cl (Wm a.over b.over ha hb) ?_;exact bg dx.val (bg AV.bool (decide_eq_decide.2 ⟨λh12=>by cases a;cases b;simp_all,λe=>by rw[e]⟩))
end Qv
