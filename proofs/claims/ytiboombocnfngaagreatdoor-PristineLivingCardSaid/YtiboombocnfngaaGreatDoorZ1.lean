/- Part 7 of the proof: its lemmas. No condition. -/
import Derived.Test.YtiboombocnfngaaGreatDoorY6
import Derived.Lib.BytesEntry
import Derived.Lib.Bytealg
import Derived.Lib.Walk
import Derived.Lib.ItoaLen
set_option maxRecDepth 100000
set_option maxHeartbeats 80000000
set_option linter.all false
open Go Go.RowKit
namespace Qv
def x32 (a b:Int):Int:=xC .xor .u32 a b
def a32 (a b:Int):Int:=xC .and .u32 a b
def Bk (a b:Int):Int:=xC .or .u32 a b
def n32 (a:Int):Int:=xC .xor .u32 (IntKind.u32.max) a
def qg (a b:Int):Int:=IntKind.u32.wrap (a+b)
def CS (a b:Int):Int:=a.fdiv (2^(min b.toNat 32))
def jf (a b:Int):Int:=IntKind.u32.wrap (a*2^(min b.toNat 32))
def uR (a b:Int):Int:=Bk (CS a b) (jf a (32-b))
def cW (f:Nat->Int):List AV:=[.int .u32 (f 0),.int .u32 (f 1),.int .u32 (f 2),.int .u32 (f 3),.int .u32 (f 4),.int .u32 (f 5),.int .u32 (f 6),.int .u32 (f 7),.int .u32 (f 8),.int .u32 (f 9),.int .u32 (f 10),.int .u32 (f 11),.int .u32 (f 12),.int .u32 (f 13),.int .u32 (f 14),.int .u32 (f 15),.int .u32 (f 16),.int .u32 (f 17),.int .u32 (f 18),.int .u32 (f 19),.int .u32 (f 20),.int .u32 (f 21),.int .u32 (f 22),.int .u32 (f 23),.int .u32 (f 24),.int .u32 (f 25),.int .u32 (f 26),.int .u32 (f 27),.int .u32 (f 28),.int .u32 (f 29),.int .u32 (f 30),.int .u32 (f 31),.int .u32 (f 32),.int .u32 (f 33),.int .u32 (f 34),.int .u32 (f 35),.int .u32 (f 36),.int .u32 (f 37),.int .u32 (f 38),.int .u32 (f 39),.int .u32 (f 40),.int .u32 (f 41),.int .u32 (f 42),.int .u32 (f 43),.int .u32 (f 44),.int .u32 (f 45),.int .u32 (f 46),.int .u32 (f 47),.int .u32 (f 48),.int .u32 (f 49),.int .u32 (f 50),.int .u32 (f 51),.int .u32 (f 52),.int .u32 (f 53),.int .u32 (f 54),.int .u32 (f 55),.int .u32 (f 56),.int .u32 (f 57),.int .u32 (f 58),.int .u32 (f 59),.int .u32 (f 60),.int .u32 (f 61),.int .u32 (f 62),.int .u32 (f 63)]
def cH (f:Nat->Int):List AV:=[.int .u32 (f 0),.int .u32 (f 1),.int .u32 (f 2),.int .u32 (f 3),.int .u32 (f 4),.int .u32 (f 5),.int .u32 (f 6),.int .u32 (f 7)]
def kL:List Int:=[1116352408,1899447441,3049323471,3921009573,961987163,1508970993,2453635748,2870763221,3624381080,310598401,607225278,1426881987,1925078388,2162078206,2614888103,3248222580,3835390401,4022224774,264347078,604807628,770255983,1249150122,1555081692,1996064986,2554220882,2821834349,2952996808,3210313671,3336571891,3584528711,113926993,338241895,666307205,773529912,1294757372,1396182291,1695183700,1986661051,2177026350,2456956037,2730485921,2820302411,3259730800,3345764771,3516065817,3600352804,4094571909,275423344,430227734,506948616,659060556,883997877,958139571,1322822218,1537002063,1747873779,1955562222,2024104815,2227730452,2361852424,2428436474,2756734187,3204031479,3329325298]
def kF (i:Nat):Int:=kL.getD i 0
def h0L:List Int:=[1779033703,3144134277,1013904242,2773480762,1359893119,2600822924,528734635,1541459225]
def h0F (i:Nat):Int:=h0L.getD i 0
def qY (f:Nat->Int)(k:Nat)(v:Int):Nat->Int:=λi=>match Nat.beq i k with|true=>v|false=>f i
theorem PI (f:Nat->Int):cW f=(List.range 64).map λi=>.int .u32 (f i):=rfl
theorem ug {α:Type}(g:Nat->α){n k:Nat}(h:k<n):(List.range n).map g=((List.range n).map g).take k++([g k]++((List.range n).map g).drop (k+1))/\(((List.range n).map g).take k).length=k:=by
 have hl:((List.range n).map g).length=n:=by simp
 refine⟨?_,by rw[aN,hl];omega⟩;have hlt:k<((List.range n).map g).length:=by rw[hl];exact h
 have h2:((List.range n).map g).drop k=g k::((List.range n).map g).drop (k+1):=by rw[bM hlt];simp
 rw[pq,<-h2,dU]
theorem Ex {α:Type}(g g':Nat->α){n k:Nat}(h:k<n)(hg:∀i,i≠k->g' i=g i):((List.range n).map g).take k++([g' k]++((List.range n).map g).drop (k+1))=(List.range n).map g':=by
 have h1:((List.range n).map g).take k=((List.range n).map g').take k:=by refine gU λi=>?_;rw[wm,wm];by_cases hi:i<k;rw[af hi,af hi,aJ,aJ];rw[wq oO];simp[hg i oO];rw[aa hi,aa hi]
 have h2:((List.range n).map g).drop (k+1)=((List.range n).map g').drop (k+1):=by refine gU λi=>?_;rw[jV,jV,aJ,aJ];by_cases hi:k+1+i<n;rw[wq hi];simp[hg (k+1+i) oO];rw[nt (by simp;omega)];rfl
 rw[h1,h2];exact(ug g' h).1.symm
theorem sv (f:Nat->Int)(k:Nat)(v:Int):∀i,i≠k->qY f k v i=f i:=λi h=>by
 unfold qY;have hb:Nat.beq i k=false:=by
  cases hb:Nat.beq i k with
  |false=>rfl
  |true=>exact absurd (aK hb) h
 rw[hb]
theorem pH (f:Nat->Int)(k:Nat)(v:Int):qY f k v k=v:=by unfold qY;rw[iN]
abbrev fw (f:Nat->Int)(i:Nat):FV:=.p (.int .u32 (f i))
theorem mW (f:Nat->Int):aI (cW f)=(List.range 64).map (fw f):=rfl
theorem mH (f:Nat->Int):aI (cH f)=(List.range 8).map (fw f):=rfl
theorem FD (f:Nat->Int){k:Nat}(h:k<64):aI (cW f)=(aI (cW f)).take k++([.p (.int .u32 (f k))]++(aI (cW f)).drop (k+1))/\((aI (cW f)).take k).length=k:=by rw[mW];exact ug (fw f) h
theorem ZD (f:Nat->Int){k:Nat}(h:k<64)(v:Int):(aI (cW f)).take k++([.p (.int .u32 v)]++(aI (cW f)).drop (k+1))=aI (cW (qY f k v)):=by
 rw[mW,mW];have :=Ex (fw f) (fw (qY f k v)) h λi hi=>by simp only[fw,sv f k v i hi]
 simp only[fw,pH]at this⊢;exact this
theorem aeI (f:Nat->Int){k:Nat}(h:k<8):aI (cH f)=(aI (cH f)).take k++([.p (.int .u32 (f k))]++(aI (cH f)).drop (k+1))/\((aI (cH f)).take k).length=k:=by rw[mH];exact ug (fw f) h
theorem afD (f:Nat->Int){k:Nat}(h:k<8)(v:Int):(aI (cH f)).take k++([.p (.int .u32 v)]++(aI (cH f)).drop (k+1))=aI (cH (qY f k v)):=by
 rw[mH,mH];have :=Ex (fw f) (fw (qY f k v)) h λi hi=>by simp only[fw,sv f k v i hi]
 simp only[fw,pH]at this⊢;exact this
def xu (b:Bytes)(i:Nat):Int:=((b.getD i 0).toNat:Int)
def w1F (b:Bytes)(t:Nat):Int:=Bk (Bk (Bk (jf (xu b (4*t)) 24) (jf (xu b (4*t+1)) 16)) (jf (xu b (4*t+2)) 8)) (xu b (4*t+3))
def w2F (f:Nat->Int)(t:Nat):Int:=qg (qg (qg (x32 (x32 (uR (f (t-2)) 17) (uR (f (t-2)) 19)) (CS (f (t-2)) 10)) (f (t-7))) (x32 (x32 (uR (f (t-15)) 7) (uR (f (t-15)) 18)) (CS (f (t-15)) 3))) (f (t-16))
def Ah (b:Bytes):Nat->Nat->Int|0=>λ_=>0|k+1=>qY (Ah b k) k (if k<16 then w1F b k else w2F (Ah b k) k)
def t1F (v:Nat->Int)(k w:Int):Int:=qg (qg (qg (qg (v 7) (x32 (x32 (uR (v 4) 6) (uR (v 4) 11)) (uR (v 4) 25))) (x32 (a32 (v 4) (v 5)) (a32 (n32 (v 4)) (v 6)))) k) w
def t2F (v:Nat->Int):Int:=qg (x32 (x32 (uR (v 0) 2) (uR (v 0) 13)) (uR (v 0) 22)) (x32 (x32 (a32 (v 0) (v 1)) (a32 (v 0) (v 2))) (a32 (v 1) (v 2)))
def afF (v:Nat->Int)(k w:Int):Nat->Int|0=>qg (t1F v k w) (t2F v)|1=>v 0|2=>v 1|3=>v 2|4=>qg (v 3) (t1F v k w)|5=>v 4|6=>v 5|7=>v 6|_=>0
def vS (h w:Nat->Int):Nat->Nat->Int|0=>h|t+1=>afF (vS h w t) (kF t) (w t)
def hS (h v:Nat->Int):Nat->Nat->Int|0=>h|k+1=>qY (hS h v k) k (qg (hS h v k k) (v k))
def Im (h:Nat->Int)(b:Bytes):Nat->Int:=hS h (vS h (Ah b 64) 64) 8
def qx (n:Nat):Bytes:=List.replicate n 0
def Ww (n i:Nat):UInt8:=UInt8.ofNat (n*8%18446744073709551616/2^(8*i))
def yB (n:Nat):Nat->Bytes|0=>[]|i+1=>Ww n i::yB n i
def yC (s:Bytes):Bytes:=s++[128]++qx ((120-(s.length+1)%64)%64)++yB s.length 8
def Ai (m:Bytes):Nat->Nat->Int|0=>h0F|i+1=>Im (Ai m i) ((m.take (64*i+64)).drop (64*i))
def MX (h:Nat->Int)(i:Nat):UInt8:=UInt8.ofNat (IntKind.u8.wrap (CS (h (i/4)) (24-8*(i%4:Nat)))).toNat
def Sm (s:Bytes):Dg:=⟨(List.range 32).map (MX (Ai (yC s) ((yC s).length/64))),by simp⟩
end Qv
open Go Go.Proofs Go.RowKit
namespace Qv
theorem MY {n:Int}(h1:0<=n)(h2:n<18446744073709551616):IntKind.u64.wrap n=n:=by simp[IntKind.wrap,IntKind.bits,IntKind.signed];omega
theorem MZ {n:Int}(h1:0<=n)(h2:n<4294967296):IntKind.u32.wrap n=n:=by simp[IntKind.wrap,IntKind.bits,IntKind.signed];omega
theorem ahQ (a b:Nat):(a:Int).tdiv (b:Int)=((a/b:Nat):Int):=rfl
theorem acU (x:Int):((UInt8.ofNat (IntKind.u8.wrap x).toNat).toNat:Int)=IntKind.u8.wrap x:=by
 have h:0<=IntKind.u8.wrap x/\IntKind.u8.wrap x<256:=by simp[IntKind.wrap,IntKind.bits,IntKind.signed];omega
 rw[UInt8.toNat_ofNat'];omega
theorem ahR (a k:Nat):(a:Int).fdiv (2^k)=((a/2^k:Nat):Int):=by
 have h:(2:Int)^k=((2^k:Nat):Int):=by simp
 rw[h,CT _ (CU _)];rfl
theorem Wx {n i:Nat}(hn:n<2^40):IntKind.u8.wrap ((n*8/2^(8*i):Nat):Int)=((Ww n i).toNat:Int):=by unfold Ww;rw[lZ (show n*8<18446744073709551616 by omega),UInt8.toNat_ofNat'];simp[IntKind.wrap,IntKind.bits,IntKind.signed]
theorem Ey (n:Nat):∀i,(yB n i).length=i|0=>rfl|i+1=>by show(yB n i).length+1=i+1;rw[Ey n i]
theorem ZE (s:Bytes):∃q,(yC s).length=64*q/\(yC s).length<=s.length+72+64:=by
 have h:(yC s).length=s.length+1+(120-(s.length+1)%64)%64+8:=by unfold yC qx;simp only[ay,aS,bA,List.length_replicate,Ey]
 refine⟨(yC s).length/64,?_,?_⟩<;>omega
def cB (f:Nat->Int):List AV:=[.int .u8 (f 0),.int .u8 (f 1),.int .u8 (f 2),.int .u8 (f 3),.int .u8 (f 4),.int .u8 (f 5),.int .u8 (f 6),.int .u8 (f 7),.int .u8 (f 8),.int .u8 (f 9),.int .u8 (f 10),.int .u8 (f 11),.int .u8 (f 12),.int .u8 (f 13),.int .u8 (f 14),.int .u8 (f 15),.int .u8 (f 16),.int .u8 (f 17),.int .u8 (f 18),.int .u8 (f 19),.int .u8 (f 20),.int .u8 (f 21),.int .u8 (f 22),.int .u8 (f 23),.int .u8 (f 24),.int .u8 (f 25),.int .u8 (f 26),.int .u8 (f 27),.int .u8 (f 28),.int .u8 (f 29),.int .u8 (f 30),.int .u8 (f 31)]
abbrev fb (f:Nat->Int)(i:Nat):FV:=.p (.int .u8 (f i))
theorem mB (f:Nat->Int):aI (cB f)=(List.range 32).map (fb f):=rfl
theorem ahS (f:Nat->Int){k:Nat}(h:k<32):aI (cB f)=(aI (cB f)).take k++([.p (.int .u8 (f k))]++(aI (cB f)).drop (k+1))/\((aI (cB f)).take k).length=k:=by rw[mB];exact ug (fb f) h
theorem afG (f:Nat->Int){k:Nat}(h:k<32)(v:Int):(aI (cB f)).take k++([.p (.int .u8 v)]++(aI (cB f)).drop (k+1))=aI (cB (qY f k v)):=by
 rw[mB,mB];have :=Ex (fb f) (fb (qY f k v)) h λi hi=>by simp only[fb,sv f k v i hi]
 simp only[fb,pH]at this⊢;exact this
def bS (h:Nat->Int):Nat->Nat->Int|0=>λ_=>0|k+1=>qY (bS h k) k (MX h k).toNat
theorem aeK (h:Nat->Int):∀k i,i<k->bS h k i=(MX h i).toNat|0,i,hi=>absurd hi oO|k+1,i,hi=>by show qY (bS h k) k (MX h k).toNat i=_;by_cases e:i=k;subst e;exact pH _ _ _;rw[sv _ _ _ i e];exact aeK h k i oO
theorem afH (s:Bytes)(h:Nat->Int)(e:h=Ai (yC s) ((yC s).length/64)):cB (bS h 32)=cD (Sm s):=by have h1:cB (bS h 32)=(List.range 32).map λi=>.int .u8 (bS h 32 i):=rfl;rw[h1,Ik];refine dF λi hi=>?_;have hi:=fA.1 hi;rw[aeK h 32 i hi,e];simp[Sm,List.getD,hi]
theorem ZF (a b:Int):Bk a b=Bk b a:=by unfold Bk xC;simp only[BitVec.or_comm]
theorem acV (x:Int)(n m:Int)(h0:0<=m)(h:m<=31)(hn:xC .and .u64 (IntKind.u64.wrap n) 31=m):au C 301 [.int .u32 x,.int .i64 n] (λr=>r=.val (.int .u32 (Bk (jf x m) (CS x (32-m))))):=by refine aq Tryz.func301 rfl rfl rfl ⟨_,rfl,m,hn,h0,_,rfl,32-m,MY oO oO,oO,_,rfl,?_⟩;exact⟨_,rfl,rfl⟩
theorem nY (x:Int)(n:Int)(hn:n∈([2,6,7,11,13,17,18,19,22,25]:List Int)):au C 256 [.int .u32 x,.int .i64 n] (λr=>r=.val (.int .u32 (uR x n))):=by
 have hb:1<=n/\n<=31:=by simp only[aC,gy,or_false]at hn;omega
 have hm:xC .and .u64 (IntKind.u64.wrap (0-n)) 31=32-n:=by simp only[aC,gy,or_false]at hn;rcases hn with rfl|rfl|rfl|rfl|rfl|rfl|rfl|rfl|rfl|rfl<;>decide+kernel
 have hr:=acV x (0-n) (32-n) oO oO hm;have e:Bk (jf x (32-n)) (CS x (32-(32-n)))=uR x n:=by rw[show(32:Int)-(32-n)=n by omega,ZF];rfl
 rw[e]at hr;exact aq Tryz.func256 rfl rfl rfl ⟨0-n,wrap64 oO oO,cl hr rfl⟩
theorem JY:au C 255 [] (λr=>r=.val (.agg (cW kF))):=by exact aq Tryz.func255 rfl rfl rfl rfl
theorem Sn:au C 177 [] (λr=>r=.val (.agg (cH h0F))):=by exact aq Tryz.func177 rfl rfl rfl rfl
theorem ahT (a:Nat)(h:a<4294967296):(BitVec.ofInt 32 (a:Int)).toNat=a:=by rw[BitVec.toNat_ofInt];omega
theorem Sq {a b:Nat}(ha:a<4294967296)(hb:b<4294967296):Bk (a:Int) (b:Int)=((a|||b:Nat):Int):=by have h:a|||b<2^32:=CV ha hb;show IntKind.u32.wrap ((BitVec.ofInt 32 (a:Int)|||BitVec.ofInt 32 (b:Int)).toNat:Int)=_;rw[BitVec.toNat_or,ahT a ha,ahT b hb];exact MZ oO oO
theorem Sr {a k:Nat}(hk:k<=32)(h:a*2^k<4294967296):jf (a:Int) (k:Int)=((a<<<k:Nat):Int):=by
 unfold jf;rw[show min ((k:Int).toNat) 32=k by omega,ny];have e:(a:Int)*2^k=((a*2^k:Nat):Int):=by simp
 rw[e];exact MZ oO oO
theorem Ss {p q r s:Nat}(hp:p<256)(hq:q<256)(hr:r<256)(hs:s<256):Bk (jf (Bk (jf (Bk (jf (Bk (jf 0 8) p) 8) q) 8) r) 8) s=Bk (Bk (Bk (jf p 24) (jf q 16)) (jf r 8)) s:=by
 have z:jf 0 8=((0:Nat):Int):=by decide+kernel
 have e8:∀a:Nat,a<16777216->jf (a:Int) 8=((a*256:Nat):Int):=λa h=>by have :=Sr (a:=a) (k:=8) dD oO;rw[ny]at this;exact this
 have e16:jf (q:Int) 16=((q*65536:Nat):Int):=by have :=Sr (a:=q) (k:=16) dD oO;rw[ny]at this;exact this
 have e24:jf (p:Int) 24=((p*16777216:Nat):Int):=by have :=Sr (a:=p) (k:=24) dD oO;rw[ny]at this;exact this
 have acW:∀a b:Nat,b<256->a*256|||b=a*256+b:=λa b h=>by have :=CW (a:=a) (b:=b) (i:=8) h;rw[ny]at this;exact this.symm
 have aeL:∀a b:Nat,b<65536->a*65536|||b=a*65536+b:=λa b h=>by have :=CW (a:=a) (b:=b) (i:=16) h;rw[ny]at this;exact this.symm
 have ahU:∀a b:Nat,b<16777216->a*16777216|||b=a*16777216+b:=λa b h=>by have :=CW (a:=a) (b:=b) (i:=24) h;rw[ny]at this;exact this.symm
 rw[z,Sq oO oO,Nat.zero_or,e8 p oO,Sq oO oO,acW p q hq,e8 _ oO,Sq oO oO,acW _ r hr,e8 _ oO,Sq oO oO,acW _ s hs,e24,e16,e8 r oO,Sq oO oO,ahU p _ oO,Sq oO oO,Sq (by rw[show p*16777216+q*65536=(p*256+q)*65536 by omega,aeL _ _ oO];omega) oO,show p*16777216+q*65536=(p*256+q)*65536 by omega,aeL _ _ oO,show(p*256+q)*65536+r*256=(p*65536+q*256+r)*256 by omega,acW _ s hs];omega
theorem ZG {f g:Nat->Int}(h:∀i,i<64->f i=g i):cW f=cW g:=by rw[PI,PI];exact dF λi hi=>by rw[h i (fA.1 hi)]
theorem UN (b:Bytes):∀k i,k<=i->Ah b k i=0|0,_,_=>rfl|k+1,i,h=>by show qY (Ah b k) k _ i=0;rw[sv _ _ _ i oO];exact UN b k i oO
def gS (b:Bytes)(t:Nat):Nat->Nat->Int|0=>Ah b t|j+1=>qY (gS b t j) t (Bk (jf (gS b t j t) 8) (xu b (4*t+j)))
theorem aeM (b:Bytes)(t:Nat):∀j i,i≠t->gS b t j i=Ah b t i|0,_,_=>rfl|j+1,i,h=>by show qY (gS b t j) t _ i=_;rw[sv _ _ _ i h];exact aeM b t j i h
theorem acX (b:Bytes)(t:Nat)(ht:t<16):cW (gS b t 4)=cW (Ah b (t+1)):=by refine ZG λi _=>?_;show _=qY (Ah b t) t (if t<16 then w1F b t else w2F (Ah b t) t) i;rw[af ht];by_cases hi:i=t;subst hi;rw[pH];show qY _ i _ i=_;rw[pH];show Bk (jf (qY _ i _ i) 8) _=_;rw[pH];show Bk (jf (Bk (jf (qY _ i _ i) 8) _) 8) _=_;rw[pH];show Bk (jf (Bk (jf (Bk (jf (qY _ i _ i) 8) _) 8) _) 8) _=_;rw[pH];show Bk (jf (Bk (jf (Bk (jf (Bk (jf (Ah b i i) 8) _) 8) _) 8) _) 8) _=_;rw[UN b i i (av _)];exact Ss (wv _) (wv _) (wv _) (wv _);rw[sv _ _ _ i hi,aeM b t 4 i hi]
theorem ZH {xs:List FV}{n:Nat}{y:FV}{K:FV->Prop}(h:∃r,gb n xs=y::r)(hk:K y):match gb n xs with|y::_=>K y|[]=>False:=by obtain⟨r,h⟩:=h;rw[h];exact hk
theorem ZI (f:Nat->Int){k:Nat}(h:k<8):∃r,gb (k*1) (aI (cH f))=.p (.int .u32 (f k))::r:=by
 obtain⟨h1,h2⟩:=aeI f h;refine⟨(aI (cH f)).drop (k+1),?_⟩;rw[rY,mL];conv=>lhs;rw[h1]
 rw[Cg oO,Cf oO];rfl
theorem Wy {aD:List (Nat×List FV)}{o:Nat}{l0 l:List FV}(h:Qv.getObj aD o=some l0)(e:l0=l):∃ys,Qv.getObj aD o=some ys/\ys.length=l.length/\∀(i:Nat)(x y:FV),ys[i]?=some x->l[i]?=some y->bt x y:=by subst e;exact aA h
theorem Na (b:Bytes)(hb:b.length=64):au C 254 [.str b] (λr=>r=.val (.agg (cW (Ah b 64)))):=by
 refine ia [] Tryz.func254 rfl rfl rfl (bW 76 (λk:Nat=>[(0,.p (.str b)),(2,.ptr 2 0),(3,.ptr 3 0),(9,.p (.int .i64 k))]) (λk=>[(2,aI (cW λ_=>0)),(3,aI (cW (Ah b k)))]) (λk=>k<=64) (λk=>64-k) 0 oO rfl wS oS ?_);intro k hk;refine aQ (λhlt=>?_) (λhge=>?_);have hlt:k<64:=oO
 have wk:IntKind.i64.wrap ((k:Int)+1)=((k+1:Nat):Int):=by rw[wrap64 oO oO];omega
 refine aQ (λh16=>?_) (λh16=>?_);have h16:k<16:=oO
 have m0:IntKind.i64.wrap (4*(k:Int))=((4*k:Nat):Int):=by rw[wrap64 oO oO];omega
 refine⟨_,m0,_,m0,nx (4*k+4) ⟨4*k+4,rfl,4*k,rfl,oO,oO,_,rfl,?_⟩⟩;have Rw:((b.take (4*k+4)).drop (4*k)).length=4:=by rw[eo,aN];omega
 have uJ:∀j,j<4->(((b.take (4*k+4)).drop (4*k)).map λc=>[AV.int .u8 (c.toNat:Int)])[((j:Nat):Int).toNat]?=some [.int .u8 (xu b (4*k+j))]:=λj hj=>by rw[aJ,jV,show((j:Nat):Int).toNat=j by omega,wm,af oO];rw[an oO];simp[xu,List.getD,an (show 4*k+j<b.length by omega)]
 refine bW 76 (λj:Nat=>[(0,.p (.str b)),(2,.ptr 2 0),(3,.ptr 3 0),(4,.p (.int .i64 k)),(9,.p (.int .i64 k)),(21,.p (.sl (((b.take (4*k+4)).drop (4*k)).map λc=>[AV.int .u8 (c.toNat:Int)]))),(22,.p (.int .i64 4)),(23,.p (.int .i64 j))]) (λj=>[(2,aI (cW λ_=>0)),(3,aI (cW (gS b k j)))]) (λj=>j<=4) (λj=>4-j) 0 oO rfl ⟨bt.refl _,bt.refl _,bt.refl _,bt.refl _,bt.refl _,bt.UH _ _ _ _,bt.eq (by show FV.p (.int .i64 ((((b.take (4*k+4)).drop (4*k)).map λc=>[AV.int .u8 (c.toNat:Int)]).length:Int))=_;rw[aj,Rw];rfl),bt.refl _,trivial⟩ oS ?_;intro j hj;refine aQ (λhj4=>?_) (λhj4=>?_);have hj4:j<4:=by have :(j:Int)<4:=hj4;omega
 obtain⟨a1,a2⟩:=FD (gS b k j) (k:=k) hlt;have a3:=ZD (gS b k j) (k:=k) hlt (Bk (jf (gS b k j k) 8) (xu b (4*k+j)));refine⟨oO,_,uJ j hj4,rfl,?_⟩;refine⟨k,rfl,hlt,true,k,(by show 0+k*1=k;omega),?_⟩;refine⟨_,_,_,a1,a2,dD,_,rfl,?_⟩;refine⟨_,MZ (by unfold xu;omega) (by have :=(b.getD (4*k+j) 0).toNat_lt;unfold xu;omega),?_⟩;refine⟨_,rfl,k,rfl,hlt,true,k,(by show 0+k*1=k;omega),?_⟩;exact⟨_,_,_,a1,a2,_,a3,nx (j+1) (aU (j+1) hj4 mM rfl wS oS)⟩;obtain rfl:j=4:=by have :¬(j:Int)<4:=hj4;omega
 exact⟨_,wk,aU (k+1) hlt mM rfl wS ⟨aA rfl,Wy rfl (by rw[acX b k h16]),trivial⟩⟩;have h16:16<=k:=by have :¬(k:Int)<16:=h16;omega
 obtain⟨a1,a2⟩:=FD (Ah b k) (k:=k) hlt;obtain⟨b1,b2⟩:=FD (Ah b k) (k:=k-15) oO;obtain⟨c1,c2⟩:=FD (Ah b k) (k:=k-2) oO;obtain⟨d1,d2⟩:=FD (Ah b k) (k:=k-7) oO;obtain⟨e1,e2⟩:=FD (Ah b k) (k:=k-16) oO;have a3:=ZD (Ah b k) (k:=k) hlt (w2F (Ah b k) k);have e:qY (Ah b k) k (w2F (Ah b k) k)=Ah b (k+1):=by show _=qY (Ah b k) k (if k<16 then w1F b k else w2F (Ah b k) k);rw[aa oO]
 rw[e]at a3;refine cw 10 kK (nx (k-15) ⟨k-15,rfl,oO,true,k-15,(by show 0+(k-15)*1=k-15;omega),?_⟩);refine⟨_,_,_,b1,b2,nx (k-2) ⟨k-2,rfl,oO,true,k-2,(by show 0+(k-2)*1=k-2;omega),?_⟩⟩;refine⟨_,_,_,c1,c2,cw 29 kK ⟨_,(nY _ 17 dD).cut,?_⟩⟩;refine⟨_,(nY _ 19 dD).cut,?_⟩;refine⟨_,rfl,dD,_,rfl,?_⟩;refine⟨_,rfl,nx (k-7) ⟨k-7,rfl,oO,true,k-7,(by show 0+(k-7)*1=k-7;omega),?_⟩⟩;refine⟨_,_,_,d1,d2,_,rfl,_,(nY _ 7 dD).cut,?_⟩;refine⟨_,(nY _ 18 dD).cut,?_⟩;refine⟨_,rfl,dD,_,rfl,?_⟩;refine⟨_,rfl,_,rfl,nx (k-16) ⟨k-16,rfl,oO,true,k-16,(by show 0+(k-16)*1=k-16;omega),?_⟩⟩;refine⟨_,_,_,e1,e2,_,rfl,k,rfl,hlt,true,k,(by show 0+k*1=k;omega),?_⟩;exact⟨_,_,_,a1,a2,_,a3,_,wk,aU (k+1) hlt mM rfl wS oS⟩;obtain rfl:k=64:=by have :¬(k:Int)<64:=hge;omega
 exact rfl
theorem FE (h:Nat->Int)(b:Bytes)(hb:b.length=64):au C 179 [.agg (cH h),.str b] (λr=>r=.val (.agg (cH (Im h b)))):=by
 refine ia [3,10] Tryz.func179 rfl rfl rfl (cl (Na b hb).cut (cl JY.cut ?_));have e:Im h b=hS h (vS h (Ah b 64) 64) 8:=rfl;rw[e];generalize Ah b 64=w;refine cw 24 kK ⟨0,rfl,dD,false,?_⟩;refine⟨1,rfl,dD,false,?_⟩;refine⟨2,rfl,dD,false,?_⟩;refine⟨3,rfl,dD,false,?_⟩;refine⟨4,rfl,dD,false,?_⟩;refine⟨5,rfl,dD,false,?_⟩;refine⟨6,rfl,dD,false,?_⟩;refine⟨7,rfl,dD,false,?_⟩;refine ee 123 [(2,.ptr 2 0),(4,.ptr 4 0),(5,.ptr 5 0),(6,.ptr 6 0),(7,.p (.int .u32 (h 0))),(8,.p (.int .u32 (h 1))),(9,.p (.int .u32 (h 2))),(10,.p (.int .u32 (h 3))),(11,.p (.int .u32 (h 4))),(12,.p (.int .u32 (h 5))),(13,.p (.int .u32 (h 6))),(14,.p (.int .u32 (h 7)))] [(2,aI (cH h)),(4,aI (cH λ_=>0)),(5,aI (cW w)),(6,aI (cW kF))] rfl wS oS ?_;refine bW 123 (λt:Nat=>[(2,.ptr 2 0),(4,.ptr 4 0),(5,.ptr 5 0),(6,.ptr 6 0),(7,.p (.int .u32 (vS h w t 0))),(8,.p (.int .u32 (vS h w t 1))),(9,.p (.int .u32 (vS h w t 2))),(10,.p (.int .u32 (vS h w t 3))),(11,.p (.int .u32 (vS h w t 4))),(12,.p (.int .u32 (vS h w t 5))),(13,.p (.int .u32 (vS h w t 6))),(14,.p (.int .u32 (vS h w t 7))),(39,.p (.int .i64 t))]) (λt=>[(2,aI (cH h)),(4,aI (cH λ_=>0)),(5,aI (cW w)),(6,aI (cW kF))]) (λt=>t<=64) (λt=>64-t) 0 oO rfl wS oS ?_;intro t ht;refine aQ (λhlt=>?_) (λhge=>?_);have hlt:t<64:=by have :(t:Int)<64:=hlt;omega
 obtain⟨a1,a2⟩:=FD kF (k:=t) hlt;obtain⟨b1,b2⟩:=FD w (k:=t) hlt;refine cw 28 kK ⟨_,(nY _ 6 dD).cut,?_⟩;refine⟨_,(nY _ 11 dD).cut,?_⟩;refine⟨_,rfl,_,(nY _ 25 dD).cut,?_⟩;refine⟨_,rfl,_,rfl,_,rfl,_,rfl,_,rfl,_,rfl,_,rfl,t,rfl,hlt,true,t,(by show 0+t*1=t;omega),?_⟩;refine⟨_,_,_,a1,a2,_,rfl,t,rfl,hlt,true,t,(by show 0+t*1=t;omega),?_⟩;refine⟨_,_,_,b1,b2,t1F (vS h w t) (kF t) (w t),rfl,cl (nY _ 2 dD).cut ?_⟩;refine cl (nY _ 13 dD).cut ?_;refine⟨_,rfl,cl (nY _ 22 dD).cut ?_⟩;exact⟨_,rfl,_,rfl,_,rfl,_,rfl,_,rfl,_,rfl,t2F (vS h w t),rfl,_,rfl,_,rfl,nx (t+1) (aU (t+1) hlt mM rfl wS oS)⟩;obtain rfl:t=64:=by have :¬(t:Int)<64:=hge;omega
 generalize vS h w 64=v;refine ee 123 [(2,.ptr 2 0),(4,.ptr 4 0),(7,.p (.int .u32 (v 0))),(8,.p (.int .u32 (v 1))),(9,.p (.int .u32 (v 2))),(10,.p (.int .u32 (v 3))),(11,.p (.int .u32 (v 4))),(12,.p (.int .u32 (v 5))),(13,.p (.int .u32 (v 6))),(14,.p (.int .u32 (v 7)))] [(2,aI (cH h)),(4,aI (cH λ_=>0))] rfl wS oS (bW 123 (λk:Nat=>[(2,.ptr 2 0),(4,.ptr 4 0),(110,.agg (aI (cH v))),(111,.p (.int .i64 k))]) (λk=>[(2,aI (cH (hS h v k))),(4,aI (cH λ_=>0))]) (λk=>k<=8) (λk=>8-k) 0 oO rfl wS oS ?_);intro k hk;refine aQ (λhlt=>?_) (λhge=>?_);have hlt:k<8:=by have :(k:Int)<8:=hlt;omega
 obtain⟨a1,a2⟩:=aeI (hS h v k) (k:=k) hlt;have a3:=afD (hS h v k) (k:=k) hlt (qg (hS h v k k) (v k));refine⟨k,rfl,hlt,ZH (ZI v hlt) ⟨k,rfl,hlt,true,k,(by show 0+k*1=k;omega),?_⟩⟩;refine⟨_,_,_,a1,a2,_,rfl,k,rfl,hlt,true,k,(by show 0+k*1=k;omega),?_⟩;exact⟨_,_,_,a1,a2,_,a3,nx (k+1) (aU (k+1) hlt mM rfl wS oS)⟩;obtain rfl:k=8:=by have :¬(k:Int)<8:=hge;omega
 exact rfl
def kW (s:Bytes):List (List AV):=s.map λc=>[.int .u8 (c.toNat:Int)]
theorem cmpL_eq:∀a b:Bytes,Lib.compareBytes a b=cmpL a b|[],[]=>rfl|[],_::_=>rfl|_::_,[]=>rfl|x::a,y::b=>by show(if x<y then-1 else if y<x then 1 else Lib.compareBytes a b)=if x.toNat<y.toNat then-1 else if y.toNat<x.toNat then 1 else cmpL a b;rw[cmpL_eq a b];simp only[UInt8.lt_iff_toNat_lt]
theorem FF {P:Program}{bh:Nat->Nat->Prop}{w:World}{v:Value}{s:Bytes}(h:dh bh w v (.sl (kW s))):(Extern.Bytes.bytesOf v).run P w=.ok ⟨s.toArray⟩ w:=by
 obtain⟨ad,c,rfl,hc,hne⟩:=h.kP;have hl:(kW s).length=s.length:=by simp[kW]
 rw[hl];by_cases h0:s=[];subst h0;cases ad<;>simp[Extern.Bytes.bytesOf,Extern.Bytes.loadBytes]<;>rfl;obtain⟨b,off,bI,cell,rfl,g1,g2⟩:=hne (by simpa[kW]using h0);have hpos:0<s.length:=vM.2 h0;have he1:bI=1:=(g1 0 [AV.int .u8 (s[0].toNat:Int)] (by simp[kW,hpos])).symm;subst he1;have :=Lib.run_loadBytesX (P:=P) (w:=w) (s.map λc=>(c.toNat:Int)) ⟨b,off,none⟩ .empty λj x hx=>by rw[aJ]at hx;obtain⟨c',hc',rfl⟩:=wg.1 hx;obtain⟨-,g3,-,g4⟩:=g2 j [AV.int .u8 (c'.toNat:Int)] 0 _ (by simp[kW,hc']) rfl;rw[Addr.add_lit,show off+j=off+j*1+0 from oO,g3];generalize cell j 0=cc at g4;cases g4;rfl
 rw[aj]at this;have e:Lib.bytesOf (s.map λc=>(c.toNat:Int))=s:=by show(s.map λc=>(c.toNat:Int)).map (λn=>UInt8.ofNat n.toNat)=s;rw[dV];exact(dF λc _=>by simp).trans (List.map_id s)
 rw[e]at this;simpa[Extern.Bytes.bytesOf]using this
theorem xw (a b:Bytes):au C 146 [.sl (kW a),.sl (kW b)] (λr=>r=.val (.int .i64 (cmpL a b))):=by
 refine⟨⟨_,Tryz.func146,rfl,rfl⟩,λbh w vs hJ hn hi hl hr=>?_⟩;match vs,hl with
  |[v0,v1],_=>
   have h0:=hr 0 v0 _ rfl rfl;have h1:=hr 1 v1 _ rfl rfl;have e0:=FF (P:=Tryz.prog) h0;have e1:=FF (P:=Tryz.prog) h1;have hrun:(Extern.BytealgCompare.compare #[v0,v1]).run Tryz.prog w=.ok (.int .i64 (cmpL a b)) w:=by change Sem.run Tryz.prog (do pure (goInt (Extern.BytealgCompare.cmp (<-Extern.Bytes.bytesOf v0) (<-Extern.Bytes.bytesOf v1)))) w=_;simp only[Sem.run_bind,e0,e1,Result.andThen_ok,Sem.run_pure];rw[Lib.cmp_eq,cmpL_eq];rfl
   show Calls Tryz.prog 146 #[v0,v1] w _;clear h0 h1 hr e0 e1;go_enter Tryz.func146,Tryz.ntmps146;go_wp2;rw[run_callFunc_extern Tryz.func212 kK kK kK (e:=Extern.BytealgCompare.compare) kK,hrun];simp only[Result.andThen];rw[Oper.upon_value];go_wp2;go_ret;exact⟨_,_,rfl,rfl,.int _ _,RowKit.Below.refl _ _⟩
theorem cZ {d:Nat}{ds:List Nat}{K:ag->Prop}{S:ag}{cells:List FV}{ys:List AV}(h1:Ad S.aD d=some cells)(h2:FV.fQ cells=some ys)(h3:tO ys=true)(h:Fg ds K (S.Mg d ys)):Fg (d::ds) K S:=by simp only[Fg,h1,h2,h3];exact h
theorem bu (xs:List AV):FV.fQ (aI xs)=some xs:=by
 induction xs with
 |nil=>rfl
 |cons x xs ih=>simp[aI,FV.fQ,FV.eW,ih]
theorem PJ (a:Int):au C 234 [.int .i64 a] (λr=>r=.val (.bool false)):=by refine aq Tryz.func234 rfl rfl rfl (eD (λh=>?_) (λh=>?_));exact absurd rfl h;exact rfl
theorem Wz (a b:Int):au C 170 [.int .i64 a,.int .i64 b] (λr=>r=.val (.int .i64 (if a<b then-1 else if b<a then 1 else 0))):=by refine aq Tryz.func170 rfl rfl rfl (cl (PJ a) (cl (PJ b) (aQ (λh=>?_) (λh=>?_))));rw[af h];exact rfl;rw[aa h];refine aQ (λh=>?_) (λh=>?_);rw[af oO];exact rfl;rw[aa oO];exact rfl
theorem WA (d:Dg):(cD d).map (λx=>[x])=kW d.1:=by obtain⟨l,h⟩:=d;have :cD ⟨l,h⟩=l.map λc=>.int .u8 (c.toNat:Int):=Il _;rw[this];simp[kW]
theorem Io (a b:Dg):au C 75 [.agg (cD a),.agg (cD b)] (λr=>r=.val (.int .i64 (dA a b))):=by refine bn {opens:=[],Mg:=[],full:=false,fzo:=[1]} [] Tryz.func75 rfl rfl rfl ⟨[2,3],cZ (cells:=aI (cD a)) (ys:=cD a) rfl (bu _) rfl (cZ (cells:=aI (cD b)) (ys:=cD b) rfl (bu _) rfl (cw 2 kK ⟨.p (.sl (kW a.1)),⟨dD,dD,rfl,(by show 32<=32;decide),_,WA a,rfl⟩,?_⟩))⟩;refine⟨.p (.sl (kW b.1)),⟨dD,dD,rfl,(by show 32<=32;decide),_,WA b,rfl⟩,?_⟩;exact cl (xw a.1 b.1).dY rfl
theorem KZ (a b:bB):au C 96 [.agg (cI a),.agg (cI b)] (λr=>r=.val (.int .i64 (gq a b))):=by refine bn {opens:=[],Mg:=[],full:=false,fzo:=[1]} [] Tryz.func96 rfl rfl rfl ⟨[2,3],cZ (cells:=aI (cI a)) (ys:=cI a) rfl (bu _) rfl (cZ (cells:=aI (cI b)) (ys:=cI b) rfl (bu _) rfl (cw 4 kK ⟨.p (.sl (kW a.p.1)),⟨dD,dD,rfl,(by show 32<=33;decide),_,WA a.p,rfl⟩,?_⟩))⟩;refine⟨.p (.sl (kW b.p.1)),⟨dD,dD,rfl,(by show 32<=33;decide),_,WA b.p,rfl⟩,?_⟩;refine cl (xw a.p.1 b.p.1).dY ?_;unfold gq dA;refine eD (λh=>?_) (λh=>?_);rw[af h];exact rfl;rw[aa oO];exact cl (Wz a.n b.n).dY rfl
theorem St (s:Bytes):au C 178 [.str s] (λr=>r=.val (.fn (.func 253) [] [.imp [.str s]])):=by exact aq Tryz.func178 rfl rfl rfl ⟨[1],cZ (cells:=[.p (.str s)]) (ys:=[.str s]) rfl rfl rfl rfl⟩
theorem acY {s R:Bytes}{a:Nat}(h:a+64<=s.length):(s.take (a+64)).drop a=((s++R).take (a+64)).drop a:=by rw[rS h]
theorem ZJ (M:Bytes)(c a:Nat):((M.drop c).take (a+64)).drop a=(M.take (c+a+64)).drop (c+a):=by rw[List.take_drop,vR,fK]
theorem ZK (Y:Bytes)(h l:Nat):((kW Y).take h).drop l=kW ((Y.take h).drop l):=by simp[kW,rZ,List.map_drop]
theorem yD (Y:Bytes):(kW Y).length=Y.length:=by simp[kW]
theorem CY (Y:Bytes):∀zs,zs∈kW Y->zs.length=1:=by intro zs h;obtain⟨c,-,rfl⟩:=aB.1 h;rfl
theorem ZL (Y:Bytes)(c:UInt8):kW Y++[[.int .u8 (c.toNat:Int)]]=kW (Y++[c]):=by simp[kW]
theorem Nb (x:AV):chunk 1 1 [x]=[[x]]:=rfl
theorem Bl (x:AV):∀zs,zs∈chunk 1 1 [x]->zs.length=1:=by intro zs h;rw[Nb]at h;obtain rfl:=aL.1 h;rfl
theorem Su (s:Bytes):yC s=s++([128]++qx ((120-(s.length+1)%64)%64)++yB s.length 8):=by simp[yC]
theorem acZ (s:Bytes)(hs:s.length<2^40):au C 108 [.str s] (λr=>r=.val (.agg (cD (Sm s)))):=by
 refine ia [] Tryz.func108 rfl rfl rfl (cl Sn.cut ?_);obtain⟨m,hm⟩:∃m,yC s=m:=⟨_,rfl⟩;obtain⟨q,hq,hql⟩:=ZE s;have hlen:m.length=64*q:=by rw[<-hm];exact hq
 have hq2:(yC s).length/64=q:=by rw[hq];omega
 obtain⟨Z,hZ⟩:∃Z,(120-(s.length+1)%64)%64=Z:=⟨_,rfl⟩;have ac0:=Su s;rw[hm,hZ]at ac0;obtain⟨p,hp⟩:∃p,s.length/64=p:=⟨_,rfl⟩;refine cl (St s).cut ⟨_,rfl,rfl,rfl,rfl,?_⟩;refine⟨dD,(p:Int),by rw[<-hp];show IntKind.i64.wrap ((s.length:Int).tdiv ((64:Nat):Int))=_;rw[ahQ,wrap64 oO oO],?_⟩;refine nx (64*p) ?_;refine qf 67 1000 (λk:Nat=>[(0,.lM 1000000),(1,.p (.imp [.str s])),(3,.p (.int .i64 ((64*p:Nat):Int))),(4,.p (.int .i64 ((64*k:Nat):Int)))]) (λk=>[(2,aI (cD bg)),(3,aI (cH (Ai m k)))]) (λ_=>[(38,0,[(2,.ptr 2 0),(3,.ptr 3 0)])]) [.ready] (λ_=>[]) (λ_=>[]) (λ_=>[]) (λk=>k<=p) (λk=>p-k) 0 oO rfl wS oS ⟨rfl,wS,trivial⟩ trivial trivial trivial ?_;intro k hk;refine aQ (λhlt=>?_) (λhge=>?_);have hlt:k<p:=by have :((64*k:Nat):Int)<((64*p:Nat):Int):=hlt;omega
 have hin:64*k+64<=s.length:=oO
 refine nx (64*k+64) ⟨64*k+64,rfl,64*k,rfl,oO,hin,_,rfl,?_⟩;refine⟨rfl,_,(FE (Ai m k) ((s.take (64*k+64)).drop (64*k)) (by rw[eo,aN];omega)).cut,λr hr=>?_⟩;have e:Im (Ai m k) ((s.take (64*k+64)).drop (64*k))=Ai m (k+1):=by rw[acY (R:=[128]++qx Z++yB s.length 8) hin,<-ac0];rfl
 rw[e]at hr;subst hr;refine bR (nx (64*(k+1)) (hU (k+1) hlt mM rfl wS oS ⟨rfl,wS,trivial⟩ trivial trivial trivial));obtain rfl:k=p:=by have :¬((64*k:Nat):Int)<((64*p:Nat):Int):=hge;omega
 have Sg:64*k<=s.length:=oO
 refine⟨64*k,rfl,oO,av _,s.drop (64*k),by rw[aP],?_⟩;have hsk:s.drop (64*k)++([128]++qx Z++yB s.length 8)=m.drop (64*k):=by rw[ac0,Cg Sg]
 have ahV:(s.drop (64*k)).length=s.length-64*k:=eo;generalize s.drop (64*k)=X at hsk ahV;refine⟨CY X,Bl _,by show((kW X).length+1)*1<=_;rw[yD];omega,kW (X++[128]++qx 0),by simp[kW,qx,Nb],?_⟩;refine qf 67 1000 (λj:Nat=>[(0,.lM 1000000),(1,.p (.imp [.str s])),(3,.p (.int .i64 ((64*k:Nat):Int))),(5,.gi 1028 5 1 (kW (X++[128]++qx j)))]) (λ_=>[(2,aI (cD bg)),(3,aI (cH (Ai m k)))]) (λ_=>[(38,0,[(2,.ptr 2 0),(3,.ptr 3 0)])]) [.ready] (λ_=>[]) (λ_=>[]) (λ_=>[]) (λj=>j<=Z) (λj=>Z-j) 0 oO rfl wS oS ⟨rfl,wS,trivial⟩ trivial trivial trivial ?_;intro j hj;have hYl:(kW (X++[128]++qx j)).length=s.length-64*k+1+j:=by rw[yD];simp[qx,ahV];omega
 refine⟨dD,(((s.length-64*k+1+j)%64:Nat):Int),by rw[hYl];rfl,?_⟩;refine eD (λhne=>?_) (λheq=>?_);have hjZ:j<Z:=by have :¬(((s.length-64*k+1+j)%64:Nat):Int)=56:=hne;omega
 refine⟨CY _,Bl _,by rw[hYl];show(s.length-64*k+1+j+1)*1<=_;omega,kW (X++[128]++qx (j+1)),by simp[kW,qx,List.replicate_succ',Nb],?_⟩;refine hU (j+1) hjZ mM rfl wS oS ⟨rfl,wS,trivial⟩ trivial trivial trivial;obtain rfl:j=Z:=by have :(((s.length-64*k+1+j)%64:Nat):Int)=56:=heq;omega
 refine qf 67 1000 (λx:Nat×Bytes=>[(0,.lM 1000000),(1,.p (.imp [.str s])),(5,.gi 1028 5 1 (kW x.2)),(6,.p (.int .i64 (((8*x.1:Nat):Int)-8)))]) (λ_=>[(2,aI (cD bg)),(3,aI (cH (Ai m k)))]) (λ_=>[(38,0,[(2,.ptr 2 0),(3,.ptr 3 0)])]) [.ready] (λ_=>[]) (λ_=>[]) (λ_=>[]) (λx=>x.1<=8/\x.2++yB s.length x.1=m.drop (64*k)/\x.2.length<=2^41) (λx=>x.1) (8,X++[128]++qx j) ⟨av 8,by rw[<-hsk];simp,by rw[<-yD,hYl];omega⟩ rfl wS oS ⟨rfl,wS,trivial⟩ trivial trivial trivial ?_;rintro⟨i,Y⟩ ⟨hi,hY,hYn⟩;have hi:i<=8:=hi;have hY:Y++yB s.length i=m.drop (64*k):=hY;have hYn:Y.length<=2^41:=hYn;refine aQ (λakC=>?_) (λakD=>?_);obtain⟨i,rfl⟩:∃i',i=i'+1:=⟨i-1,by have :((8*i:Nat):Int)-8≥0:=akC;omega⟩;have hs8:(((8*(i+1):Nat):Int)-8)=((8*i:Nat):Int):=oO
 have hE:Y.length+(i+1)=64*q-64*k:=by have :=aV List.length hY;rw[ay,Ey,eo,hlen]at this;exact this
 refine⟨(s.length:Int),MY oO oO,?_⟩;refine⟨((s.length*8:Nat):Int),by rw[MY oO oO];omega,?_⟩;refine⟨oO,((s.length*8/2^(8*i):Nat):Int),?_,?_⟩;rw[hs8];have :min ((8*i:Nat):Int).toNat IntKind.u64.bits=8*i:=by show min (((8*i:Nat):Int).toNat) 64=8*i;omega
 rw[this];exact ahR _ _;refine⟨_,Wx oO,?_⟩;refine⟨CY _,Bl _,by show((kW Y).length+1)*1<=_;rw[yD];omega,kW (Y++[Ww s.length i]),by rw[Nb,ZL],?_⟩;refine⟨((8*i:Nat):Int)-8,by rw[hs8,wrap64 oO oO],?_⟩;refine hU (i,Y++[Ww s.length i]) ⟨by show i<=8;omega,by show Y++[Ww s.length i]++yB s.length i=_;rw[<-hY];simp[yB],by show(Y++[_]).length<=_;rw[ay];show Y.length+1<=_;omega⟩ (by show i<i+1;omega) rfl wS oS ⟨rfl,wS,trivial⟩ trivial trivial trivial;obtain rfl:i=0:=by have :¬((8*i:Nat):Int)-8≥0:=akD;omega
 have hY:Y++[]=m.drop (64*k):=hY;rw[aW]at hY;subst hY;have hml:(kW (m.drop (64*k))).length=64*(q-k):=by rw[yD,eo,hlen];omega
 refine qf 67 1000 (λj:Nat=>[(0,.lM 1000000),(5,.gi 1028 5 1 (kW (m.drop (64*k)))),(7,.p (.int .i64 ((64*j:Nat):Int)))]) (λj=>[(2,aI (cD bg)),(3,aI (cH (Ai m (k+j))))]) (λ_=>[(38,0,[(2,.ptr 2 0),(3,.ptr 3 0)])]) [.ready] (λ_=>[]) (λ_=>[]) (λ_=>[]) (λj=>j<=q-k) (λj=>q-k-j) 0 oO rfl wS oS ⟨rfl,wS,trivial⟩ trivial trivial trivial ?_;intro j hjq;refine aQ (λhlt=>?_) (λhge=>?_);have hlt:j<q-k:=by have :((64*j:Nat):Int)<((kW (m.drop (64*k))).length:Int):=hlt;omega
 refine nx (64*j+64) ⟨64*j+64,rfl,64*j,rfl,oO,oO,CY _,kW ((m.take (64*(k+j)+64)).drop (64*(k+j))),by rw[ZK,ZJ,show 64*k+64*j=64*(k+j)from oO],?_⟩;refine⟨_,rfl,rfl,_,(FE (Ai m (k+j)) ((m.take (64*(k+j)+64)).drop (64*(k+j))) (by rw[eo,aN];omega)).cut,λr hr=>?_⟩;have e:Im (Ai m (k+j)) ((m.take (64*(k+j)+64)).drop (64*(k+j)))=Ai m (k+(j+1)):=rfl;rw[e]at hr;subst hr;refine bR (nx (64*(j+1)) (hU (j+1) hlt mM rfl wS oS ⟨rfl,wS,trivial⟩ trivial trivial trivial));obtain rfl:j=q-k:=by have :¬((64*j:Nat):Int)<((kW (m.drop (64*k))).length:Int):=hge;omega
 have hkq:k+(q-k)=q:=by have :=aV List.length ac0;rw[ay,hlen]at this;omega
 have hout:=afH s (Ai m q) (by rw[hq2,hm]);rw[hkq];generalize Ai m q=h at hout⊢;refine bW 38 (λi:Nat=>[(2,.ptr 2 0),(5,.ptr 5 0),(16,.agg (aI (cH h))),(17,.p (.int .i64 (i:Int)))]) (λi=>[(2,aI (cD bg)),(5,aI (cB (bS h (4*i))))]) (λi=>i<=8) (λi=>8-i) 0 oO rfl wS oS ?_;intro i hi8;refine aQ (λhlt=>?_) (λhge=>?_);have hlt:i<8:=by have :(i:Int)<8:=hlt;omega
 refine⟨i,rfl,hlt,ZH (ZI h hlt) (bW 38 (λj:Nat=>[(2,.ptr 2 0),(5,.ptr 5 0),(6,.p (.int .i64 (i:Int))),(7,.p (.int .u32 (h i))),(16,.agg (aI (cH h))),(17,.p (.int .i64 (i:Int))),(21,.p (.int .i64 (j:Int)))]) (λj=>[(2,aI (cD bg)),(5,aI (cB (bS h (4*i+j))))]) (λj=>j<=4) (λj=>4-j) 0 oO rfl wS oS ?_)⟩;intro j hj4;refine aQ (λdw=>?_) (λox=>?_);have dw:j<4:=by have :(j:Int)<4:=dw;omega
 have afK:4*i+j<32:=oO
 obtain⟨b1,b2⟩:=ahS (bS h (4*i+j)) (k:=4*i+j) afK;have b3:=afG (bS h (4*i+j)) (k:=4*i+j) afK (MX h (4*i+j)).toNat;refine nx (4*i) (nx (4*i+j) (nx (8*j) (nx (24-8*j) ⟨oO,_,rfl,?_⟩)));refine⟨((MX h (4*i+j)).toNat:Int),?_,?_⟩;have e:((24-8*j:Nat):Int)=24-8*(((4*i+j)%4:Nat):Int):=oO
 show IntKind.u8.wrap (CS (h i) ((24-8*j:Nat):Int))=_;rw[e,show i=(4*i+j)/4 from oO];have e2:(4*((4*i+j)/4)+j)=4*i+j:=oO
 rw[e2];exact(acU _).symm;refine⟨4*i+j,rfl,afK,true,4*i+j,(by show 0+(4*i+j)*1=4*i+j;omega),?_⟩;exact⟨_,_,_,b1,b2,_,b3,nx (j+1) (aU (j+1) dw oO rfl wS oS)⟩;obtain rfl:j=4:=by have :¬(j:Int)<4:=ox;omega
 exact nx (i+1) (aU (i+1) hlt oO rfl wS oS);obtain rfl:i=8:=by have :¬(i:Int)<8:=hge;omega
 rw[hout];exact rfl
theorem GC {s:Bytes}{c:UInt8}{n:Int}{k:Nat}(h:n.toNat=k)(hc:s[k]?=some c):s[n.toNat]?=some c:=by rw[h];exact hc
def nZ (x:Int):Prop:=(97<=x/\x<=122)\/(65<=x/\x<=90)\/(48<=x/\x<=57)\/x=46\/x=95\/x=45
instance (x:Int):Decidable (nZ x):=by unfold nZ;exact inferInstance
def ZM (c:UInt8):Bool:=decide (nZ c.toNat)
def iq (s:Bytes):Bool:=decide (s≠[])&&decide (s≠[46])&&decide (s≠[46,46])&&decide (s.length<=40)&&s.all ZM
theorem jB {s:Bytes}(h:s=[]\/s=[46]\/s=[46,46]\/40<s.length\/∃c,c∈s/\¬nZ c.toNat):iq s=false:=by
 cases hq:iq s with
 |false=>rfl
 |true=>simp only[iq,aR,decide_eq_true_eq,br]at hq;obtain⟨⟨⟨⟨h1,h2⟩,h3⟩,h4⟩,h5⟩:=hq;rcases h with h|h|h|h|⟨c,hc,hn⟩;exact absurd h h1;exact absurd h h2;exact absurd h h3;omega;have :=h5 c hc;simp only[ZM,decide_eq_true_eq]at this;exact absurd this hn
theorem Ip {s:Bytes}(h1:s≠[])(h2:s≠[46])(h3:s≠[46,46])(h4:s.length<=40)(h5:∀c,c∈s->nZ c.toNat):iq s=true:=by simp only[iq,aR,decide_eq_true_eq,br];exact⟨⟨⟨⟨h1,h2⟩,h3⟩,h4⟩,λc hc=>by simp only[ZM,decide_eq_true_eq];exact h5 c hc⟩
theorem Sv (s:Bytes)(hs:s.length<=2^50):au C 196 [.str s] (λr=>r=.val (.bool (iq s))):=by
 refine aq Tryz.func196 rfl rfl rfl (bW 65 (λk:Nat=>[(0,.p (.str s)),(3,.p (.int .i64 k))]) (λ_=>[]) (λk=>k<=s.length/\∀i c,i<k->s[i]?=some c->nZ c.toNat) (λk=>s.length-k) 0 ⟨zL,λi c h=>absurd h (kC _)⟩ rfl wS trivial ?_);rintro k ⟨hk,hall⟩;have hw:IntKind.i64.wrap ((k:Int)+1)=((k+1:Nat):Int):=by rw[wrap64 oO oO];omega
 refine aQ (λhlt=>?_) (λhge=>?_)
 ·have hlt:k<s.length:=by have :(k:Int)<(s.length:Int):=hlt;omega
  obtain⟨c,hc⟩:∃c,s[k]?=some c:=⟨_,an hlt⟩;refine⟨oO,c,GC rfl hc,?_⟩;have bad:¬nZ c.toNat->iq s=false:=λh=>jB (.inr (.inr (.inr (.inr ⟨c,bP hc,h⟩))));have good:nZ c.toNat->k+1<=s.length/\∀i d,i<k+1->s[i]?=some d->nZ d.toNat:=λh=>⟨hlt,λi d hi hd=>by by_cases hik:i=k;subst hik;rw[hc]at hd;obtain rfl:=ak hd;exact h;exact hall i d oO hd⟩;refine⟨none,?_⟩;have ZN:¬nZ c.toNat->fN.val (.bool false)=fN.val (.bool (iq s)):=λh=>by rw[bad h]
  repeat' (first|refine aQ (λh=>?_) (λh=>?_)|refine aH (λh=>?_) (λh=>?_)|refine bR ?_)
  all_goals first|exact ZN (by unfold nZ;omega)|exact⟨_,hw,aU (k+1) (good (by unfold nZ;omega)) oO rfl wS trivial⟩
 have hge:¬k<s.length:=by intro h;exact hge (show(k:Int)<(s.length:Int)by omega)
 have hn:∀c,c∈s->nZ c.toNat:=λc hc=>by obtain⟨i,hi⟩:=iL hc;exact hall i c (by have :=(aG.1 hi).1;omega) hi
 refine⟨none,aQ (λh1=>?_) (λh1=>?_)⟩;have hne:s≠[]:=λe=>by rw[e]at h1;exact absurd h1 dD
 refine aQ (λh2=>?_) (λh2=>?_);refine Ew (λh3=>?_) (λh3=>?_);refine Ew (λh4=>?_) (λh4=>?_);rw[Ip hne h3 h4 oO hn];exact rfl;rw[jB (.inr (.inr (.inl h4)))];exact rfl;rw[jB (.inr (.inl h3))];exact rfl;rw[jB (.inr (.inr (.inr (.inl oO))))];exact rfl;have hne:s=[]:=by
  cases s with
  |nil=>rfl
  |cons _ _=>exact absurd (show((_:Int)≥1)by simp only[aS];omega) h1
 rw[jB (.inl hne)];exact rfl
theorem WB {α:Type}{a b:List α}{k:Nat}(hl:a.length=b.length)(hk:k<a.length)(he:a.take k=b.take k)(h:a[k]=b[k]):a.take (k+1)=b.take (k+1):=by rw[<-me hk,<-me (show k<b.length by omega),he,h]
theorem ZO {α:Type}{a b:List α}{k:Nat}(hl:a.length=b.length)(hk:¬k<a.length)(he:a.take k=b.take k):a=b:=by rw[fe oO,fe oO]at he;exact he
theorem WC (a b:List bB)(ha:a.length<=2^47)(hb:b.length<=2^47):au C 171 [.sl (pX a),.sl (pX b)] (λr=>r=.val (.bool (decide (a=b)))):=by
 unfold pX;refine aq Tryz.func171 rfl rfl rfl (eD (λh=>?_) (λh=>?_));have :a≠b:=λe=>h (by rw[e]);show fN.val (.bool false)=_;simp[this];have hl:a.length=b.length:=by simp only[aj]at h;omega
 refine bW 26 (λk:Nat=>[(0,.p (.sl (a.map cI))),(1,.p (.sl (b.map cI))),(5,.p (.int .i64 k))]) (λ_=>[]) (λk=>k<=a.length/\a.take k=b.take k) (λk=>a.length-k) 0 ⟨zL,rfl⟩ rfl wS trivial ?_;rintro k ⟨hk,he⟩;refine cu (λhlt=>?_) (λhge=>?_);have hlb:k<b.length:=oO
 refine cw 8 kK (ix hlt (ix hlb (pZ (AD (a:=a[k]) (b:=b[k]) ?_))));by_cases h:a[k]=b[k];rw[ai h];exact nx (k+1) (aU (k+1) ⟨hlt,WB hl hlt he h⟩ oO rfl wS trivial);rw[ah h];have :a≠b:=λe=>by subst e;exact h rfl
 show fN.val (.bool false)=_;simp[this];have :a=b:=ZO hl hge he;show fN.val (.bool true)=_;simp[this]
theorem sw {α:Type}{l:List α}{k:Nat}{x:α}(hk:k<l.length)(h:x∉l.take k)(hx:l[k]≠x):x∉l.take (k+1):=by rw[<-me hk,bf,aL];rintro(h1|h1);exact h h1;exact hx h1.symm
theorem Nc (l:List bB)(x:bB)(hl:l.length<=2^47):au C 71 [.sl (pX l),.agg (cI x)] (λr=>r=.val (.bool (decide (x∈l)))):=by
 unfold pX;refine aq Tryz.func71 rfl rfl rfl (bW 18 (λk:Nat=>[(0,.p (.sl (l.map cI))),(3,.ptr 3 0),(5,.p (.int .i64 k))]) (λ_=>[(3,aI (cI x))]) (λk=>k<=l.length/\x∉l.take k) (λk=>l.length-k) 0 ⟨zL,by simp⟩ rfl wS oS ?_);rintro k ⟨hk,hn⟩;refine cu (λhlt=>?_) (λhge=>?_);refine cw 5 kK (ix hlt (pZ (jH (a:=l[k]) (b:=x) ?_)));by_cases h:l[k]=x;rw[ai h];have :x∈l:=h▸aT hlt;show fN.val (.bool true)=_;simp[this];rw[ah h];exact nx (k+1) (aU (k+1) ⟨hlt,sw hlt hn h⟩ oO rfl wS oS);have :x∉l:=by rw[fe oO]at hn;exact hn
 show fN.val (.bool false)=_;simp[this]
def wz:List bB->Bool|a::b::r=>decide (gq a b<0)&&wz (b::r)|_=>true
theorem CZ:∀l:List bB,wz l=true↔∀(i:Nat)(a b:bB),l[i]?=some a->l[i+1]?=some b->gq a b<0
 |[]=>by simp[wz]
 |[x]=>by simp[wz]
 |x::y::r=>by
  rw[wz,aR,decide_eq_true_eq,CZ (y::r)];constructor;rintro⟨h1,h2⟩ i a b ha hb;cases i with
  |zero=>simp only[List.getElem?_cons_zero,mb,bF]at ha hb;subst ha;subst hb;exact h1
  |succ i=>exact h2 i a b ha hb
  intro h;exact⟨h 0 x y rfl rfl,λi a b ha hb=>h (i+1) a b ha hb⟩
theorem PK {l:List bB}{k:Nat}(h1:0<k)(hk:k<l.length)(h:¬gq l[k-1] l[k]<0):wz l=false:=by
 cases hq:wz l with
 |false=>rfl
 |true=>refine absurd ((CZ l).1 hq (k-1) l[k-1] l[k] (an oO) ?_) h;rw[show k-1+1=k from oO];exact an hk
theorem ac1 (l:List bB)(hl:l.length<=2^47):au C 198 [.sl (pX l)] (λr=>r=.val (.bool (wz l))):=by
 unfold pX;refine aq Tryz.func198 rfl rfl rfl (bW 21 (λk:Nat=>[(0,.p (.sl (l.map cI))),(3,.p (.int .i64 k))]) (λ_=>[]) (λk=>1<=k/\k<=l.length+1/\∀(i:Nat)(a b:bB),i+1<k->l[i]?=some a->l[i+1]?=some b->gq a b<0) (λk=>l.length+1-k) 1 ⟨av _,oO,λi a b h=>oO⟩ rfl wS trivial ?_);rintro k ⟨h1,hk,hn⟩;refine cu (λhlt=>?_) (λhge=>?_);have hlt':k-1<l.length:=oO
 refine cw 9 kK (nx (k-1) (ix hlt' (ix hlt (cl (FC l[k-1] l[k]) (aQ (λh=>?_) (λh=>?_))))));rw[PK h1 hlt oO];exact rfl;refine nx (k+1) (aU (k+1) ⟨oO,oO,λi a b hi ha hb=>?_⟩ oO rfl wS trivial);by_cases hik:i+1=k;have e:i=k-1:=oO
 subst e;rw[an hlt']at ha;rw[show k-1+1=k from oO,an hlt]at hb;obtain rfl:=ak ha;obtain rfl:=ak hb;omega;exact hn i a b oO ha hb;rw[(CZ l).2 λi a b ha hb=>hn i a b (by have :=(aG.1 hb).1;omega) ha hb];exact rfl
theorem Sw {l:List bB}:∀zs,zs∈l.map cI->zs.length=33:=by intro zs h;obtain⟨x,-,rfl⟩:=aB.1 h;rfl
def Aj:List bB->bB->List bB|[],x=>[x]|y::l,x=>if gq y x<0 then y::Aj l x else if y=x then y::l else x::y::l
def afL (l:List Bytes):Nat:=(l.map List.length).sum
theorem PL {α:Type}(f:α->Nat)(l:List α)(k:Nat):((l.take k).map f).sum<=(l.map f).sum:=by have :=aV (λx=>(x.map f).sum) (dU k l);simp only[aF,wA]at this;omega
def ZP (l:List Bytes):Bool:=decide (40<l.length)||decide (3000<afL l)
structure SzS (a:List Bytes):Prop where
 len:a.length<=2^47
 each:∀s,s∈a->s.length<=2^47
theorem PM {α:Type}(f:α->Nat)(m:Nat):∀(l:List α),(∀x,x∈l->f x<=m)->(l.map f).sum<=l.length*m
 |[],_=>by simp
 |x::l,h=>by have h1:=h x (by simp);have h2:=PM f m l λy hy=>h y (by simp[hy]);simp only[bw,sr,aS,bC,jZ];omega
structure SzC (c:dH):Prop where
 name:c.name.length<=2^47
 data:c.data.length<=2^47
 lines:SzS c.lines
 over:c.over.length<=2^47
structure SzP (p:iA):Prop where
 ja:p.ja.length<=2^47
 message:p.message.length<=2^47
 deps:p.deps.length<=2^47
 len:p.changes.length<=2^47
 each:∀c,c∈p.changes->SzC c
structure SzT (s:List fk):Prop where
 len:s.length<=2^47
 each:∀x,x∈s->SzP x.pat
theorem ZQ (a b:bO)(ha:a.over.length<=2^47)(hb:b.over.length<=2^47):au C 92 [.agg (cA a),.agg (cA b)] (λr=>r=.val (.bool (decide (a=b)))):=by refine aq Tryz.func92 rfl rfl rfl ⟨none,pZ (jH (a:=a.id) (b:=b.id) ?_)⟩;by_cases h1:a.id=b.id;rotate_left;rw[ah h1];exact aV fN.val (aV AV.bool (ah λe=>h1 (by rw[e])).symm);rw[ai h1];refine aH (λh2=>?_) (λh2=>?_);rotate_left;exact aV fN.val (aV AV.bool (ah λe=>h2 (by rw[e])).symm);refine pZ (jH (a:=a.file) (b:=b.file) ?_);by_cases h3:a.file=b.file;rotate_left;rw[ah h3];exact aV fN.val (aV AV.bool (ah λe=>h3 (by rw[e])).symm);rw[ai h3];refine aH (λh4=>?_) (λh4=>?_);rotate_left;exact aV fN.val (aV AV.bool (ah λe=>h4 (by rw[e])).symm);refine pZ (jH (a:=a.parent) (b:=b.parent) ?_);by_cases h5:a.parent=b.parent;rotate_left;rw[ah h5];exact aV fN.val (aV AV.bool (ah λe=>h5 (by rw[e])).symm);rw[ai h5];refine aH (λh6=>?_) (λh6=>?_);rotate_left;exact aV fN.val (aV AV.bool (ah λe=>h6 (by rw[e])).symm);refine aH (λh7=>?_) (λh7=>?_);rotate_left;exact aV fN.val (aV AV.bool (ah λe=>h7 (by rw[e])).symm);refine aH (λh8=>?_) (λh8=>?_);rotate_left;exact aV fN.val (aV AV.bool (ah λe=>h8 (by rw[e])).symm);refine aH (λh9=>?_) (λh9=>?_);rotate_left;exact aV fN.val (aV AV.bool (ah λe=>h9 (by rw[e])).symm);refine pZ (jH (a:=a.fr) (b:=b.fr) ?_);by_cases h10:a.fr=b.fr;rotate_left;rw[ah h10];exact aV fN.val (aV AV.bool (ah λe=>h10 (by rw[e])).symm);rw[ai h10];refine pZ (jH (a:=a.to) (b:=b.to) ?_);by_cases h11:a.to=b.to;rotate_left;rw[ah h11];exact aV fN.val (aV AV.bool (ah λe=>h11 (by rw[e])).symm);rw[ai h11];exact cl (WC a.over b.over ha hb) (aV fN.val (aV AV.bool (decide_eq_decide.2 ⟨λh12=>by cases a;cases b;simp_all,λe=>by rw[e]⟩)))
def yE (s:Bytes)(x y:UInt8):Bool:=s.all λc=>c !=x&&c !=y
theorem La {s:Bytes}{x y:UInt8}{k:Nat}{c:UInt8}(h:s[k]?=some c)(h2:c=x\/c=y):yE s x y=false:=by unfold yE;rw[List.all_eq_false];refine⟨c,bP h,?_⟩;rcases h2 with rfl|rfl<;>simp
theorem ZR {a b:UInt8}(h:(a.toNat:Int)=(b.toNat:Int)):a=b:=UInt8.toNat_inj.1 oO
theorem ZS (s:Bytes)(x y:UInt8)(hs:s.length<=2^47):au C 271 [.str s,.int .u8 x.toNat,.int .u8 y.toNat] (λr=>r=.val (.bool (yE s x y))):=by
 refine aq Tryz.func271 rfl rfl rfl (bW 26 (λk:Nat=>[(0,.p (.str s)),(1,.p (.int .u8 x.toNat)),(2,.p (.int .u8 y.toNat)),(7,.p (.int .i64 k))]) (λ_=>[]) (λk=>k<=s.length/\∀i c,i<k->s[i]?=some c->c≠x/\c≠y) (λk=>s.length-k) 0 ⟨zL,λi c h=>absurd h (kC _)⟩ rfl wS trivial ?_);rintro k ⟨hk,hall⟩;refine aQ (λhlt=>?_) (λhge=>?_);have hlt:k<s.length:=by have :(k:Int)<(s.length:Int):=hlt;omega
 obtain⟨c,hc⟩:∃c,s[k]?=some c:=⟨_,an hlt⟩;refine⟨none,oO,c,GC rfl hc,?_⟩;refine aH (λh=>?_) (λh=>?_);rw[La hc (.inl (ZR h))];exact rfl;refine⟨oO,c,GC rfl hc,?_⟩;refine aH (λh2=>?_) (λh2=>?_);rw[La hc (.inr (ZR h2))];exact rfl;refine nx (k+1) (aU (k+1) ⟨hlt,λi d hi hd=>?_⟩ oO rfl wS trivial);by_cases hik:i=k;subst hik;rw[hc]at hd;obtain rfl:=ak hd;exact⟨λe=>h (by rw[e]),λe=>h2 (by rw[e])⟩;exact hall i d oO hd;have hge:¬k<s.length:=λh=>hge (show(k:Int)<(s.length:Int)by omega);have :yE s x y=true:=by unfold yE;rw[br];intro c hc;obtain⟨i,hi⟩:=iL hc;have :=hall i c (by have :=(aG.1 hi).1;omega) hi;simp[this.1,this.2]
 rw[this];exact rfl
def qZ (s:Bytes):Bool:=decide (s.length<=1000)&&yE s 10 0
theorem WD (s:Bytes)(hs:s.length<=2^47):au C 197 [.str s] (λr=>r=.val (.bool (qZ s))):=by
 refine aq Tryz.func197 rfl rfl rfl ⟨none,aQ (λh=>?_) (λh=>?_)⟩;refine cl (ZS s 10 0 hs) ?_;have :s.length<=1000:=by have :(s.length:Int)<=1000:=h;omega
 show fN.val _=_;simp[qZ,this];have :¬s.length<=1000:=by have :¬(s.length:Int)<=1000:=h;omega
 show fN.val _=_;simp[qZ,this]
def ahW (l:List dH):Nat:=(l.map λc=>c.name.length+c.data.length).sum
def ac2 (c:dH):Bool:=ZP c.lines||decide (40<c.over.length)
def Nd (p:iA):Bool:=p.changes.any ac2||decide (3000<p.ja.length+p.message.length+ahW p.changes)||decide (20<p.deps.length)||decide (20<p.changes.length)
inductive Sx where|atom (s:Bytes)|list (l:List Sx)
theorem Sx.ind {P:Sx->Prop}(h1:∀s,P (.atom s))(h2:∀l,(∀x,x∈l->P x)->P (.list l))(x:Sx):P x:=Sx.rec (motive_1:=P) (motive_2:=λl=>∀x,x∈l->P x) h1 (λl ih=>h2 l ih) (λx hx=>by cases hx) (λq l hq hl x hx=>by rcases aC.1 hx with rfl|hx;exact hq;exact hl x hx) x
mutual def cX:Sx->List AV|.atom s=>[.bool false,.str s,.sl []]|.list l=>[.bool true,.str [],.sl (uv l)] def uv:List Sx->List (List AV)|[]=>[]|x::l=>cX x::uv l end
mutual def nX:Sx->Nat|.atom _=>1|.list l=>1+uS l def uS:List Sx->Nat|[]=>0|x::l=>nX x+uS l end
mutual def dX:Sx->Nat|.atom _=>1|.list l=>1+WE l def WE:List Sx->Nat|[]=>0|x::l=>max (dX x) (WE l) end
mutual def aX:Sx->Nat|.atom s=>s.length|.list l=>aXs l def aXs:List Sx->Nat|[]=>0|x::l=>max (aX x) (aXs l) end
mutual def eX:Sx->Bytes|.atom s=>Lib.itoa (s.length:Int)++[58]++s|.list l=>[40]++Lb l++[41] def Lb:List Sx->Bytes|[]=>[]|x::l=>eX x++Lb l end
theorem uh:∀l,uv l=l.map cX|[]=>rfl|x::l=>by show cX x::uv l=_;rw[uh l];rfl
theorem uj:∀l,uS l=(l.map nX).sum|[]=>rfl|x::l=>by show nX x+uS l=_;rw[uj l];simp
theorem uT:∀l,Lb l=l.flatMap eX|[]=>rfl|x::l=>by show eX x++Lb l=_;rw[uT l];simp
theorem UO:∀{l:List Sx}{x:Sx},x∈l->dX x<=WE l|y::l,x,h=>by show _<=max (dX y) (WE l);rcases aC.1 h with rfl|h;omega;have :=UO h;omega
theorem Nf:∀{l:List Sx}{x:Sx},x∈l->aX x<=aXs l|y::l,x,h=>by show _<=max (aX y) (aXs l);rcases aC.1 h with rfl|h;omega;have :=Nf h;omega
theorem afM (x:Sx):1<=nX x:=by cases x<;>simp[nX]
theorem Iq {l:List Sx}{k:Nat}(h:k<l.length):uS (l.take (k+1))=uS (l.take k)+nX l[k]:=by rw[uj,uj,<-me h,aF,wA];simp
theorem yF (l:List Sx)(k:Nat):uS (l.take k)<=uS l:=by rw[uj,uj];exact PL nX l k
theorem GD:∀l,l.length<=uS l|[]=>av _|x::l=>by have :=GD l;have :=afM x;show l.length+1<=nX x+uS l;omega
theorem ZT {l:List Sx}{k:Nat}(h:k<l.length):Lb (l.take (k+1))=Lb (l.take k)++eX l[k]:=by rw[uT,uT,<-me h,kD];simp
theorem WG (l:List Sx)(k:Nat):Lb l=Lb (l.take k)++Lb (l.drop k):=by rw[uT,uT,uT,<-kD,dU]
theorem PN (l:List Sx)(k:Nat):(Lb (l.take k)).length<=(Lb l).length:=by rw[WG l k,ay];omega
theorem afN (x:Sx):(cX x).length=3:=by cases x<;>rfl
theorem afO {l:List Sx}{k:Nat}(h:k<l.length):(uv l)[((k:Nat):Int).toNat]?=some (cX l[k]):=by rw[uh,oZ,aJ,an h];rfl
theorem zJ (l:List Sx):(uv l).length=l.length:=by rw[uh,aj]
theorem Sy {k:Nat}{l:List Sx}{K:Bool->Prop}(h1:k<l.length->K true)(h2:¬k<l.length->K false):Al λt:Bool=>t=decide ((k:Int)<((uv l).length:Int))->K t:=by rw[uh];exact cu h1 h2
structure OkX (x:Sx):Prop where
 nodes:nX x<=20000
 depth:dX x<=12
 atoms:aX x<=65536
 len:(eX x).length<=2^40
def WH (n:Int):Bytes:=if-1099511627776<=n/\n<=1099511627776 then Lib.itoa n else[]
def dgB (d:Dg):Bytes:=if d=bg then[]else d.1
abbrev zX:List FV:=[.p (.bool false),.p (.str []),.full []]
def iB (n:Int):Sx:=.atom (WH n)
def ri (d:Dg):Sx:=.atom (dgB d)
def fH (x:bB):Sx:=.list [ri x.p,iB x.n]
def AE (l:List bB):Sx:=.list (l.map fH)
def Yg (l:List Bytes):Sx:=.list (l.map Sx.atom)
theorem dG {α β:Type}{f:α->β}{l:List α}{k:Nat}(h:k<l.length):(l.take (k+1)).map f=(l.take k).map f++[f l[k]]:=by rw[<-me h,aF];rfl
theorem tM (l:List Sx):∀zs,zs∈uv l->zs.length=3:=by intro zs h;rw[uh]at h;obtain⟨x,-,rfl⟩:=aB.1 h;exact afN x
theorem GF (a b:List Sx):uv a++uv b=uv (a++b):=by rw[uh,uh,uh,aF]
def qa (c:dH):List Sx:=[iB c.kind]++((if c.kind=1 then[]else if c.kind=7 then[]else[fH c.file])++((if c.kind=1 then[iB c.type]else if c.kind=2 then[fH c.parent,.atom c.name]else if c.kind=3 then[iB c.mode]else if c.kind=4 then[.atom c.data]else if c.kind=5\/c.kind=6 then[fH c.eH,fH c.eY]else[])++(if c.kind=5 then[Yg c.lines]else if c.kind=1 then[]else[AE c.over])))
def sx (c:dH):Sx:=.list (qa c)
theorem bX (a b:List Sx)(ha:a.length<=100)(hb:b.length<=100):((uv a).length+(uv b).length)*48<=140737488355328:=by rw[zJ,zJ];omega
def q1B:Bytes:=[113,117,105,108,116,49]
def pI (p:iA):Sx:=.list [.atom q1B,.atom p.ja,.atom p.message,iB p.time,.list (p.deps.map ri),.list (p.changes.map sx)]
def aM:bB:=⟨bg,0⟩
def lD:bB:=⟨bg,-1⟩
theorem GG:au C 135 [] (λr=>r=.val (.agg (cI lD))):=by exact aq Tryz.func135 rfl rfl rfl rfl
def Ng (x:bB)(first:Int):Bool:=if x.p=bg then decide (0<=x.n)&&decide (x.n<first)else decide (0<=x.n)&&decide (x.n<100000)
def iS (k:Int):Bool:=decide (k=5)||decide (k=6)
def Ir (k:Int):Int:=if k=7 then 0 else k
def gH (file:bB)(x:bO):Bool:=decide (x.kind=5)&&decide (x.file=file)
theorem Sz (file:bB)(x:bO):au C 136 [.agg (cI file),.agg (cA x)] (λr=>r=.val (.bool (gH file x))):=by refine aq Tryz.func136 rfl rfl rfl ⟨none,aH (λh=>?_) (λh=>?_)⟩;refine pZ (jH (a:=x.file) (b:=file) ?_);show fN.val _=_;simp[gH,h];show fN.val (.bool false)=_;simp[gH,h]
def gj (kind:Int)(file:bB)(x:bO):Bool:=decide (Ir kind=0)||(decide (x.kind=Ir kind)&&decide (x.file=file))
def bH (kind:Int)(x:bO):Bool:=decide (x.kind=1)&&(if iS kind=true then decide (x.type=1)else decide (kind≠4)||decide (x.type=2)||decide (x.type=3))
def de:bO:=⟨aM,0,aM,0,aM,[],0,[],[],aM,aM,[]⟩
def Is (own:List bO)(x:bB):bO:=if x.p=bg/\0<=x.n/\x.n<own.length then own.getD x.n.toNat de else de
def Da (x:bB)(n:Nat)(fits:Bool):Int:=if Ng x n=true then(if x.p=bg/\fits=false then 8 else 0)else 7
end Qv
open Go Go.RowKit
namespace Qv
def sN (a b:Nat):Nat:=(a+b)%4294967296
def Ua (a k:Nat):Nat:=(a*2^k)%4294967296
def Gq (a k:Nat):Nat:=Nat.lor (a/2^k) (Ua a (32-k))
def fce {α:Type}(n:Nat)(k:Nat->α):α:=match n with|0=>k 0|m+1=>k (m+1)
theorem EX {α:Type}(n:Nat)(k:Nat->α):fce n k=k n:=by cases n<;>rfl
theorem wrap32 {n:Nat}(h:n<4294967296):IntKind.u32.wrap (n:Int)=n:=by simp[IntKind.wrap,IntKind.bits,IntKind.signed];omega
theorem Ab {n:Nat}:BitVec.ofInt 32 (n:Int)=BitVec.ofNat 32 n:=by simp
theorem xB {a b:Nat}(ha:a<4294967296)(hb:b<4294967296):x32 a b=(Nat.xor a b:Nat):=by have h:Nat.xor a b<2^32:=Nat.xor_lt_two_pow oO oO;show IntKind.u32.wrap (((BitVec.ofInt 32 (a:Int)^^^BitVec.ofInt 32 (b:Int)).toNat:Nat):Int)=_;rw[Ab,Ab,BitVec.toNat_xor,pU,pU,lZ oO,lZ oO];exact wrap32 oO
theorem Rr {a b:Nat}(ha:a<4294967296)(hb:b<4294967296):a32 a b=(Nat.land a b:Nat):=by have h:Nat.land a b<2^32:=Nat.and_lt_two_pow a oO;show IntKind.u32.wrap (((BitVec.ofInt 32 (a:Int)&&&BitVec.ofInt 32 (b:Int)).toNat:Nat):Int)=_;rw[Ab,Ab,BitVec.toNat_and,pU,pU,lZ oO,lZ oO];exact wrap32 oO
theorem Vu {a b:Nat}(ha:a<4294967296)(hb:b<4294967296):Bk a b=(Nat.lor a b:Nat):=by have h:Nat.lor a b<2^32:=CV oO oO;show IntKind.u32.wrap (((BitVec.ofInt 32 (a:Int)|||BitVec.ofInt 32 (b:Int)).toNat:Nat):Int)=_;rw[Ab,Ab,BitVec.toNat_or,pU,pU,lZ oO,lZ oO];exact wrap32 oO
theorem aiX {a:Nat}(ha:a<4294967296):n32 a=(Nat.xor 4294967295 a:Nat):=xB (a:=4294967295) dD ha
theorem jO (a b:Nat):qg a b=(sN a b:Nat):=by show IntKind.u32.wrap ((a:Int)+(b:Int))=_;simp[IntKind.wrap,IntKind.bits,IntKind.signed,sN]
theorem GV {a k:Nat}(hk:k<=32):CS a (k:Int)=(a/2^k:Nat):=by show(a:Int).fdiv (2^(min (k:Int).toNat 32))=_;rw[oZ,wO hk,CT _ (Int.le_of_lt (Int.pow_pos dD)),Int.natCast_ediv,Int.natCast_pow];rfl
theorem GW {a k:Nat}(hk:k<=32):jf a (k:Int)=(Ua a k:Nat):=by show IntKind.u32.wrap ((a:Int)*2^(min (k:Int).toNat 32))=_;rw[oZ,wO hk];simp[IntKind.wrap,IntKind.bits,IntKind.signed,Ua]
theorem pV (a b:Nat):sN a b<4294967296:=pn _ dD
theorem nG (a k:Nat):Ua a k<4294967296:=pn _ dD
theorem EY {a b:Nat}(ha:a<4294967296)(hb:b<4294967296):Nat.xor a b<4294967296:=Nat.xor_lt_two_pow (n:=32) oO oO
theorem wX {a b:Nat}(hb:b<4294967296):Nat.land a b<4294967296:=Nat.and_lt_two_pow (n:=32) a oO
theorem BI {a b:Nat}(ha:a<4294967296)(hb:b<4294967296):Nat.lor a b<4294967296:=CV (n:=32) oO oO
theorem Oa {a:Nat}(k:Nat)(ha:a<4294967296):a/2^k<4294967296:=Nat.lt_of_le_of_lt (Nat.div_le_self _ _) ha
theorem jP {a:Nat}(k:Nat)(ha:a<4294967296):Gq a k<4294967296:=BI (Oa k ha) (nG _ _)
theorem qQ {a k:Nat}(ha:a<4294967296)(hk:k<=32):uR a (k:Int)=(Gq a k:Nat):=by
 show Bk (CS a (k:Int)) (jf a (32-(k:Int)))=_;have e:(32:Int)-(k:Int)=((32-k:Nat):Int):=oO
 rw[e,GV hk,GW oO,Vu (Oa k ha) (nG _ _)];rfl
def w1N (b:List Nat)(t:Nat):Nat:=Nat.lor (Nat.lor (Nat.lor (Ua (b.getD (4*t) 0) 24) (Ua (b.getD (4*t+1) 0) 16)) (Ua (b.getD (4*t+2) 0) 8)) (b.getD (4*t+3) 0)
def w2N (x2 x7 x15 x16:Nat):Nat:=sN (sN (sN (Nat.xor (Nat.xor (Gq x2 17) (Gq x2 19)) (x2/2^10)) x7) (Nat.xor (Nat.xor (Gq x15 7) (Gq x15 18)) (x15/2^3))) x16
theorem GX (b:Bytes)(i:Nat):xu b i=((b.map UInt8.toNat).getD i 0:Nat):=by unfold xu;rw[dc,dc,aJ];cases b[i]?<;>rfl
theorem Vv (b:Bytes)(i:Nat):(b.map UInt8.toNat).getD i 0<4294967296:=by
 rw[dc,aJ];cases b[i]?with
 |none=>decide
 |some x=>have :=x.toNat_lt;show x.toNat<_;omega
theorem ali (b:Bytes)(t:Nat):w1F b t=(w1N (b.map UInt8.toNat) t:Nat):=by unfold w1F w1N;rw[GX,GX,GX,GX,show(24:Int)=((24:Nat):Int)from rfl,show(16:Int)=((16:Nat):Int)from rfl,show(8:Int)=((8:Nat):Int)from rfl,GW dD,GW dD,GW dD,Vu (nG _ _) (nG _ _),Vu (BI (nG _ _) (nG _ _)) (nG _ _),Vu (BI (BI (nG _ _) (nG _ _)) (nG _ _)) (Vv _ _)]
theorem aiY (b:Bytes)(t:Nat):w1N (b.map UInt8.toNat) t<4294967296:=BI (BI (BI (nG _ _) (nG _ _)) (nG _ _)) (Vv _ _)
theorem alj {f:Nat->Int}{t x2 x7 x15 x16:Nat}(h2:f (t-2)=(x2:Nat))(h7:f (t-7)=(x7:Nat))(h15:f (t-15)=(x15:Nat))(h16:f (t-16)=(x16:Nat))(l2:x2<4294967296)(l15:x15<4294967296):w2F f t=(w2N x2 x7 x15 x16:Nat):=by unfold w2F w2N;rw[h2,h7,h15,h16,show(17:Int)=((17:Nat):Int)from rfl,show(19:Int)=((19:Nat):Int)from rfl,show(10:Int)=((10:Nat):Int)from rfl,show(7:Int)=((7:Nat):Int)from rfl,show(18:Int)=((18:Nat):Int)from rfl,show(3:Int)=((3:Nat):Int)from rfl,qQ l2 dD,qQ l2 dD,GV dD,qQ l15 dD,qQ l15 dD,GV dD,xB (jP _ l2) (jP _ l2),xB (EY (jP _ l2) (jP _ l2)) (Oa _ l2),xB (jP _ l15) (jP _ l15),xB (EY (jP _ l15) (jP _ l15)) (Oa _ l15),jO,jO,jO]
def XV (b:List Nat):Nat->List Nat|0=>[]|t+1=>fce (w1N b t) λx=>x::XV b t
def XW:Nat->List Nat->List Nat|0,l=>l|n+1,l=>fce (w2N (l.getD 1 0) (l.getD 6 0) (l.getD 14 0) (l.getD 15 0)) λx=>XW n (x::l)
structure WOk (b:Bytes)(t:Nat)(l:List Nat):Prop where
 len:l.length=t
 at_:∀i,i<t->Ah b t i=((l.getD (t-1-i) 0:Nat):Int)
 lt:∀i,l.getD i 0<4294967296
theorem Rs {b:Bytes}{t:Nat}{l:List Nat}(h:WOk b t l){x:Nat}(hx:x<4294967296)(hv:(if t<16 then w1F b t else w2F (Ah b t) t)=(x:Int)):WOk b (t+1) (x::l):=by
 refine⟨by rw[aS,h.len],λi hi=>?_,λi=>?_⟩;show qY (Ah b t) t _ i=_;by_cases e:i=t;subst e;rw[pH,hv];simp;rw[sv _ _ _ i e,h.at_ i oO];have :t+1-1-i=(t-1-i)+1:=oO
 rw[this];rfl;cases i with
 |zero=>exact hx
 |succ i=>exact h.lt i
theorem Vw (b:Bytes):∀t,t<=16->WOk b t (XV (b.map UInt8.toNat) t)|0,_=>⟨rfl,λi hi=>absurd hi (kC _),λi=>by show([]:List Nat).getD i 0<_;simp⟩|t+1,ht=>by unfold XV;rw[EX];refine Rs (Vw b t oO) (aiY b t) ?_;rw[af oO];exact ali b t
theorem Vy (b:Bytes):∀n t l,16<=t->WOk b t l->WOk b (t+n) (XW n l)
 |0,t,l,_,h=>h
 |n+1,t,l,ht,h=>by
  unfold XW;rw[EX];have :=Vy b n (t+1) (w2N (l.getD 1 0) (l.getD 6 0) (l.getD 14 0) (l.getD 15 0)::l) oO ?_;rw[show t+(n+1)=t+1+n from oO];exact this;refine Rs h (pV _ _) ?_;rw[aa oO];have g:∀k,k<t->0<k->Ah b t (t-k)=((l.getD (k-1) 0:Nat):Int):=λk hk h0=>by rw[h.at_ (t-k) oO];congr 2;omega
  refine alj (g 2 oO dD) (g 7 oO dD) (g 15 oO dD) ?_ (h.lt 1) (h.lt 14);by_cases e:t=16;subst e;rw[h.at_ (16-16) dD];exact g 16 oO dD
theorem Vz {α:Type}{l:List α}{i:Nat}{d:α}(h:i<l.length):l.getD i d=l[i]:=by rw[dc,an h];rfl
def t1N (e f g h k w:Nat):Nat:=sN (sN (sN (sN h (Nat.xor (Nat.xor (Gq e 6) (Gq e 11)) (Gq e 25))) (Nat.xor (Nat.land e f) (Nat.land (Nat.xor 4294967295 e) g))) k) w
def t2N (a b c:Nat):Nat:=sN (Nat.xor (Nat.xor (Gq a 2) (Gq a 13)) (Gq a 22)) (Nat.xor (Nat.xor (Nat.land a b) (Nat.land a c)) (Nat.land b c))
def runN:List Nat->List Nat->Nat->Nat->Nat->Nat->Nat->Nat->Nat->Nat->List Nat|k::ks,w::ws,a,b,c,d,e,f,g,h=>fce (t1N e f g h k w) λt1=>fce (sN t1 (t2N a b c)) λa'=>fce (sN d t1) λe'=>runN ks ws a' a b c e' e f g|_,_,a,b,c,d,e,f,g,h=>[a,b,c,d,e,f,g,h]
theorem alk {v:Nat->Int}{e f g h k w:Nat}(h4:v 4=(e:Nat))(h5:v 5=(f:Nat))(h6:v 6=(g:Nat))(h7:v 7=(h:Nat))(le:e<4294967296)(lf:f<4294967296)(lg:g<4294967296):t1F v k w=(t1N e f g h k w:Nat):=by unfold t1F t1N;rw[h4,h5,h6,h7,show(6:Int)=((6:Nat):Int)from rfl,show(11:Int)=((11:Nat):Int)from rfl,show(25:Int)=((25:Nat):Int)from rfl,qQ le dD,qQ le dD,qQ le dD,xB (jP _ le) (jP _ le),xB (EY (jP _ le) (jP _ le)) (jP _ le),Rr le lf,aiX le,Rr (EY dD le) lg,xB (wX lf) (wX lg),jO,jO,jO,jO]
theorem alm {v:Nat->Int}{a b c:Nat}(h0:v 0=(a:Nat))(h1:v 1=(b:Nat))(h2:v 2=(c:Nat))(la:a<4294967296)(lb:b<4294967296)(lc:c<4294967296):t2F v=(t2N a b c:Nat):=by unfold t2F t2N;rw[h0,h1,h2,show(2:Int)=((2:Nat):Int)from rfl,show(13:Int)=((13:Nat):Int)from rfl,show(22:Int)=((22:Nat):Int)from rfl,qQ la dD,qQ la dD,qQ la dD,xB (jP _ la) (jP _ la),xB (EY (jP _ la) (jP _ la)) (jP _ la),Rr la lb,Rr la lc,Rr lb lc,xB (wX lb) (wX lc),xB (EY (wX lb) (wX lc)) (wX lc),jO]
structure EOk (v:Nat->Int)(a b c d e f g h:Nat):Prop where
 v0:v 0=(a:Nat)
 v1:v 1=(b:Nat)
 v2:v 2=(c:Nat)
 v3:v 3=(d:Nat)
 v4:v 4=(e:Nat)
 v5:v 5=(f:Nat)
 v6:v 6=(g:Nat)
 v7:v 7=(h:Nat)
 l0:a<4294967296
 l1:b<4294967296
 l2:c<4294967296
 l4:e<4294967296
 l5:f<4294967296
 l6:g<4294967296
 l3:d<4294967296
 l7:h<4294967296
theorem aeb {v:Nat->Int}{a b c d e f g h:Nat}(E:EOk v a b c d e f g h)(k w:Nat):EOk (afF v k w) (sN (t1N e f g h k w) (t2N a b c)) a b c (sN d (t1N e f g h k w)) e f g:=by have e1:=alk (k:=k) (w:=w) E.v4 E.v5 E.v6 E.v7 E.l4 E.l5 E.l6;have e2:=alm E.v0 E.v1 E.v2 E.l0 E.l1 E.l2;refine⟨?_,E.v0,E.v1,E.v2,?_,E.v4,E.v5,E.v6,pV _ _,E.l0,E.l1,pV _ _,E.l4,E.l5,E.l2,E.l6⟩;show qg (t1F v k w) (t2F v)=_;rw[e1,e2,jO];show qg (v 3) (t1F v k w)=_;rw[e1,E.v3,jO]
def kN:List Nat:=kL.map Int.toNat
theorem aln:∀t,t<64->kF t=(kN.getD t 0:Nat):=dD
theorem VA (h w:Nat->Int)(ws:List Nat)(hw:ws.length=64)(hws:∀i,i<64->w i=(ws.getD i 0:Nat)):∀n t a b c d e f g z,t+n=64->EOk (vS h w t) a b c d e f g z->∃a' b' c' d' e' f' g' z',runN (kN.drop t) (ws.drop t) a b c d e f g z=[a',b',c',d',e',f',g',z']/\EOk (vS h w 64) a' b' c' d' e' f' g' z'
 |0,t,a,b,c,d,e,f,g,z,ht,E=>by
  obtain rfl:t=64:=oO
  refine⟨a,b,c,d,e,f,g,z,?_,E⟩;rw[cQ (by show kN.length<=64;decide)];rfl
 |n+1,t,a,b,c,d,e,f,g,z,ht,E=>by
  have hk:t<kN.length:=by show t<64;omega
  have hw':t<ws.length:=oO
  rw[bM hk,bM hw'];unfold runN;rw[EX,EX,EX];refine VA h w ws hw hws n (t+1) _ _ _ _ _ _ _ _ oO ?_;show EOk (afF (vS h w t) (kF t) (w t)) _ _ _ _ _ _ _ _;rw[aln t oO,hws t oO,Vz hk,Vz hw'];exact aeb E _ _
theorem abC (h v:Nat->Int):∀k i,hS h v k i=if i<k then qg (h i) (v i)else h i|0,i=>rfl|k+1,i=>by show qY (hS h v k) k (qg (hS h v k k) (v k)) i=_;by_cases e:i=k;subst e;rw[pH,abC h v i i,aa (wJ _),af (Nat.lt_succ_self _)];rw[sv _ _ _ i e,abC h v k i];by_cases h1:i<k;rw[af h1,af oO];rw[aa h1,aa oO]
def VB:List Nat->List Nat->List Nat|x::xs,y::ys=>fce (sN x y) λz=>z::VB xs ys|_,_=>[]
def abD:List Nat->List Nat->List Nat|[a,b,c,d,e,f,g,h],m=>VB [a,b,c,d,e,f,g,h] (runN kN (XW 48 (XV m 16)).reverse a b c d e f g h)|_,_=>[]
theorem abE {v:Nat->Int}{a b c d e f g h:Nat}(E:EOk v a b c d e f g h)(m:Bytes):∃a' b' c' d' e' f' g' h',abD [a,b,c,d,e,f,g,h] (m.map UInt8.toNat)=[a',b',c',d',e',f',g',h']/\EOk (Im v m) a' b' c' d' e' f' g' h':=by
 have hW:=Vy m 48 16 _ dD (Vw m 16 dD);have hl:(XW 48 (XV (m.map UInt8.toNat) 16)).reverse.length=64:=by rw[DN,hW.len]
 have hr:=VA v (Ah m 64) (XW 48 (XV (m.map UInt8.toNat) 16)).reverse hl (λi hi=>by rw[hW.at_ i hi];congr 1;rw[dc,dc,List.getElem?_reverse (by rw[hW.len];exact hi),hW.len]) 64 0 a b c d e f g h rfl E;obtain⟨a',b',c',d',e',f',g',h',h1,h2⟩:=hr;refine⟨sN a a',sN b b',sN c c',sN d d',sN e e',sN f f',sN g g',sN h h',?_,?_⟩;show VB _ (runN kN _ a b c d e f g h)=_;rw[wo,wo]at h1;rw[h1];simp only[VB,EX];have at_:∀i,i<8->Im v m i=qg (v i) (vS v (Ah m 64) 64 i):=λi hi=>by show hS v _ 8 i=_;rw[abC,af hi]
 exact⟨by rw[at_ 0 dD,E.v0,h2.v0,jO],by rw[at_ 1 dD,E.v1,h2.v1,jO],by rw[at_ 2 dD,E.v2,h2.v2,jO],by rw[at_ 3 dD,E.v3,h2.v3,jO],by rw[at_ 4 dD,E.v4,h2.v4,jO],by rw[at_ 5 dD,E.v5,h2.v5,jO],by rw[at_ 6 dD,E.v6,h2.v6,jO],by rw[at_ 7 dD,E.v7,h2.v7,jO],pV _ _,pV _ _,pV _ _,pV _ _,pV _ _,pV _ _,pV _ _,pV _ _⟩
def aec (m:List Nat):Nat->List Nat|0=>[1779033703,3144134277,1013904242,2773480762,1359893119,2600822924,528734635,1541459225]|i+1=>abD (aec m i) ((m.take (64*i+64)).drop (64*i))
theorem VC (m:Bytes):∀n,∃a b c d e f g h,aec (m.map UInt8.toNat) n=[a,b,c,d,e,f,g,h]/\EOk (Ai m n) a b c d e f g h|0=>⟨_,_,_,_,_,_,_,_,rfl,rfl,rfl,rfl,rfl,rfl,rfl,rfl,rfl,dD,dD,dD,dD,dD,dD,dD,dD⟩|n+1=>by obtain⟨a,b,c,d,e,f,g,h,h1,h2⟩:=VC m n;obtain⟨a',b',c',d',e',f',g',h',h3,h4⟩:=abE h2 ((m.take (64*n+64)).drop (64*n));refine⟨a',b',c',d',e',f',g',h',?_,h4⟩;show abD (aec _ n) _=_;rw[h1,<-h3,List.map_drop,rZ]
def aed (l:List Nat)(i:Nat):UInt8:=UInt8.ofNat (l.getD (i/4) 0/2^(24-8*(i%4))%256)
def ai1 (s:Bytes):List UInt8:=(List.range 32).map (aed (aec ((yC s).map UInt8.toNat) ((yC s).length/64)))
theorem agM {v:Nat->Int}{a b c d e f g h:Nat}(E:EOk v a b c d e f g h)(i:Nat)(hi:i<32):MX v i=aed [a,b,c,d,e,f,g,h] i:=by
 have hv:∀j,j<8->v j=(([a,b,c,d,e,f,g,h]:List Nat).getD j 0:Nat):=λj hj=>by
  match j,hj with
   |0,_=>exact E.v0
   |1,_=>exact E.v1
   |2,_=>exact E.v2
   |3,_=>exact E.v3
   |4,_=>exact E.v4
   |5,_=>exact E.v5
   |6,_=>exact E.v6
   |7,_=>exact E.v7
 unfold MX aed;rw[hv (i/4) oO];have e:(24:Int)-8*((i%4:Nat):Int)=((24-8*(i%4):Nat):Int):=oO
 rw[e,GV oO];congr 1
theorem ai2 (s:Bytes):(Sm s).1=ai1 s:=by obtain⟨a,b,c,d,e,f,g,h,h1,h2⟩:=VC (yC s) ((yC s).length/64);show(List.range 32).map (MX _)=(List.range 32).map (aed _);rw[h1];refine dF λi hi=>agM h2 i (fA.1 hi)
end Qv
