/- Part 7 of the proof: its lemmas. No condition. -/
import Derived.Test.YtiboombocnfngaaGreatDoorW6
import Derived.Lib.BytesEntry
import Derived.Lib.Bytealg
import Derived.Lib.Walk
import Derived.Lib.ItoaLen
set_option maxRecDepth 100000
set_option maxHeartbeats 80000000
set_option linter.all false
open Go Go.RowKit
namespace Qv
def x32 (a b:Int):Int:=yP .xor .u32 a b
def a32 (a b:Int):Int:=yP .and .u32 a b
def Cb (a b:Int):Int:=yP .or .u32 a b
def n32 (a:Int):Int:=yP .xor .u32 (IntKind.u32.max) a
def oL (a b:Int):Int:=IntKind.u32.wrap (a+b)
def Bx (a b:Int):Int:=a.fdiv (2^(min b.toNat 32))
def jy (a b:Int):Int:=IntKind.u32.wrap (a*2^(min b.toNat 32))
def vj (a b:Int):Int:=Cb (Bx a b) (jy a (32-b))
def cW (f:Nat->Int):List AV:=[.int .u32 (f 0),.int .u32 (f 1),.int .u32 (f 2),.int .u32 (f 3),.int .u32 (f 4),.int .u32 (f 5),.int .u32 (f 6),.int .u32 (f 7),.int .u32 (f 8),.int .u32 (f 9),.int .u32 (f 10),.int .u32 (f 11),.int .u32 (f 12),.int .u32 (f 13),.int .u32 (f 14),.int .u32 (f 15),.int .u32 (f 16),.int .u32 (f 17),.int .u32 (f 18),.int .u32 (f 19),.int .u32 (f 20),.int .u32 (f 21),.int .u32 (f 22),.int .u32 (f 23),.int .u32 (f 24),.int .u32 (f 25),.int .u32 (f 26),.int .u32 (f 27),.int .u32 (f 28),.int .u32 (f 29),.int .u32 (f 30),.int .u32 (f 31),.int .u32 (f 32),.int .u32 (f 33),.int .u32 (f 34),.int .u32 (f 35),.int .u32 (f 36),.int .u32 (f 37),.int .u32 (f 38),.int .u32 (f 39),.int .u32 (f 40),.int .u32 (f 41),.int .u32 (f 42),.int .u32 (f 43),.int .u32 (f 44),.int .u32 (f 45),.int .u32 (f 46),.int .u32 (f 47),.int .u32 (f 48),.int .u32 (f 49),.int .u32 (f 50),.int .u32 (f 51),.int .u32 (f 52),.int .u32 (f 53),.int .u32 (f 54),.int .u32 (f 55),.int .u32 (f 56),.int .u32 (f 57),.int .u32 (f 58),.int .u32 (f 59),.int .u32 (f 60),.int .u32 (f 61),.int .u32 (f 62),.int .u32 (f 63)]
def cH (f:Nat->Int):List AV:=[.int .u32 (f 0),.int .u32 (f 1),.int .u32 (f 2),.int .u32 (f 3),.int .u32 (f 4),.int .u32 (f 5),.int .u32 (f 6),.int .u32 (f 7)]
def kL:List Int:=[1116352408,1899447441,3049323471,3921009573,961987163,1508970993,2453635748,2870763221,3624381080,310598401,607225278,1426881987,1925078388,2162078206,2614888103,3248222580,3835390401,4022224774,264347078,604807628,770255983,1249150122,1555081692,1996064986,2554220882,2821834349,2952996808,3210313671,3336571891,3584528711,113926993,338241895,666307205,773529912,1294757372,1396182291,1695183700,1986661051,2177026350,2456956037,2730485921,2820302411,3259730800,3345764771,3516065817,3600352804,4094571909,275423344,430227734,506948616,659060556,883997877,958139571,1322822218,1537002063,1747873779,1955562222,2024104815,2227730452,2361852424,2428436474,2756734187,3204031479,3329325298]
def kF (i:Nat):Int:=kL.getD i 0
def h0L:List Int:=[1779033703,3144134277,1013904242,2773480762,1359893119,2600822924,528734635,1541459225]
def h0F (i:Nat):Int:=h0L.getD i 0
def pX (f:Nat->Int)(k:Nat)(v:Int):Nat->Int:=λi=>match Nat.beq i k with|true=>v|false=>f i
theorem QS (f:Nat->Int):cW f=(List.range 64).map λi=>.int .u32 (f i):=rfl
theorem vk {α:Type}(g:Nat->α){n k:Nat}(h:k<n):(List.range n).map g=((List.range n).map g).take k++([g k]++((List.range n).map g).drop (k+1))/\(((List.range n).map g).take k).length=k:=by
 have hl:((List.range n).map g).length=n:=by simp
 refine⟨?_,by rw[aR,hl];omega⟩;have hlt:k<((List.range n).map g).length:=by rw[hl];exact h
 have h2:((List.range n).map g).drop k=g k::((List.range n).map g).drop (k+1):=by rw[bY hlt];simp
 rw[tq,<-h2,fH]
theorem Fh {α:Type}(g g':Nat->α){n k:Nat}(h:k<n)(hg:∀i,i≠k->g' i=g i):((List.range n).map g).take k++([g' k]++((List.range n).map g).drop (k+1))=(List.range n).map g':=by
 have h1:((List.range n).map g).take k=((List.range n).map g').take k:=by refine gz λi=>?_;rw[xE,xE];by_cases hi:i<k;rw[ag hi,ag hi,aM,aM];rw[qt oO];simp[hg i oO];rw[af hi,af hi]
 have h2:((List.range n).map g).drop (k+1)=((List.range n).map g').drop (k+1):=by refine gz λi=>?_;rw[kM,kM,aM,aM];by_cases hi:k+1+i<n;rw[qt hi];simp[hg (k+1+i) oO];rw[oe (by simp;omega)];rfl
 rw[h1,h2];exact(vk g' h).1.symm
theorem tL (f:Nat->Int)(k:Nat)(v:Int):∀i,i≠k->pX f k v i=f i:=λi h=>by
 unfold pX;have hb:Nat.beq i k=false:=by
  cases hb:Nat.beq i k with
  |false=>rfl
  |true=>exact absurd (aN hb) h
 rw[hb]
theorem qu (f:Nat->Int)(k:Nat)(v:Int):pX f k v k=v:=by unfold pX;rw[jI]
abbrev fw (f:Nat->Int)(i:Nat):FV:=.p (.int .u32 (f i))
theorem mW (f:Nat->Int):aH (cW f)=(List.range 64).map (fw f):=rfl
theorem mH (f:Nat->Int):aH (cH f)=(List.range 8).map (fw f):=rfl
theorem sU (f:Nat->Int){k:Nat}(h:k<64):aH (cW f)=(aH (cW f)).take k++([.p (.int .u32 (f k))]++(aH (cW f)).drop (k+1))/\((aH (cW f)).take k).length=k:=by rw[mW];exact vk (fw f) h
theorem NZ (f:Nat->Int){k:Nat}(h:k<64)(v:Int):(aH (cW f)).take k++([.p (.int .u32 v)]++(aH (cW f)).drop (k+1))=aH (cW (pX f k v)):=by
 rw[mW,mW];have :=Fh (fw f) (fw (pX f k v)) h λi hi=>by simp only[fw,tL f k v i hi]
 simp only[fw,qu]at this⊢;exact this
theorem QT (f:Nat->Int){k:Nat}(h:k<8):aH (cH f)=(aH (cH f)).take k++([.p (.int .u32 (f k))]++(aH (cH f)).drop (k+1))/\((aH (cH f)).take k).length=k:=by rw[mH];exact vk (fw f) h
theorem aaB (f:Nat->Int){k:Nat}(h:k<8)(v:Int):(aH (cH f)).take k++([.p (.int .u32 v)]++(aH (cH f)).drop (k+1))=aH (cH (pX f k v)):=by
 rw[mH,mH];have :=Fh (fw f) (fw (pX f k v)) h λi hi=>by simp only[fw,tL f k v i hi]
 simp only[fw,qu]at this⊢;exact this
def yF (b:Bytes)(i:Nat):Int:=((b.getD i 0).toNat:Int)
def w1F (b:Bytes)(t:Nat):Int:=Cb (Cb (Cb (jy (yF b (4*t)) 24) (jy (yF b (4*t+1)) 16)) (jy (yF b (4*t+2)) 8)) (yF b (4*t+3))
def YX (f:Nat->Int)(t:Nat):Int:=oL (oL (oL (x32 (x32 (vj (f (t-2)) 17) (vj (f (t-2)) 19)) (Bx (f (t-2)) 10)) (f (t-7))) (x32 (x32 (vj (f (t-15)) 7) (vj (f (t-15)) 18)) (Bx (f (t-15)) 3))) (f (t-16))
def qY (b:Bytes):Nat->Nat->Int|0=>λ_=>0|k+1=>pX (qY b k) k (if k<16 then w1F b k else YX (qY b k) k)
def t1F (v:Nat->Int)(k w:Int):Int:=oL (oL (oL (oL (v 7) (x32 (x32 (vj (v 4) 6) (vj (v 4) 11)) (vj (v 4) 25))) (x32 (a32 (v 4) (v 5)) (a32 (n32 (v 4)) (v 6)))) k) w
def t2F (v:Nat->Int):Int:=oL (x32 (x32 (vj (v 0) 2) (vj (v 0) 13)) (vj (v 0) 22)) (x32 (x32 (a32 (v 0) (v 1)) (a32 (v 0) (v 2))) (a32 (v 1) (v 2)))
def agR (v:Nat->Int)(k w:Int):Nat->Int|0=>oL (t1F v k w) (t2F v)|1=>v 0|2=>v 1|3=>v 2|4=>oL (v 3) (t1F v k w)|5=>v 4|6=>v 5|7=>v 6|_=>0
def vS (h w:Nat->Int):Nat->Nat->Int|0=>h|t+1=>agR (vS h w t) (kF t) (w t)
def hS (h v:Nat->Int):Nat->Nat->Int|0=>h|k+1=>pX (hS h v k) k (oL (hS h v k k) (v k))
def DL (h:Nat->Int)(b:Bytes):Nat->Int:=hS h (vS h (qY b 64) 64) 8
def kf (n:Nat):Bytes:=List.replicate n 0
def Oa (n i:Nat):UInt8:=UInt8.ofNat (n*8%18446744073709551616/2^(8*i))
def uA (n:Nat):Nat->Bytes|0=>[]|i+1=>Oa n i::uA n i
def uB (s:Bytes):Bytes:=s++[128]++kf ((120-(s.length+1)%64)%64)++uA s.length 8
def wo (m:Bytes):Nat->Nat->Int|0=>h0F|i+1=>DL (wo m i) ((m.take (64*i+64)).drop (64*i))
def IS (h:Nat->Int)(i:Nat):UInt8:=UInt8.ofNat (IntKind.u8.wrap (Bx (h (i/4)) (24-8*(i%4:Nat)))).toNat
def QU (s:Bytes):Dg:=⟨(List.range 32).map (IS (wo (uB s) ((uB s).length/64))),by simp⟩
end Qv
open Go Go.Proofs Go.RowKit
namespace Qv
theorem vn {n:Int}(h1:0<=n)(h2:n<18446744073709551616):IntKind.u64.wrap n=n:=by simp[IntKind.wrap,IntKind.bits,IntKind.signed];omega
theorem xG {n:Int}(h1:0<=n)(h2:n<4294967296):IntKind.u32.wrap n=n:=by simp[IntKind.wrap,IntKind.bits,IntKind.signed];omega
theorem ng (x:Int)(n:Int)(h0:0<=n)(h:n<=32):av C 229 [.int .u32 x,.int .u64 n] (λr=>r=.val (.int .u32 (vj x n))):=by refine ak Tryz.func229 rfl rfl rfl ⟨h0,_,rfl,32-n,vn oO oO,oO,_,rfl,?_⟩;exact⟨_,rfl,rfl⟩
theorem KQ:av C 228 [] (λr=>r=.val (.agg (cW kF))):=by exact ak Tryz.func228 rfl rfl rfl rfl
theorem QV (n:Nat):kf n++[0]=kf (n+1):=by unfold kf;rw[List.replicate_succ',]
theorem aaC (n:Nat)(h:n<2^40):av C 226 [.int .i64 n] (λr=>r=.val (.str (kf n))):=by
 refine ak Tryz.func226 rfl rfl rfl (bJ 13 (λk:Nat=>[(0,.p (.int .i64 n)),(3,.p (.str (kf k))),(4,.p (.int .i64 k))]) (λ_=>[]) (λk=>k<=n) (λk=>n-k) 0 oO rfl wS trivial ?_);intro k hk;refine aF (λhlt=>?_) (λhge=>?_);have hlt:k<n:=oO
 refine⟨by simp[kf];omega,?_⟩;exact nx (k+1) (aT (k+1) hlt oO rfl ⟨bw.refl _,bw.eq (by show FV.p (.str (kf k++[0]))=_;rw[QV]),bw.refl _,trivial⟩ trivial);obtain rfl:k=n:=oO
 exact rfl
theorem Ob {s:Bytes}{n:Int}{k:Nat}(hn:n=k)(h:k<s.length):s[n.toNat]?=some (s.getD k 0):=by subst hn;simp[List.getD,ay h]
theorem QW (b:Bytes)(hb:b.length=64):av C 227 [.str b] (λr=>r=.val (.agg (cW (qY b 64)))):=by
 refine dY [6] Tryz.func227 rfl rfl rfl (bJ 86 (λk:Nat=>[(0,.p (.str b)),(2,.ptr 2 0),(3,.ptr 3 0),(4,.p (.int .i64 k))]) (λk=>[(2,aH (cW λ_=>0)),(3,aH (cW (qY b k)))]) (λk=>k<=16) (λk=>16-k) 0 oO rfl wS oS ?_);intro k hk;refine aF (λhlt=>?_) (λhge=>?_);have hlt:k<16:=oO
 obtain⟨a1,a2⟩:=sU (qY b k) (k:=k) oO;have a3:=NZ (qY b k) (k:=k) oO (w1F b k);have e:pX (qY b k) k (w1F b k)=qY b (k+1):=by show _=pX (qY b k) k (if k<16 then w1F b k else YX (qY b k) k);rw[ag hlt]
 rw[e]at a3;have m0:IntKind.i64.wrap (4*(k:Int))=((4*k:Nat):Int):=by rw[wrap64 oO oO];omega
 refine bZ 31 kK ⟨_,m0,oO,_,Ob rfl oO,?_⟩;refine⟨_,⟨_,xG oO (by have :=(b.getD (4*k) 0).toNat_lt;omega),rfl⟩,?_⟩;refine⟨dD,_,rfl,?_⟩;refine⟨_,m0,nx (4*k+1) ⟨oO,_,Ob rfl oO,?_⟩⟩;refine⟨_,⟨_,xG oO (by have :=(b.getD (4*k+1) 0).toNat_lt;omega),rfl⟩,?_⟩;refine⟨dD,_,rfl,?_⟩;refine⟨_,rfl,_,m0,nx (4*k+2) ⟨oO,_,Ob rfl oO,?_⟩⟩;refine⟨_,⟨_,xG oO (by have :=(b.getD (4*k+2) 0).toNat_lt;omega),rfl⟩,?_⟩;refine⟨dD,_,rfl,?_⟩;refine⟨_,rfl,_,m0,nx (4*k+3) ⟨oO,_,Ob rfl oO,?_⟩⟩;refine⟨_,⟨_,xG oO (by have :=(b.getD (4*k+3) 0).toNat_lt;omega),rfl⟩,?_⟩;refine⟨_,rfl,k,rfl,oO,true,k,(by show 0+k*1=k;omega),?_⟩;exact⟨_,_,_,a1,a2,_,a3,nx (k+1) (aT (k+1) hlt oO rfl wS oS)⟩;obtain rfl:k=16:=oO
 refine de 86 [(0,.p (.str b)),(2,.ptr 2 0),(3,.ptr 3 0)] [(2,aH (cW λ_=>0)),(3,aH (cW (qY b 16)))] rfl wS oS (bJ 86 (λk:Nat=>[(2,.ptr 2 0),(3,.ptr 3 0),(5,.p (.int .i64 k))]) (λk=>[(2,aH (cW λ_=>0)),(3,aH (cW (qY b k)))]) (λk=>16<=k/\k<=64) (λk=>64-k) 16 oO rfl wS oS ?_);rintro k ⟨h16,hk⟩;refine aF (λhlt=>?_) (λhge=>?_);have hlt:k<64:=oO
 obtain⟨a1,a2⟩:=sU (qY b k) (k:=k) hlt;obtain⟨b1,b2⟩:=sU (qY b k) (k:=k-15) oO;obtain⟨c1,c2⟩:=sU (qY b k) (k:=k-2) oO;obtain⟨d1,d2⟩:=sU (qY b k) (k:=k-7) oO;obtain⟨e1,e2⟩:=sU (qY b k) (k:=k-16) oO;have a3:=NZ (qY b k) (k:=k) hlt (YX (qY b k) k);have e:pX (qY b k) k (YX (qY b k) k)=qY b (k+1):=by show _=pX (qY b k) k (if k<16 then w1F b k else YX (qY b k) k);rw[af oO]
 rw[e]at a3;refine bZ 10 kK (nx (k-15) ⟨k-15,rfl,oO,true,k-15,(by show 0+(k-15)*1=k-15;omega),?_⟩);refine⟨_,_,_,b1,b2,nx (k-2) ⟨k-2,rfl,oO,true,k-2,(by show 0+(k-2)*1=k-2;omega),?_⟩⟩;refine⟨_,_,_,c1,c2,bZ 29 kK ⟨_,ng _ 17 dD dD,?_⟩⟩;refine⟨_,ng _ 19 dD dD,?_⟩;refine⟨_,rfl,dD,_,rfl,?_⟩;refine⟨_,rfl,nx (k-7) ⟨k-7,rfl,oO,true,k-7,(by show 0+(k-7)*1=k-7;omega),?_⟩⟩;refine⟨_,_,_,d1,d2,_,rfl,_,ng _ 7 dD dD,?_⟩;refine⟨_,ng _ 18 dD dD,?_⟩;refine⟨_,rfl,dD,_,rfl,?_⟩;refine⟨_,rfl,_,rfl,nx (k-16) ⟨k-16,rfl,oO,true,k-16,(by show 0+(k-16)*1=k-16;omega),?_⟩⟩;refine⟨_,_,_,e1,e2,_,rfl,k,rfl,hlt,true,k,(by show 0+k*1=k;omega),?_⟩;exact⟨_,_,_,a1,a2,_,a3,nx (k+1) (aT (k+1) ⟨oO,hlt⟩ oO rfl wS oS)⟩;obtain rfl:k=64:=oO
 exact rfl
theorem ad7 (h:Nat->Int)(b:Bytes)(hb:b.length=64):av C 155 [.agg (cH h),.str b] (λr=>r=.val (.agg (cH (DL h b)))):=by
 refine dY [3,10] Tryz.func155 rfl rfl rfl (cl (QW b hb).cut (cl KQ.cut ?_));generalize hw:qY b 64=w;refine de 114 [(2,.ptr 2 0),(4,.ptr 4 0),(5,.ptr 5 0),(6,.ptr 6 0),(7,.ptr 7 0)] [(2,aH (cH h)),(4,aH (cH λ_=>0)),(5,aH (cW w)),(6,aH (cW kF)),(7,aH (cH h))] rfl wS oS (bJ 114 (λt:Nat=>[(2,.ptr 2 0),(4,.ptr 4 0),(5,.ptr 5 0),(6,.ptr 6 0),(7,.ptr 7 0),(8,.p (.int .i64 t))]) (λt=>[(2,aH (cH h)),(4,aH (cH λ_=>0)),(5,aH (cW w)),(6,aH (cW kF)),(7,aH (cH (vS h w t)))]) (λt=>t<=64) (λt=>64-t) 0 oO rfl wS oS ?_);intro t ht;refine aF (λhlt=>?_) (λhge=>?_);have hlt:t<64:=oO
 obtain⟨a1,a2⟩:=sU kF (k:=t) hlt;obtain⟨b1,b2⟩:=sU w (k:=t) hlt;refine bZ 6 kK ⟨0,rfl,dD,false,?_⟩;refine⟨4,rfl,dD,false,?_⟩;refine bZ 31 kK ⟨7,rfl,dD,false,?_⟩;refine⟨_,(ng _ 6 dD dD).cut,?_⟩;refine⟨_,(ng _ 11 dD dD).cut,?_⟩;refine⟨_,rfl,_,(ng _ 25 dD dD).cut,?_⟩;refine⟨_,rfl,_,rfl,5,rfl,dD,false,?_⟩;refine⟨_,rfl,_,rfl,6,rfl,dD,false,?_⟩;refine⟨_,rfl,_,rfl,_,rfl,t,rfl,hlt,true,t,(by show 0+t*1=t;omega),?_⟩;refine⟨_,_,_,a1,a2,_,rfl,t,rfl,hlt,true,t,(by show 0+t*1=t;omega),?_⟩;refine⟨_,_,_,b1,b2,_,rfl,bZ 25 kK ⟨_,(ng _ 2 dD dD).cut,?_⟩⟩;refine⟨_,(ng _ 13 dD dD).cut,?_⟩;refine⟨_,rfl,_,(ng _ 22 dD dD).cut,?_⟩;refine⟨_,rfl,1,rfl,dD,false,?_⟩;refine⟨_,rfl,2,rfl,dD,false,?_⟩;refine⟨_,rfl,_,rfl,1,rfl,dD,false,?_⟩;refine⟨2,rfl,dD,false,?_⟩;refine⟨_,rfl,_,rfl,_,rfl,oL (t1F (vS h w t) (kF t) (w t)) (t2F (vS h w t)),rfl,0,rfl,dD,false,?_⟩;refine⟨1,rfl,dD,false,?_⟩;refine⟨2,rfl,dD,false,?_⟩;refine⟨3,rfl,dD,false,?_⟩;refine⟨oL (vS h w t 3) (t1F (vS h w t) (kF t) (w t)),rfl,4,rfl,dD,false,?_⟩;refine⟨5,rfl,dD,false,?_⟩;refine⟨6,rfl,dD,false,?_⟩;exact nx (t+1) (aT (t+1) hlt oO rfl wS oS);obtain rfl:t=64:=oO
 have e:DL h b=hS h (vS h w 64) 8:=by rw[<-hw];rfl
 rw[e];generalize vS h w 64=v;refine de 114 [(2,.ptr 2 0),(4,.ptr 4 0),(7,.ptr 7 0)] [(2,aH (cH h)),(4,aH (cH λ_=>0)),(7,aH (cH v))] rfl wS oS (bJ 114 (λk:Nat=>[(2,.ptr 2 0),(4,.ptr 4 0),(7,.ptr 7 0),(13,.p (.int .i64 k))]) (λk=>[(2,aH (cH (hS h v k))),(4,aH (cH λ_=>0)),(7,aH (cH v))]) (λk=>k<=8) (λk=>8-k) 0 oO rfl wS oS ?_);intro k hk;refine aF (λhlt=>?_) (λhge=>?_);have hlt:k<8:=oO
 obtain⟨a1,a2⟩:=QT (hS h v k) (k:=k) hlt;obtain⟨b1,b2⟩:=QT v (k:=k) hlt;have a3:=aaB (hS h v k) (k:=k) hlt (oL (hS h v k k) (v k));refine bZ 9 kK ⟨k,rfl,hlt,true,k,(by show 0+k*1=k;omega),?_⟩;refine⟨_,_,_,a1,a2,k,rfl,hlt,true,k,(by show 0+k*1=k;omega),?_⟩;refine⟨_,_,_,b1,b2,_,rfl,k,rfl,hlt,true,k,(by show 0+k*1=k;omega),?_⟩;exact⟨_,_,_,a1,a2,_,a3,nx (k+1) (aT (k+1) hlt oO rfl wS oS)⟩;obtain rfl:k=8:=oO
 exact rfl
theorem afZ (a b:Nat):(a:Int).tdiv (b:Int)=((a/b:Nat):Int):=rfl
theorem VL (x:Int):((UInt8.ofNat (IntKind.u8.wrap x).toNat).toNat:Int)=IntKind.u8.wrap x:=by
 have h:0<=IntKind.u8.wrap x/\IntKind.u8.wrap x<256:=by simp[IntKind.wrap,IntKind.bits,IntKind.signed];omega
 rw[UInt8.toNat_ofNat'];omega
theorem af0 (a k:Nat):(a:Int).fdiv (2^k)=((a/2^k:Nat):Int):=by
 have h:(2:Int)^k=((2^k:Nat):Int):=by simp
 rw[h,DM _ (tM _)];rfl
theorem LV {n i:Nat}(hn:n<2^40):IntKind.u8.wrap ((n*8/2^(8*i):Nat):Int)=((Oa n i).toNat:Int):=by unfold Oa;rw[mG (show n*8<18446744073709551616 by omega),UInt8.toNat_ofNat'];simp[IntKind.wrap,IntKind.bits,IntKind.signed]
theorem Fi (n:Nat):∀i,(uA n i).length=i|0=>rfl|i+1=>by show(uA n i).length+1=i+1;rw[Fi n i]
theorem QX (s:Bytes):∃q,(uB s).length=64*q/\(uB s).length<=s.length+72+64:=by
 have h:(uB s).length=s.length+1+(120-(s.length+1)%64)%64+8:=by unfold uB kf;simp only[aA,aW,bt,List.length_replicate,Fi]
 refine⟨(uB s).length/64,?_,?_⟩<;>omega
theorem Xn (s:Bytes)(hs:s.length<2^40):av C 154 [.str s] (λr=>r=.val (.str (uB s))):=by
 refine dY [4] Tryz.func154 rfl rfl rfl ?_;refine⟨by show s.length+1<_;omega,?_⟩;have hl:(s++[128]).length=s.length+1:=by simp
 refine⟨dD,(((s.length+1)%64:Nat):Int),by rw[<-hl];rfl,?_⟩;refine nx (120-(s.length+1)%64) ⟨dD,(((120-(s.length+1)%64)%64:Nat):Int),rfl,?_⟩;refine cl (aaC _ oO).cut ?_;refine⟨by simp[kf];omega,?_⟩;refine⟨(s.length:Int),vn oO oO,?_⟩;refine⟨((s.length*8:Nat):Int),by rw[vn oO oO];omega,?_⟩;obtain⟨X0,hX0⟩:∃X0,s++[128]++kf ((120-(s.length+1)%64)%64)=X0:=⟨_,rfl⟩;have hF:X0++uA s.length 8=uB s:=by rw[<-hX0];rfl
 have aon:X0.length<=s.length+200:=by rw[<-hX0];simp[kf];omega
 refine de 35 [(3,.p (.str X0)),(4,.p (.int .u64 ((s.length*8:Nat):Int)))] [] rfl ⟨bw.eq (by rw[<-hX0];rfl),bw.refl _,trivial⟩ trivial ?_;refine bJ 35 (λx:Nat×Bytes=>[(3,.p (.str x.2)),(4,.p (.int .u64 ((s.length*8:Nat):Int))),(5,.p (.int .i64 ((x.1:Int)-1)))]) (λ_=>[]) (λx=>x.1<=8/\x.2++uA s.length x.1=uB s/\x.2.length<=s.length+200+8-x.1) (λx=>x.1) (8,X0) ⟨by show 8<=8;omega,hF,by show X0.length<=_;omega⟩ rfl wS trivial ?_;rintro⟨j,X⟩ ⟨hj,hX,hXl⟩;simp only at hj hX hXl;refine aF (λhge=>?_) (λhlt=>?_);obtain⟨i,rfl⟩:∃i,j=i+1:=⟨j-1,by have :(j:Int)-1≥0:=hge;omega⟩;have hii:(((i+1:Nat):Int)-1)=(i:Int):=oO
 refine⟨((8*i:Nat):Int),by show IntKind.i64.wrap (8*(((i+1:Nat):Int)-1))=_;rw[wrap64 oO oO];omega,?_⟩;refine⟨((8*i:Nat):Int),vn oO oO,oO,((s.length*8/2^(8*i):Nat):Int),?_,?_⟩;have :min ((8*i:Nat):Int).toNat IntKind.u64.bits=8*i:=by show min (((8*i:Nat):Int).toNat) 64=8*i;omega
 rw[this];exact af0 _ _;refine⟨_,LV oO,[Oa s.length i],rfl,?_⟩;refine⟨by show X.length+1<_;omega,?_⟩;exact⟨((i:Int)-1),by show IntKind.i64.wrap (((i+1:Nat):Int)-1-1)=_;rw[wrap64 oO oO];omega,aT (i,X++[Oa s.length i]) ⟨by show i<=8;omega,by show X++[Oa s.length i]++uA s.length i=_;rw[<-hX];simp[uA],by show(X++[_]).length<=_;simp;omega⟩ (by show i<i+1;omega) rfl wS trivial⟩;obtain rfl:j=0:=by have :¬((j:Int)-1≥0):=hlt;omega
 have hX:X++[]=uB s:=hX;rw[bh]at hX;subst hX;exact rfl
def cB (f:Nat->Int):List AV:=[.int .u8 (f 0),.int .u8 (f 1),.int .u8 (f 2),.int .u8 (f 3),.int .u8 (f 4),.int .u8 (f 5),.int .u8 (f 6),.int .u8 (f 7),.int .u8 (f 8),.int .u8 (f 9),.int .u8 (f 10),.int .u8 (f 11),.int .u8 (f 12),.int .u8 (f 13),.int .u8 (f 14),.int .u8 (f 15),.int .u8 (f 16),.int .u8 (f 17),.int .u8 (f 18),.int .u8 (f 19),.int .u8 (f 20),.int .u8 (f 21),.int .u8 (f 22),.int .u8 (f 23),.int .u8 (f 24),.int .u8 (f 25),.int .u8 (f 26),.int .u8 (f 27),.int .u8 (f 28),.int .u8 (f 29),.int .u8 (f 30),.int .u8 (f 31)]
abbrev fb (f:Nat->Int)(i:Nat):FV:=.p (.int .u8 (f i))
theorem mB (f:Nat->Int):aH (cB f)=(List.range 32).map (fb f):=rfl
theorem af1 (f:Nat->Int){k:Nat}(h:k<32):aH (cB f)=(aH (cB f)).take k++([.p (.int .u8 (f k))]++(aH (cB f)).drop (k+1))/\((aH (cB f)).take k).length=k:=by rw[mB];exact vk (fb f) h
theorem aaD (f:Nat->Int){k:Nat}(h:k<32)(v:Int):(aH (cB f)).take k++([.p (.int .u8 v)]++(aH (cB f)).drop (k+1))=aH (cB (pX f k v)):=by
 rw[mB,mB];have :=Fh (fb f) (fb (pX f k v)) h λi hi=>by simp only[fb,tL f k v i hi]
 simp only[fb,qu]at this⊢;exact this
def bS (h:Nat->Int):Nat->Nat->Int|0=>λ_=>0|k+1=>pX (bS h k) k (IS h k).toNat
theorem af2 (h:Nat->Int):∀k i,i<k->bS h k i=(IS h i).toNat|0,i,hi=>absurd hi oO|k+1,i,hi=>by show pX (bS h k) k (IS h k).toNat i=_;by_cases e:i=k;subst e;exact qu _ _ _;rw[tL _ _ _ i e];exact af2 h k i oO
theorem aaE (s:Bytes)(h:Nat->Int)(e:h=wo (uB s) ((uB s).length/64)):cB (bS h 32)=cD (QU s):=by have h1:cB (bS h 32)=(List.range 32).map λi=>.int .u8 (bS h 32 i):=rfl;rw[h1,IP];refine en λi hi=>?_;have hi:=fO.1 hi;rw[af2 h 32 i hi,e];simp[QU,List.getD,hi]
theorem ad8 (s:Bytes)(hs:s.length<2^40):av C 81 [.str s] (λr=>r=.val (.agg (cD (QU s)))):=by
 refine dY [3,7,8] Tryz.func81 rfl rfl rfl (cl (Xn s hs).cut ?_);obtain⟨q,hq,hql⟩:=QX s;obtain⟨m,hm⟩:∃m,uB s=m:=⟨_,rfl⟩;have hlen:m.length=64*q:=by rw[<-hm];exact hq
 have hq2:(uB s).length/64=q:=by rw[hq];omega
 refine de 44 [(2,.ptr 2 0),(3,.ptr 3 0),(4,.p (.str m))] [(2,aH (cD aZ)),(3,aH (cH h0F))] rfl ⟨bw.refl _,bw.refl _,bw.eq (by rw[<-hm];rfl),trivial⟩ oS ?_;refine bJ 44 (λk:Nat=>[(2,.ptr 2 0),(3,.ptr 3 0),(4,.p (.str m)),(5,.p (.int .i64 ((64*k:Nat):Int)))]) (λk=>[(2,aH (cD aZ)),(3,aH (cH (wo m k)))]) (λk=>k<=q) (λk=>q-k) 0 oO rfl wS oS ?_;intro k hk;have w1:IntKind.i64.wrap (((64*k:Nat):Int)+64)=((64*k+64:Nat):Int):=by rw[wrap64 oO oO];omega
 refine⟨_,w1,aF (λhle=>?_) (λhgt=>?_)⟩;have hle:64*k+64<=m.length:=by have :((64*k+64:Nat):Int)<=(m.length:Int):=hle;omega
 refine bZ 7 kK ⟨_,w1,.p (.str ((m.take (64*k+64)).drop (64*k))),⟨64*k+64,rfl,64*k,rfl,oO,hle,_,rfl,rfl⟩,?_⟩;refine⟨_,(ad7 (wo m k) ((m.take (64*k+64)).drop (64*k)) (by rw[dL,aR];omega)).cut,?_⟩;exact nx (64*(k+1)) (aT (k+1) (by show k+1<=q;omega) mM rfl wS oS);have hk:k=q:=by have :¬((64*k+64:Nat):Int)<=(m.length:Int):=hgt;omega
 subst hk;have hout:=aaE s (wo m k) (by rw[hq2,hm]);generalize wo m k=h at hout⊢;refine de 44 [(2,.ptr 2 0),(3,.ptr 3 0)] [(2,aH (cD aZ)),(3,aH (cH h))] rfl wS oS (de 44 [(2,.ptr 2 0),(3,.ptr 3 0),(6,.ptr 6 0)] [(2,aH (cD aZ)),(3,aH (cH h)),(6,aH (cB λ_=>0))] rfl wS oS (bJ 44 (λi:Nat=>[(2,.ptr 2 0),(3,.ptr 3 0),(6,.ptr 6 0),(7,.p (.int .i64 (i:Int)))]) (λi=>[(2,aH (cD aZ)),(3,aH (cH h)),(6,aH (cB (bS h i)))]) (λi=>i<=32) (λi=>32-i) 0 oO rfl wS oS ?_));intro i hi;refine aF (λhlt=>?_) (λhge=>?_);have hlt:i<32:=oO
 obtain⟨a1,a2⟩:=QT h (k:=i/4) oO;obtain⟨b1,b2⟩:=af1 (bS h i) (k:=i) hlt;have b3:=aaD (bS h i) (k:=i) hlt (IS h i).toNat;refine⟨dD,((i/4:Nat):Int),by show IntKind.i64.wrap ((i:Int).tdiv ((4:Nat):Int))=_;rw[afZ,wrap64 oO oO],?_⟩;refine⟨i/4,rfl,oO,true,i/4,(by show 0+i/4*1=i/4;omega),?_⟩;refine⟨_,_,_,a1,a2,dD,((i%4:Nat):Int),rfl,?_⟩;refine nx (8*(i%4)) (nx (24-8*(i%4)) ⟨((24-8*(i%4):Nat):Int),vn oO oO,oO,_,rfl,?_⟩);refine⟨((IS h i).toNat:Int),?_,?_⟩;have e:((24-8*(i%4):Nat):Int)=24-8*((i%4:Nat):Int):=oO
 show IntKind.u8.wrap (Bx (h (i/4)) ((24-8*(i%4):Nat):Int))=_;rw[e];exact(VL _).symm;refine⟨i,rfl,hlt,true,i,(by show 0+i*1=i;omega),?_⟩;exact⟨_,_,_,b1,b2,_,b3,nx (i+1) (aT (i+1) hlt oO rfl wS oS)⟩;obtain rfl:i=32:=oO
 rw[hout];exact rfl
theorem aaF (a b:Int):Cb a b=Cb b a:=by unfold Cb yP;simp only[BitVec.or_comm]
theorem ad9 (x:Int)(n m:Int)(h0:0<=m)(h:m<=31)(hn:yP .and .u64 (IntKind.u64.wrap n) 31=m):av C 301 [.int .u32 x,.int .i64 n] (λr=>r=.val (.int .u32 (Cb (jy x m) (Bx x (32-m))))):=by refine ak Tryz.func301 rfl rfl rfl ⟨_,rfl,m,hn,h0,_,rfl,32-m,vn oO oO,oO,_,rfl,?_⟩;exact⟨_,rfl,rfl⟩
theorem oM (x:Int)(n:Int)(hn:n∈([2,6,7,11,13,17,18,19,22,25]:List Int)):av C 256 [.int .u32 x,.int .i64 n] (λr=>r=.val (.int .u32 (vj x n))):=by
 have hb:1<=n/\n<=31:=by simp only[aL,gQ,or_false]at hn;omega
 have hm:yP .and .u64 (IntKind.u64.wrap (0-n)) 31=32-n:=by simp only[aL,gQ,or_false]at hn;rcases hn with rfl|rfl|rfl|rfl|rfl|rfl|rfl|rfl|rfl|rfl<;>decide+kernel
 have hr:=ad9 x (0-n) (32-n) oO oO hm;have e:Cb (jy x (32-n)) (Bx x (32-(32-n)))=vj x n:=by rw[show(32:Int)-(32-n)=n by omega,aaF];rfl
 rw[e]at hr;exact ak Tryz.func256 rfl rfl rfl ⟨0-n,wrap64 oO oO,cl hr rfl⟩
theorem KR:av C 255 [] (λr=>r=.val (.agg (cW kF))):=by exact ak Tryz.func255 rfl rfl rfl rfl
theorem TC:av C 177 [] (λr=>r=.val (.agg (cH h0F))):=by exact ak Tryz.func177 rfl rfl rfl rfl
theorem aiU (a:Nat)(h:a<4294967296):(BitVec.ofInt 32 (a:Int)).toNat=a:=by rw[BitVec.toNat_ofInt];omega
theorem TD {a b:Nat}(ha:a<4294967296)(hb:b<4294967296):Cb (a:Int) (b:Int)=((a|||b:Nat):Int):=by have h:a|||b<2^32:=DN ha hb;show IntKind.u32.wrap ((BitVec.ofInt 32 (a:Int)|||BitVec.ofInt 32 (b:Int)).toNat:Int)=_;rw[BitVec.toNat_or,aiU a ha,aiU b hb];exact xG oO oO
theorem TE {a k:Nat}(hk:k<=32)(h:a*2^k<4294967296):jy (a:Int) (k:Int)=((a<<<k:Nat):Int):=by
 unfold jy;rw[show min ((k:Int).toNat) 32=k by omega,ou];have e:(a:Int)*2^k=((a*2^k:Nat):Int):=by simp
 rw[e];exact xG oO oO
theorem TF {p q r s:Nat}(hp:p<256)(hq:q<256)(hr:r<256)(hs:s<256):Cb (jy (Cb (jy (Cb (jy (Cb (jy 0 8) p) 8) q) 8) r) 8) s=Cb (Cb (Cb (jy p 24) (jy q 16)) (jy r 8)) s:=by
 have z:jy 0 8=((0:Nat):Int):=by decide+kernel
 have e8:∀a:Nat,a<16777216->jy (a:Int) 8=((a*256:Nat):Int):=λa h=>by have :=TE (a:=a) (k:=8) dD oO;rw[ou]at this;exact this
 have e16:jy (q:Int) 16=((q*65536:Nat):Int):=by have :=TE (a:=q) (k:=16) dD oO;rw[ou]at this;exact this
 have e24:jy (p:Int) 24=((p*16777216:Nat):Int):=by have :=TE (a:=p) (k:=24) dD oO;rw[ou]at this;exact this
 have aea:∀a b:Nat,b<256->a*256|||b=a*256+b:=λa b h=>by have :=DO (a:=a) (b:=b) (i:=8) h;rw[ou]at this;exact this.symm
 have af3:∀a b:Nat,b<65536->a*65536|||b=a*65536+b:=λa b h=>by have :=DO (a:=a) (b:=b) (i:=16) h;rw[ou]at this;exact this.symm
 have aiV:∀a b:Nat,b<16777216->a*16777216|||b=a*16777216+b:=λa b h=>by have :=DO (a:=a) (b:=b) (i:=24) h;rw[ou]at this;exact this.symm
 rw[z,TD oO oO,Nat.zero_or,e8 p oO,TD oO oO,aea p q hq,e8 _ oO,TD oO oO,aea _ r hr,e8 _ oO,TD oO oO,aea _ s hs,e24,e16,e8 r oO,TD oO oO,aiV p _ oO,TD oO oO,TD (by rw[show p*16777216+q*65536=(p*256+q)*65536 by omega,af3 _ _ oO];omega) oO,show p*16777216+q*65536=(p*256+q)*65536 by omega,af3 _ _ oO,show(p*256+q)*65536+r*256=(p*65536+q*256+r)*256 by omega,aea _ s hs];omega
theorem aaG {f g:Nat->Int}(h:∀i,i<64->f i=g i):cW f=cW g:=by rw[QS,QS];exact en λi hi=>by rw[h i (fO.1 hi)]
theorem VM (b:Bytes):∀k i,k<=i->qY b k i=0|0,_,_=>rfl|k+1,i,h=>by show pX (qY b k) k _ i=0;rw[tL _ _ _ i oO];exact VM b k i oO
def gS (b:Bytes)(t:Nat):Nat->Nat->Int|0=>qY b t|j+1=>pX (gS b t j) t (Cb (jy (gS b t j t) 8) (yF b (4*t+j)))
theorem af4 (b:Bytes)(t:Nat):∀j i,i≠t->gS b t j i=qY b t i|0,_,_=>rfl|j+1,i,h=>by show pX (gS b t j) t _ i=_;rw[tL _ _ _ i h];exact af4 b t j i h
theorem aeb (b:Bytes)(t:Nat)(ht:t<16):cW (gS b t 4)=cW (qY b (t+1)):=by refine aaG λi _=>?_;show _=pX (qY b t) t (if t<16 then w1F b t else YX (qY b t) t) i;rw[ag ht];by_cases hi:i=t;subst hi;rw[qu];show pX _ i _ i=_;rw[qu];show Cb (jy (pX _ i _ i) 8) _=_;rw[qu];show Cb (jy (Cb (jy (pX _ i _ i) 8) _) 8) _=_;rw[qu];show Cb (jy (Cb (jy (Cb (jy (pX _ i _ i) 8) _) 8) _) 8) _=_;rw[qu];show Cb (jy (Cb (jy (Cb (jy (Cb (jy (qY b i i) 8) _) 8) _) 8) _) 8) _=_;rw[VM b i i (aB _)];exact TF (xH _) (xH _) (xH _) (xH _);rw[tL _ _ _ i hi,af4 b t 4 i hi]
theorem aaH {xs:List FV}{n:Nat}{y:FV}{K:FV->Prop}(h:∃r,gC n xs=y::r)(hk:K y):match gC n xs with|y::_=>K y|[]=>False:=by obtain⟨r,h⟩:=h;rw[h];exact hk
theorem aaI (f:Nat->Int){k:Nat}(h:k<8):∃r,gC (k*1) (aH (cH f))=.p (.int .u32 (f k))::r:=by
 obtain⟨h1,h2⟩:=QT f h;refine⟨(aH (cH f)).drop (k+1),?_⟩;rw[tw,nE];conv=>lhs;rw[h1]
 rw[De oO,Dd oO];rfl
theorem Xo {aK:List (Nat×List FV)}{o:Nat}{l0 l:List FV}(h:Qv.getObj aK o=some l0)(e:l0=l):∃ys,Qv.getObj aK o=some ys/\ys.length=l.length/\∀(i:Nat)(x y:FV),ys[i]?=some x->l[i]?=some y->bw x y:=by subst e;exact aG h
theorem Oc (b:Bytes)(hb:b.length=64):av C 254 [.str b] (λr=>r=.val (.agg (cW (qY b 64)))):=by
 refine dY [] Tryz.func254 rfl rfl rfl (bJ 76 (λk:Nat=>[(0,.p (.str b)),(2,.ptr 2 0),(3,.ptr 3 0),(9,.p (.int .i64 k))]) (λk=>[(2,aH (cW λ_=>0)),(3,aH (cW (qY b k)))]) (λk=>k<=64) (λk=>64-k) 0 oO rfl wS oS ?_);intro k hk;refine aF (λhlt=>?_) (λhge=>?_);have hlt:k<64:=oO
 have wk:IntKind.i64.wrap ((k:Int)+1)=((k+1:Nat):Int):=by rw[wrap64 oO oO];omega
 refine aF (λh16=>?_) (λh16=>?_);have h16:k<16:=oO
 have m0:IntKind.i64.wrap (4*(k:Int))=((4*k:Nat):Int):=by rw[wrap64 oO oO];omega
 refine⟨_,m0,_,m0,nx (4*k+4) ⟨4*k+4,rfl,4*k,rfl,oO,oO,_,rfl,?_⟩⟩;have YS:((b.take (4*k+4)).drop (4*k)).length=4:=by rw[dL,aR];omega
 have vX:∀j,j<4->(((b.take (4*k+4)).drop (4*k)).map λc=>[AV.int .u8 (c.toNat:Int)])[((j:Nat):Int).toNat]?=some [.int .u8 (yF b (4*k+j))]:=λj hj=>by rw[aM,kM,show((j:Nat):Int).toNat=j by omega,xE,ag oO];rw[ay oO];simp[yF,List.getD,ay (show 4*k+j<b.length by omega)]
 refine bJ 76 (λj:Nat=>[(0,.p (.str b)),(2,.ptr 2 0),(3,.ptr 3 0),(4,.p (.int .i64 k)),(9,.p (.int .i64 k)),(21,.p (.sl (((b.take (4*k+4)).drop (4*k)).map λc=>[AV.int .u8 (c.toNat:Int)]))),(22,.p (.int .i64 4)),(23,.p (.int .i64 j))]) (λj=>[(2,aH (cW λ_=>0)),(3,aH (cW (gS b k j)))]) (λj=>j<=4) (λj=>4-j) 0 oO rfl ⟨bw.refl _,bw.refl _,bw.refl _,bw.refl _,bw.refl _,bw.LL _ _ _ _,bw.eq (by show FV.p (.int .i64 ((((b.take (4*k+4)).drop (4*k)).map λc=>[AV.int .u8 (c.toNat:Int)]).length:Int))=_;rw[aj,YS];rfl),bw.refl _,trivial⟩ oS ?_;intro j hj;refine aF (λhj4=>?_) (λhj4=>?_);have hj4:j<4:=by have :(j:Int)<4:=hj4;omega
 obtain⟨a1,a2⟩:=sU (gS b k j) (k:=k) hlt;have a3:=NZ (gS b k j) (k:=k) hlt (Cb (jy (gS b k j k) 8) (yF b (4*k+j)));refine⟨oO,_,vX j hj4,rfl,?_⟩;refine⟨k,rfl,hlt,true,k,(by show 0+k*1=k;omega),?_⟩;refine⟨_,_,_,a1,a2,dD,_,rfl,?_⟩;refine⟨_,xG (by unfold yF;omega) (by have :=(b.getD (4*k+j) 0).toNat_lt;unfold yF;omega),?_⟩;refine⟨_,rfl,k,rfl,hlt,true,k,(by show 0+k*1=k;omega),?_⟩;exact⟨_,_,_,a1,a2,_,a3,nx (j+1) (aT (j+1) hj4 mM rfl wS oS)⟩;obtain rfl:j=4:=by have :¬(j:Int)<4:=hj4;omega
 exact⟨_,wk,aT (k+1) hlt mM rfl wS ⟨aG rfl,Xo rfl (by rw[aeb b k h16]),trivial⟩⟩;have h16:16<=k:=by have :¬(k:Int)<16:=h16;omega
 obtain⟨a1,a2⟩:=sU (qY b k) (k:=k) hlt;obtain⟨b1,b2⟩:=sU (qY b k) (k:=k-15) oO;obtain⟨c1,c2⟩:=sU (qY b k) (k:=k-2) oO;obtain⟨d1,d2⟩:=sU (qY b k) (k:=k-7) oO;obtain⟨e1,e2⟩:=sU (qY b k) (k:=k-16) oO;have a3:=NZ (qY b k) (k:=k) hlt (YX (qY b k) k);have e:pX (qY b k) k (YX (qY b k) k)=qY b (k+1):=by show _=pX (qY b k) k (if k<16 then w1F b k else YX (qY b k) k);rw[af oO]
 rw[e]at a3;refine bZ 10 kK (nx (k-15) ⟨k-15,rfl,oO,true,k-15,(by show 0+(k-15)*1=k-15;omega),?_⟩);refine⟨_,_,_,b1,b2,nx (k-2) ⟨k-2,rfl,oO,true,k-2,(by show 0+(k-2)*1=k-2;omega),?_⟩⟩;refine⟨_,_,_,c1,c2,bZ 29 kK ⟨_,(oM _ 17 dD).cut,?_⟩⟩;refine⟨_,(oM _ 19 dD).cut,?_⟩;refine⟨_,rfl,dD,_,rfl,?_⟩;refine⟨_,rfl,nx (k-7) ⟨k-7,rfl,oO,true,k-7,(by show 0+(k-7)*1=k-7;omega),?_⟩⟩;refine⟨_,_,_,d1,d2,_,rfl,_,(oM _ 7 dD).cut,?_⟩;refine⟨_,(oM _ 18 dD).cut,?_⟩;refine⟨_,rfl,dD,_,rfl,?_⟩;refine⟨_,rfl,_,rfl,nx (k-16) ⟨k-16,rfl,oO,true,k-16,(by show 0+(k-16)*1=k-16;omega),?_⟩⟩;refine⟨_,_,_,e1,e2,_,rfl,k,rfl,hlt,true,k,(by show 0+k*1=k;omega),?_⟩;exact⟨_,_,_,a1,a2,_,a3,_,wk,aT (k+1) hlt mM rfl wS oS⟩;obtain rfl:k=64:=by have :¬(k:Int)<64:=hge;omega
 exact rfl
theorem Gl (h:Nat->Int)(b:Bytes)(hb:b.length=64):av C 179 [.agg (cH h),.str b] (λr=>r=.val (.agg (cH (DL h b)))):=by
 refine dY [3,10] Tryz.func179 rfl rfl rfl (cl (Oc b hb).cut (cl KR.cut ?_));have e:DL h b=hS h (vS h (qY b 64) 64) 8:=rfl;rw[e];generalize qY b 64=w;refine bZ 24 kK ⟨0,rfl,dD,false,?_⟩;refine⟨1,rfl,dD,false,?_⟩;refine⟨2,rfl,dD,false,?_⟩;refine⟨3,rfl,dD,false,?_⟩;refine⟨4,rfl,dD,false,?_⟩;refine⟨5,rfl,dD,false,?_⟩;refine⟨6,rfl,dD,false,?_⟩;refine⟨7,rfl,dD,false,?_⟩;refine de 123 [(2,.ptr 2 0),(4,.ptr 4 0),(5,.ptr 5 0),(6,.ptr 6 0),(7,.p (.int .u32 (h 0))),(8,.p (.int .u32 (h 1))),(9,.p (.int .u32 (h 2))),(10,.p (.int .u32 (h 3))),(11,.p (.int .u32 (h 4))),(12,.p (.int .u32 (h 5))),(13,.p (.int .u32 (h 6))),(14,.p (.int .u32 (h 7)))] [(2,aH (cH h)),(4,aH (cH λ_=>0)),(5,aH (cW w)),(6,aH (cW kF))] rfl wS oS ?_;refine bJ 123 (λt:Nat=>[(2,.ptr 2 0),(4,.ptr 4 0),(5,.ptr 5 0),(6,.ptr 6 0),(7,.p (.int .u32 (vS h w t 0))),(8,.p (.int .u32 (vS h w t 1))),(9,.p (.int .u32 (vS h w t 2))),(10,.p (.int .u32 (vS h w t 3))),(11,.p (.int .u32 (vS h w t 4))),(12,.p (.int .u32 (vS h w t 5))),(13,.p (.int .u32 (vS h w t 6))),(14,.p (.int .u32 (vS h w t 7))),(39,.p (.int .i64 t))]) (λt=>[(2,aH (cH h)),(4,aH (cH λ_=>0)),(5,aH (cW w)),(6,aH (cW kF))]) (λt=>t<=64) (λt=>64-t) 0 oO rfl wS oS ?_;intro t ht;refine aF (λhlt=>?_) (λhge=>?_);have hlt:t<64:=by have :(t:Int)<64:=hlt;omega
 obtain⟨a1,a2⟩:=sU kF (k:=t) hlt;obtain⟨b1,b2⟩:=sU w (k:=t) hlt;refine bZ 28 kK ⟨_,(oM _ 6 dD).cut,?_⟩;refine⟨_,(oM _ 11 dD).cut,?_⟩;refine⟨_,rfl,_,(oM _ 25 dD).cut,?_⟩;refine⟨_,rfl,_,rfl,_,rfl,_,rfl,_,rfl,_,rfl,_,rfl,t,rfl,hlt,true,t,(by show 0+t*1=t;omega),?_⟩;refine⟨_,_,_,a1,a2,_,rfl,t,rfl,hlt,true,t,(by show 0+t*1=t;omega),?_⟩;refine⟨_,_,_,b1,b2,t1F (vS h w t) (kF t) (w t),rfl,cl (oM _ 2 dD).cut ?_⟩;refine cl (oM _ 13 dD).cut ?_;refine⟨_,rfl,cl (oM _ 22 dD).cut ?_⟩;exact⟨_,rfl,_,rfl,_,rfl,_,rfl,_,rfl,_,rfl,t2F (vS h w t),rfl,_,rfl,_,rfl,nx (t+1) (aT (t+1) hlt mM rfl wS oS)⟩;obtain rfl:t=64:=by have :¬(t:Int)<64:=hge;omega
 generalize vS h w 64=v;refine de 123 [(2,.ptr 2 0),(4,.ptr 4 0),(7,.p (.int .u32 (v 0))),(8,.p (.int .u32 (v 1))),(9,.p (.int .u32 (v 2))),(10,.p (.int .u32 (v 3))),(11,.p (.int .u32 (v 4))),(12,.p (.int .u32 (v 5))),(13,.p (.int .u32 (v 6))),(14,.p (.int .u32 (v 7)))] [(2,aH (cH h)),(4,aH (cH λ_=>0))] rfl wS oS (bJ 123 (λk:Nat=>[(2,.ptr 2 0),(4,.ptr 4 0),(110,.agg (aH (cH v))),(111,.p (.int .i64 k))]) (λk=>[(2,aH (cH (hS h v k))),(4,aH (cH λ_=>0))]) (λk=>k<=8) (λk=>8-k) 0 oO rfl wS oS ?_);intro k hk;refine aF (λhlt=>?_) (λhge=>?_);have hlt:k<8:=by have :(k:Int)<8:=hlt;omega
 obtain⟨a1,a2⟩:=QT (hS h v k) (k:=k) hlt;have a3:=aaB (hS h v k) (k:=k) hlt (oL (hS h v k k) (v k));refine⟨k,rfl,hlt,aaH (aaI v hlt) ⟨k,rfl,hlt,true,k,(by show 0+k*1=k;omega),?_⟩⟩;refine⟨_,_,_,a1,a2,_,rfl,k,rfl,hlt,true,k,(by show 0+k*1=k;omega),?_⟩;exact⟨_,_,_,a1,a2,_,a3,nx (k+1) (aT (k+1) hlt mM rfl wS oS)⟩;obtain rfl:k=8:=by have :¬(k:Int)<8:=hge;omega
 exact rfl
def lK (s:Bytes):List (List AV):=s.map λc=>[.int .u8 (c.toNat:Int)]
theorem cmpL_eq:∀a b:Bytes,Lib.compareBytes a b=cmpL a b|[],[]=>rfl|[],_::_=>rfl|_::_,[]=>rfl|x::a,y::b=>by show(if x<y then-1 else if y<x then 1 else Lib.compareBytes a b)=if x.toNat<y.toNat then-1 else if y.toNat<x.toNat then 1 else cmpL a b;rw[cmpL_eq a b];simp only[UInt8.lt_iff_toNat_lt]
theorem Gm {P:Program}{br:Nat->Nat->Prop}{w:World}{v:Value}{s:Bytes}(h:dH br w v (.sl (lK s))):(Extern.Bytes.bytesOf v).run P w=.ok ⟨s.toArray⟩ w:=by
 obtain⟨ad,c,rfl,hc,hne⟩:=h.lG;have hl:(lK s).length=s.length:=by simp[lK]
 rw[hl];by_cases h0:s=[];subst h0;cases ad<;>simp[Extern.Bytes.bytesOf,Extern.Bytes.loadBytes]<;>rfl;obtain⟨b,off,bP,cell,rfl,g1,g2⟩:=hne (by simpa[lK]using h0);have hpos:0<s.length:=qh.2 h0;have he1:bP=1:=(g1 0 [AV.int .u8 (s[0].toNat:Int)] (by simp[lK,hpos])).symm;subst he1;have :=Lib.run_loadBytesX (P:=P) (w:=w) (s.map λc=>(c.toNat:Int)) ⟨b,off,none⟩ .empty λj x hx=>by rw[aM]at hx;obtain⟨c',hc',rfl⟩:=tB.1 hx;obtain⟨-,g3,-,g4⟩:=g2 j [AV.int .u8 (c'.toNat:Int)] 0 _ (by simp[lK,hc']) rfl;rw[Addr.add_lit,show off+j=off+j*1+0 from oO,g3];generalize cell j 0=cc at g4;cases g4;rfl
 rw[aj]at this;have e:Lib.bytesOf (s.map λc=>(c.toNat:Int))=s:=by show(s.map λc=>(c.toNat:Int)).map (λn=>UInt8.ofNat n.toNat)=s;rw[fP];exact(en λc _=>by simp).trans (List.map_id s)
 rw[e]at this;simpa[Extern.Bytes.bytesOf]using this
theorem yG (a b:Bytes):av C 146 [.sl (lK a),.sl (lK b)] (λr=>r=.val (.int .i64 (cmpL a b))):=by
 refine⟨⟨_,Tryz.func146,rfl,rfl⟩,λbr w vs hJ hn hi hl hr=>?_⟩;match vs,hl with
  |[v0,v1],_=>
   have h0:=hr 0 v0 _ rfl rfl;have h1:=hr 1 v1 _ rfl rfl;have e0:=Gm (P:=Tryz.prog) h0;have e1:=Gm (P:=Tryz.prog) h1;have hrun:(Extern.BytealgCompare.compare #[v0,v1]).run Tryz.prog w=.ok (.int .i64 (cmpL a b)) w:=by change Sem.run Tryz.prog (do pure (goInt (Extern.BytealgCompare.cmp (<-Extern.Bytes.bytesOf v0) (<-Extern.Bytes.bytesOf v1)))) w=_;simp only[Sem.run_bind,e0,e1,Result.andThen_ok,Sem.run_pure];rw[Lib.cmp_eq,cmpL_eq];rfl
   show Calls Tryz.prog 146 #[v0,v1] w _;clear h0 h1 hr e0 e1;go_enter Tryz.func146,Tryz.ntmps146;go_wp2;rw[run_callFunc_extern Tryz.func212 kK kK kK (e:=Extern.BytealgCompare.compare) kK,hrun];simp only[Result.andThen];rw[Oper.upon_value];go_wp2;go_ret;exact⟨_,_,rfl,rfl,.int _ _,RowKit.Below.refl _ _⟩
theorem dA {d:Nat}{ds:List Nat}{K:an->Prop}{S:an}{cells:List FV}{ys:List AV}(h1:Bc S.aK d=some cells)(h2:FV.gx cells=some ys)(h3:uP ys=true)(h:FO ds K (S.Nj d ys)):FO (d::ds) K S:=by simp only[FO,h1,h2,h3];exact h
theorem bI (xs:List AV):FV.gx (aH xs)=some xs:=by
 induction xs with
 |nil=>rfl
 |cons x xs ih=>simp[aH,FV.gx,FV.fA,ih]
theorem QY (a:Int):av C 234 [.int .i64 a] (λr=>r=.val (.bool false)):=by refine ak Tryz.func234 rfl rfl rfl (cm (λh=>?_) (λh=>?_));exact absurd rfl h;exact rfl
theorem Xp (a b:Int):av C 170 [.int .i64 a,.int .i64 b] (λr=>r=.val (.int .i64 (if a<b then-1 else if b<a then 1 else 0))):=by refine ak Tryz.func170 rfl rfl rfl (cl (QY a) (cl (QY b) (aF (λh=>?_) (λh=>?_))));rw[ag h];exact rfl;rw[af h];refine aF (λh=>?_) (λh=>?_);rw[ag oO];exact rfl;rw[af oO];exact rfl
theorem TG (d:Dg):(cD d).map (λx=>[x])=lK d.1:=by obtain⟨l,h⟩:=d;have :cD ⟨l,h⟩=l.map λc=>.int .u8 (c.toNat:Int):=IQ _;rw[this];simp[lK]
theorem IT (a b:Dg):av C 75 [.agg (cD a),.agg (cD b)] (λr=>r=.val (.int .i64 (dy a b))):=by refine bu {opens:=[],Nj:=[],full:=false,fzo:=[1]} [] Tryz.func75 rfl rfl rfl ⟨[2,3],dA (cells:=aH (cD a)) (ys:=cD a) rfl (bI _) rfl (dA (cells:=aH (cD b)) (ys:=cD b) rfl (bI _) rfl (bZ 2 kK ⟨.p (.sl (lK a.1)),⟨dD,dD,rfl,(by show 32<=32;decide),_,TG a,rfl⟩,?_⟩))⟩;refine⟨.p (.sl (lK b.1)),⟨dD,dD,rfl,(by show 32<=32;decide),_,TG b,rfl⟩,?_⟩;exact cl (yG a.1 b.1).eG rfl
theorem LW (a b:bQ):av C 96 [.agg (cI a),.agg (cI b)] (λr=>r=.val (.int .i64 (gb a b))):=by refine bu {opens:=[],Nj:=[],full:=false,fzo:=[1]} [] Tryz.func96 rfl rfl rfl ⟨[2,3],dA (cells:=aH (cI a)) (ys:=cI a) rfl (bI _) rfl (dA (cells:=aH (cI b)) (ys:=cI b) rfl (bI _) rfl (bZ 4 kK ⟨.p (.sl (lK a.p.1)),⟨dD,dD,rfl,(by show 32<=33;decide),_,TG a.p,rfl⟩,?_⟩))⟩;refine⟨.p (.sl (lK b.p.1)),⟨dD,dD,rfl,(by show 32<=33;decide),_,TG b.p,rfl⟩,?_⟩;refine cl (yG a.p.1 b.p.1).eG ?_;unfold gb dy;refine cm (λh=>?_) (λh=>?_);rw[ag h];exact rfl;rw[af oO];exact cl (Xp a.n b.n).eG rfl
theorem TH (s:Bytes):av C 178 [.str s] (λr=>r=.val (.fn (.func 253) [] [.imp [.str s]])):=by exact ak Tryz.func178 rfl rfl rfl ⟨[1],dA (cells:=[.p (.str s)]) (ys:=[.str s]) rfl rfl rfl rfl⟩
theorem aec {s R:Bytes}{a:Nat}(h:a+64<=s.length):(s.take (a+64)).drop a=((s++R).take (a+64)).drop a:=by rw[th h]
theorem aaJ (M:Bytes)(c a:Nat):((M.drop c).take (a+64)).drop a=(M.take (c+a+64)).drop (c+a):=by rw[List.take_drop,xl,fL]
theorem aaK (Y:Bytes)(h l:Nat):((lK Y).take h).drop l=lK ((Y.take h).drop l):=by simp[lK,mJ,qv]
theorem zQ (Y:Bytes):(lK Y).length=Y.length:=by simp[lK]
theorem DP (Y:Bytes):∀zs,zs∈lK Y->zs.length=1:=by intro zs h;obtain⟨c,-,rfl⟩:=aJ.1 h;rfl
theorem aaL (Y:Bytes)(c:UInt8):lK Y++[[.int .u8 (c.toNat:Int)]]=lK (Y++[c]):=by simp[lK]
theorem Od (x:AV):chunk 1 1 [x]=[[x]]:=rfl
theorem Cc (x:AV):∀zs,zs∈chunk 1 1 [x]->zs.length=1:=by intro zs h;rw[Od]at h;obtain rfl:=aO.1 h;rfl
theorem TI (s:Bytes):uB s=s++([128]++kf ((120-(s.length+1)%64)%64)++uA s.length 8):=by simp[uB]
theorem VN (s:Bytes)(hs:s.length<2^40):av C 108 [.str s] (λr=>r=.val (.agg (cD (QU s)))):=by
 refine dY [] Tryz.func108 rfl rfl rfl (cl TC.cut ?_);obtain⟨m,hm⟩:∃m,uB s=m:=⟨_,rfl⟩;obtain⟨q,hq,hql⟩:=QX s;have hlen:m.length=64*q:=by rw[<-hm];exact hq
 have hq2:(uB s).length/64=q:=by rw[hq];omega
 obtain⟨Z,hZ⟩:∃Z,(120-(s.length+1)%64)%64=Z:=⟨_,rfl⟩;have aed:=TI s;rw[hm,hZ]at aed;obtain⟨p,hp⟩:∃p,s.length/64=p:=⟨_,rfl⟩;refine cl (TH s).cut ⟨_,rfl,rfl,rfl,rfl,?_⟩;refine⟨dD,(p:Int),by rw[<-hp];show IntKind.i64.wrap ((s.length:Int).tdiv ((64:Nat):Int))=_;rw[afZ,wrap64 oO oO],?_⟩;refine nx (64*p) ?_;refine yE 67 1000 (λk:Nat=>[(0,.mh 1000000),(1,.p (.imp [.str s])),(3,.p (.int .i64 ((64*p:Nat):Int))),(4,.p (.int .i64 ((64*k:Nat):Int)))]) (λk=>[(2,aH (cD aZ)),(3,aH (cH (wo m k)))]) (λ_=>[(38,0,[(2,.ptr 2 0),(3,.ptr 3 0)])]) [.ready] (λ_=>[]) (λ_=>[]) (λ_=>[]) (λk=>k<=p) (λk=>p-k) 0 oO rfl wS oS ⟨rfl,wS,trivial⟩ trivial trivial trivial ?_;intro k hk;refine aF (λhlt=>?_) (λhge=>?_);have hlt:k<p:=by have :((64*k:Nat):Int)<((64*p:Nat):Int):=hlt;omega
 have hin:64*k+64<=s.length:=oO
 refine nx (64*k+64) ⟨64*k+64,rfl,64*k,rfl,oO,hin,_,rfl,?_⟩;refine⟨rfl,_,(Gl (wo m k) ((s.take (64*k+64)).drop (64*k)) (by rw[dL,aR];omega)).cut,λr hr=>?_⟩;have e:DL (wo m k) ((s.take (64*k+64)).drop (64*k))=wo m (k+1):=by rw[aec (R:=[128]++kf Z++uA s.length 8) hin,<-aed];rfl
 rw[e]at hr;subst hr;refine bF (nx (64*(k+1)) (rF (k+1) hlt mM rfl wS oS ⟨rfl,wS,trivial⟩ trivial trivial trivial));obtain rfl:k=p:=by have :¬((64*k:Nat):Int)<((64*p:Nat):Int):=hge;omega
 have hk1:64*k<=s.length:=oO
 refine⟨64*k,rfl,oO,aB _,s.drop (64*k),by rw[aV],?_⟩;have hsk:s.drop (64*k)++([128]++kf Z++uA s.length 8)=m.drop (64*k):=by rw[aed,De hk1]
 have aiW:(s.drop (64*k)).length=s.length-64*k:=dL;generalize s.drop (64*k)=X at hsk aiW;refine⟨DP X,Cc _,by show((lK X).length+1)*1<=_;rw[zQ];omega,lK (X++[128]++kf 0),by simp[lK,kf,Od],?_⟩;refine yE 67 1000 (λj:Nat=>[(0,.mh 1000000),(1,.p (.imp [.str s])),(3,.p (.int .i64 ((64*k:Nat):Int))),(5,.gd 1028 5 1 (lK (X++[128]++kf j)))]) (λ_=>[(2,aH (cD aZ)),(3,aH (cH (wo m k)))]) (λ_=>[(38,0,[(2,.ptr 2 0),(3,.ptr 3 0)])]) [.ready] (λ_=>[]) (λ_=>[]) (λ_=>[]) (λj=>j<=Z) (λj=>Z-j) 0 oO rfl wS oS ⟨rfl,wS,trivial⟩ trivial trivial trivial ?_;intro j hj;have hYl:(lK (X++[128]++kf j)).length=s.length-64*k+1+j:=by rw[zQ];simp[kf,aiW];omega
 refine⟨dD,(((s.length-64*k+1+j)%64:Nat):Int),by rw[hYl];rfl,?_⟩;refine cm (λhne=>?_) (λheq=>?_);have hjZ:j<Z:=by have :¬(((s.length-64*k+1+j)%64:Nat):Int)=56:=hne;omega
 refine⟨DP _,Cc _,by rw[hYl];show(s.length-64*k+1+j+1)*1<=_;omega,lK (X++[128]++kf (j+1)),by simp[lK,kf,List.replicate_succ',Od],?_⟩;refine rF (j+1) hjZ mM rfl wS oS ⟨rfl,wS,trivial⟩ trivial trivial trivial;obtain rfl:j=Z:=by have :(((s.length-64*k+1+j)%64:Nat):Int)=56:=heq;omega
 refine yE 67 1000 (λx:Nat×Bytes=>[(0,.mh 1000000),(1,.p (.imp [.str s])),(5,.gd 1028 5 1 (lK x.2)),(6,.p (.int .i64 (((8*x.1:Nat):Int)-8)))]) (λ_=>[(2,aH (cD aZ)),(3,aH (cH (wo m k)))]) (λ_=>[(38,0,[(2,.ptr 2 0),(3,.ptr 3 0)])]) [.ready] (λ_=>[]) (λ_=>[]) (λ_=>[]) (λx=>x.1<=8/\x.2++uA s.length x.1=m.drop (64*k)/\x.2.length<=2^41) (λx=>x.1) (8,X++[128]++kf j) ⟨aB 8,by rw[<-hsk];simp,by rw[<-zQ,hYl];omega⟩ rfl wS oS ⟨rfl,wS,trivial⟩ trivial trivial trivial ?_;rintro⟨i,Y⟩ ⟨hi,hY,hYn⟩;have hi:i<=8:=hi;have hY:Y++uA s.length i=m.drop (64*k):=hY;have hYn:Y.length<=2^41:=hYn;refine aF (λalv=>?_) (λalw=>?_);obtain⟨i,rfl⟩:∃i',i=i'+1:=⟨i-1,by have :((8*i:Nat):Int)-8≥0:=alv;omega⟩;have hs8:(((8*(i+1):Nat):Int)-8)=((8*i:Nat):Int):=oO
 have hE:Y.length+(i+1)=64*q-64*k:=by have :=aY List.length hY;rw[aA,Fi,dL,hlen]at this;exact this
 refine⟨(s.length:Int),vn oO oO,?_⟩;refine⟨((s.length*8:Nat):Int),by rw[vn oO oO];omega,?_⟩;refine⟨oO,((s.length*8/2^(8*i):Nat):Int),?_,?_⟩;rw[hs8];have :min ((8*i:Nat):Int).toNat IntKind.u64.bits=8*i:=by show min (((8*i:Nat):Int).toNat) 64=8*i;omega
 rw[this];exact af0 _ _;refine⟨_,LV oO,?_⟩;refine⟨DP _,Cc _,by show((lK Y).length+1)*1<=_;rw[zQ];omega,lK (Y++[Oa s.length i]),by rw[Od,aaL],?_⟩;refine⟨((8*i:Nat):Int)-8,by rw[hs8,wrap64 oO oO],?_⟩;refine rF (i,Y++[Oa s.length i]) ⟨by show i<=8;omega,by show Y++[Oa s.length i]++uA s.length i=_;rw[<-hY];simp[uA],by show(Y++[_]).length<=_;rw[aA];show Y.length+1<=_;omega⟩ (by show i<i+1;omega) rfl wS oS ⟨rfl,wS,trivial⟩ trivial trivial trivial;obtain rfl:i=0:=by have :¬((8*i:Nat):Int)-8≥0:=alw;omega
 have hY:Y++[]=m.drop (64*k):=hY;rw[bh]at hY;subst hY;have hml:(lK (m.drop (64*k))).length=64*(q-k):=by rw[zQ,dL,hlen];omega
 refine yE 67 1000 (λj:Nat=>[(0,.mh 1000000),(5,.gd 1028 5 1 (lK (m.drop (64*k)))),(7,.p (.int .i64 ((64*j:Nat):Int)))]) (λj=>[(2,aH (cD aZ)),(3,aH (cH (wo m (k+j))))]) (λ_=>[(38,0,[(2,.ptr 2 0),(3,.ptr 3 0)])]) [.ready] (λ_=>[]) (λ_=>[]) (λ_=>[]) (λj=>j<=q-k) (λj=>q-k-j) 0 oO rfl wS oS ⟨rfl,wS,trivial⟩ trivial trivial trivial ?_;intro j hjq;refine aF (λhlt=>?_) (λhge=>?_);have hlt:j<q-k:=by have :((64*j:Nat):Int)<((lK (m.drop (64*k))).length:Int):=hlt;omega
 refine nx (64*j+64) ⟨64*j+64,rfl,64*j,rfl,oO,oO,DP _,lK ((m.take (64*(k+j)+64)).drop (64*(k+j))),by rw[aaK,aaJ,show 64*k+64*j=64*(k+j)from oO],?_⟩;refine⟨_,rfl,rfl,_,(Gl (wo m (k+j)) ((m.take (64*(k+j)+64)).drop (64*(k+j))) (by rw[dL,aR];omega)).cut,λr hr=>?_⟩;have e:DL (wo m (k+j)) ((m.take (64*(k+j)+64)).drop (64*(k+j)))=wo m (k+(j+1)):=rfl;rw[e]at hr;subst hr;refine bF (nx (64*(j+1)) (rF (j+1) hlt mM rfl wS oS ⟨rfl,wS,trivial⟩ trivial trivial trivial));obtain rfl:j=q-k:=by have :¬((64*j:Nat):Int)<((lK (m.drop (64*k))).length:Int):=hge;omega
 have hkq:k+(q-k)=q:=by have :=aY List.length aed;rw[aA,hlen]at this;omega
 have hout:=aaE s (wo m q) (by rw[hq2,hm]);rw[hkq];generalize wo m q=h at hout⊢;refine bJ 38 (λi:Nat=>[(2,.ptr 2 0),(5,.ptr 5 0),(16,.agg (aH (cH h))),(17,.p (.int .i64 (i:Int)))]) (λi=>[(2,aH (cD aZ)),(5,aH (cB (bS h (4*i))))]) (λi=>i<=8) (λi=>8-i) 0 oO rfl wS oS ?_;intro i hi8;refine aF (λhlt=>?_) (λhge=>?_);have hlt:i<8:=by have :(i:Int)<8:=hlt;omega
 refine⟨i,rfl,hlt,aaH (aaI h hlt) (bJ 38 (λj:Nat=>[(2,.ptr 2 0),(5,.ptr 5 0),(6,.p (.int .i64 (i:Int))),(7,.p (.int .u32 (h i))),(16,.agg (aH (cH h))),(17,.p (.int .i64 (i:Int))),(21,.p (.int .i64 (j:Int)))]) (λj=>[(2,aH (cD aZ)),(5,aH (cB (bS h (4*i+j))))]) (λj=>j<=4) (λj=>4-j) 0 oO rfl wS oS ?_)⟩;intro j hj4;refine aF (λeM=>?_) (λsn=>?_);have eM:j<4:=by have :(j:Int)<4:=eM;omega
 have agT:4*i+j<32:=oO
 obtain⟨b1,b2⟩:=af1 (bS h (4*i+j)) (k:=4*i+j) agT;have b3:=aaD (bS h (4*i+j)) (k:=4*i+j) agT (IS h (4*i+j)).toNat;refine nx (4*i) (nx (4*i+j) (nx (8*j) (nx (24-8*j) ⟨oO,_,rfl,?_⟩)));refine⟨((IS h (4*i+j)).toNat:Int),?_,?_⟩;have e:((24-8*j:Nat):Int)=24-8*(((4*i+j)%4:Nat):Int):=oO
 show IntKind.u8.wrap (Bx (h i) ((24-8*j:Nat):Int))=_;rw[e,show i=(4*i+j)/4 from oO];have e2:(4*((4*i+j)/4)+j)=4*i+j:=oO
 rw[e2];exact(VL _).symm;refine⟨4*i+j,rfl,agT,true,4*i+j,(by show 0+(4*i+j)*1=4*i+j;omega),?_⟩;exact⟨_,_,_,b1,b2,_,b3,nx (j+1) (aT (j+1) eM oO rfl wS oS)⟩;obtain rfl:j=4:=by have :¬(j:Int)<4:=sn;omega
 exact nx (i+1) (aT (i+1) hlt oO rfl wS oS);obtain rfl:i=8:=by have :¬(i:Int)<8:=hge;omega
 rw[hout];exact rfl
theorem Hs {s:Bytes}{c:UInt8}{n:Int}{k:Nat}(h:n.toNat=k)(hc:s[k]?=some c):s[n.toNat]?=some c:=by rw[h];exact hc
def oN (x:Int):Prop:=(97<=x/\x<=122)\/(65<=x/\x<=90)\/(48<=x/\x<=57)\/x=46\/x=95\/x=45
instance (x:Int):Decidable (oN x):=by unfold oN;exact inferInstance
def aaM (c:UInt8):Bool:=decide (oN c.toNat)
def gM (s:Bytes):Bool:=decide (s≠[])&&decide (s≠[46])&&decide (s≠[46,46])&&decide (s.length<=40)&&s.all aaM
theorem jS {s:Bytes}(h:s=[]\/s=[46]\/s=[46,46]\/40<s.length\/∃c,c∈s/\¬oN c.toNat):gM s=false:=by
 cases hq:gM s with
 |false=>rfl
 |true=>simp only[gM,bn,decide_eq_true_eq,bD]at hq;obtain⟨⟨⟨⟨h1,h2⟩,h3⟩,h4⟩,h5⟩:=hq;rcases h with h|h|h|h|⟨c,hc,hn⟩;exact absurd h h1;exact absurd h h2;exact absurd h h3;omega;have :=h5 c hc;simp only[aaM,decide_eq_true_eq]at this;exact absurd this hn
theorem IU {s:Bytes}(h1:s≠[])(h2:s≠[46])(h3:s≠[46,46])(h4:s.length<=40)(h5:∀c,c∈s->oN c.toNat):gM s=true:=by simp only[gM,bn,decide_eq_true_eq,bD];exact⟨⟨⟨⟨h1,h2⟩,h3⟩,h4⟩,λc hc=>by simp only[aaM,decide_eq_true_eq];exact h5 c hc⟩
theorem Cd (s:Bytes)(hs:s.length<=2^50):av C 196 [.str s] (λr=>r=.val (.bool (gM s))):=by
 refine ak Tryz.func196 rfl rfl rfl (bJ 65 (λk:Nat=>[(0,.p (.str s)),(3,.p (.int .i64 k))]) (λ_=>[]) (λk=>k<=s.length/\∀i c,i<k->s[i]?=some c->oN c.toNat) (λk=>s.length-k) 0 ⟨zL,λi c h=>absurd h (jL _)⟩ rfl wS trivial ?_);rintro k ⟨hk,hall⟩;have hw:IntKind.i64.wrap ((k:Int)+1)=((k+1:Nat):Int):=by rw[wrap64 oO oO];omega
 refine aF (λhlt=>?_) (λhge=>?_)
 ·have hlt:k<s.length:=by have :(k:Int)<(s.length:Int):=hlt;omega
  obtain⟨c,hc⟩:∃c,s[k]?=some c:=⟨_,ay hlt⟩;refine⟨oO,c,Hs rfl hc,?_⟩;have bad:¬oN c.toNat->gM s=false:=λh=>jS (.inr (.inr (.inr (.inr ⟨c,bW hc,h⟩))));have good:oN c.toNat->k+1<=s.length/\∀i d,i<k+1->s[i]?=some d->oN d.toNat:=λh=>⟨hlt,λi d hi hd=>by by_cases hik:i=k;subst hik;rw[hc]at hd;obtain rfl:=aq hd;exact h;exact hall i d oO hd⟩;refine⟨none,?_⟩;have aaN:¬oN c.toNat->dJ.val (.bool false)=dJ.val (.bool (gM s)):=λh=>by rw[bad h]
  repeat' (first|refine aF (λh=>?_) (λh=>?_)|refine aC (λh=>?_) (λh=>?_)|refine bF ?_)
  all_goals first|exact aaN (by unfold oN;omega)|exact⟨_,hw,aT (k+1) (good (by unfold oN;omega)) oO rfl wS trivial⟩
 have hge:¬k<s.length:=by intro h;exact hge (show(k:Int)<(s.length:Int)by omega)
 have hn:∀c,c∈s->oN c.toNat:=λc hc=>by obtain⟨i,hi⟩:=iX hc;exact hall i c (by have :=(aI.1 hi).1;omega) hi
 refine⟨none,aF (λh1=>?_) (λh1=>?_)⟩;have hne:s≠[]:=λe=>by rw[e]at h1;exact absurd h1 dD
 refine aF (λh2=>?_) (λh2=>?_);refine BY (λh3=>?_) (λh3=>?_);refine BY (λh4=>?_) (λh4=>?_);rw[IU hne h3 h4 oO hn];exact rfl;rw[jS (.inr (.inr (.inl h4)))];exact rfl;rw[jS (.inr (.inl h3))];exact rfl;rw[jS (.inr (.inr (.inr (.inl oO))))];exact rfl;have hne:s=[]:=by
  cases s with
  |nil=>rfl
  |cons _ _=>exact absurd (show((_:Int)≥1)by simp only[aW];omega) h1
 rw[jS (.inl hne)];exact rfl
theorem Fj {α:Type}{a b:List α}{k:Nat}(hl:a.length=b.length)(hk:k<a.length)(he:a.take k=b.take k)(h:a[k]=b[k]):a.take (k+1)=b.take (k+1):=by rw[<-gB hk,<-gB (show k<b.length by omega),he,h]
theorem IV {α:Type}{a b:List α}{k:Nat}(hl:a.length=b.length)(hk:¬k<a.length)(he:a.take k=b.take k):a=b:=by rw[ej oO,ej oO]at he;exact he
theorem aaO (a b:List Dg)(ha:a.length<=2^47)(hb:b.length<=2^47):av C 48 [.sl (pe a),.sl (pe b)] (λr=>r=.val (.bool (decide (a=b)))):=by
 unfold pe;refine ak Tryz.func48 rfl rfl rfl (cm (λh=>?_) (λh=>?_));have :a≠b:=λe=>h (by rw[e]);show dJ.val (.bool false)=_;simp[this];have hl:a.length=b.length:=by simp only[aj]at h;omega
 refine bJ 26 (λk:Nat=>[(0,.p (.sl (a.map cD))),(1,.p (.sl (b.map cD))),(5,.p (.int .i64 k))]) (λ_=>[]) (λk=>k<=a.length/\a.take k=b.take k) (λk=>a.length-k) 0 ⟨zL,rfl⟩ rfl wS trivial ?_;rintro k ⟨hk,he⟩;refine cq (λhlt=>?_) (λhge=>?_);have hlb:k<b.length:=oO
 refine bZ 8 kK (ix hlt (ix hlb ⟨sC,ct,pg,rfl,rfl,mw (a:=a[k]) (b:=b[k]) ?_⟩));by_cases h:a[k]=b[k];rw[ah h];exact nx (k+1) (aT (k+1) ⟨hlt,Fj hl hlt he h⟩ oO rfl wS trivial);rw[ai h];have :a≠b:=λe=>by subst e;exact h rfl
 show dJ.val (.bool false)=_;simp[this];have :a=b:=IV hl hge he;show dJ.val (.bool true)=_;simp[this]
theorem Xq (a b:List bQ)(ha:a.length<=2^47)(hb:b.length<=2^47):av C 171 [.sl (oZ a),.sl (oZ b)] (λr=>r=.val (.bool (decide (a=b)))):=by
 unfold oZ;refine ak Tryz.func171 rfl rfl rfl (cm (λh=>?_) (λh=>?_));have :a≠b:=λe=>h (by rw[e]);show dJ.val (.bool false)=_;simp[this];have hl:a.length=b.length:=by simp only[aj]at h;omega
 refine bJ 26 (λk:Nat=>[(0,.p (.sl (a.map cI))),(1,.p (.sl (b.map cI))),(5,.p (.int .i64 k))]) (λ_=>[]) (λk=>k<=a.length/\a.take k=b.take k) (λk=>a.length-k) 0 ⟨zL,rfl⟩ rfl wS trivial ?_;rintro k ⟨hk,he⟩;refine cq (λhlt=>?_) (λhge=>?_);have hlb:k<b.length:=oO
 refine bZ 8 kK (ix hlt (ix hlb (pW (zO (a:=a[k]) (b:=b[k]) ?_))));by_cases h:a[k]=b[k];rw[ah h];exact nx (k+1) (aT (k+1) ⟨hlt,Fj hl hlt he h⟩ oO rfl wS trivial);rw[ai h];have :a≠b:=λe=>by subst e;exact h rfl
 show dJ.val (.bool false)=_;simp[this];have :a=b:=IV hl hge he;show dJ.val (.bool true)=_;simp[this]
theorem xI {α:Type}{l:List α}{k:Nat}{x:α}(hk:k<l.length)(h:x∉l.take k)(hx:l[k]≠x):x∉l.take (k+1):=by rw[<-gB hk,bk,aO];rintro(h1|h1);exact h h1;exact hx h1.symm
theorem alx (l:List bQ)(x:bQ)(hl:l.length<=2^47):av C 71 [.sl (oZ l),.agg (cI x)] (λr=>r=.val (.bool (decide (x∈l)))):=by
 unfold oZ;refine ak Tryz.func71 rfl rfl rfl (bJ 18 (λk:Nat=>[(0,.p (.sl (l.map cI))),(3,.ptr 3 0),(5,.p (.int .i64 k))]) (λ_=>[(3,aH (cI x))]) (λk=>k<=l.length/\x∉l.take k) (λk=>l.length-k) 0 ⟨zL,by simp⟩ rfl wS oS ?_);rintro k ⟨hk,hn⟩;refine cq (λhlt=>?_) (λhge=>?_);refine bZ 5 kK (ix hlt (pW (jw (a:=l[k]) (b:=x) ?_)));by_cases h:l[k]=x;rw[ah h];have :x∈l:=h▸aQ hlt;show dJ.val (.bool true)=_;simp[this];rw[ai h];exact nx (k+1) (aT (k+1) ⟨hlt,xI hlt hn h⟩ oO rfl wS oS);have :x∉l:=by rw[ej oO]at hn;exact hn
 show dJ.val (.bool false)=_;simp[this]
def wq:List bQ->Bool|a::b::r=>decide (gb a b<0)&&wq (b::r)|_=>true
theorem DQ:∀l:List bQ,wq l=true↔∀(i:Nat)(a b:bQ),l[i]?=some a->l[i+1]?=some b->gb a b<0
 |[]=>by simp[wq]
 |[x]=>by simp[wq]
 |x::y::r=>by
  rw[wq,bn,decide_eq_true_eq,DQ (y::r)];constructor;rintro⟨h1,h2⟩ i a b ha hb;cases i with
  |zero=>simp only[List.getElem?_cons_zero,mI,bN]at ha hb;subst ha;subst hb;exact h1
  |succ i=>exact h2 i a b ha hb
  intro h;exact⟨h 0 x y rfl rfl,λi a b ha hb=>h (i+1) a b ha hb⟩
theorem QZ {l:List bQ}{k:Nat}(h1:0<k)(hk:k<l.length)(h:¬gb l[k-1] l[k]<0):wq l=false:=by
 cases hq:wq l with
 |false=>rfl
 |true=>refine absurd ((DQ l).1 hq (k-1) l[k-1] l[k] (ay oO) ?_) h;rw[show k-1+1=k from oO];exact ay hk
theorem VO (l:List bQ)(hl:l.length<=2^47):av C 198 [.sl (oZ l)] (λr=>r=.val (.bool (wq l))):=by
 unfold oZ;refine ak Tryz.func198 rfl rfl rfl (bJ 21 (λk:Nat=>[(0,.p (.sl (l.map cI))),(3,.p (.int .i64 k))]) (λ_=>[]) (λk=>1<=k/\k<=l.length+1/\∀(i:Nat)(a b:bQ),i+1<k->l[i]?=some a->l[i+1]?=some b->gb a b<0) (λk=>l.length+1-k) 1 ⟨aB _,oO,λi a b h=>oO⟩ rfl wS trivial ?_);rintro k ⟨h1,hk,hn⟩;refine cq (λhlt=>?_) (λhge=>?_);have hlt':k-1<l.length:=oO
 refine bZ 9 kK (nx (k-1) (ix hlt' (ix hlt (cl (zP l[k-1] l[k]) (aF (λh=>?_) (λh=>?_))))));rw[QZ h1 hlt oO];exact rfl;refine nx (k+1) (aT (k+1) ⟨oO,oO,λi a b hi ha hb=>?_⟩ oO rfl wS trivial);by_cases hik:i+1=k;have e:i=k-1:=oO
 subst e;rw[ay hlt']at ha;rw[show k-1+1=k from oO,ay hlt]at hb;obtain rfl:=aq ha;obtain rfl:=aq hb;omega;exact hn i a b oO ha hb;rw[(DQ l).2 λi a b ha hb=>hn i a b (by have :=(aI.1 hb).1;omega) ha hb];exact rfl
theorem nj {l:List bQ}:∀zs,zs∈l.map cI->zs.length=33:=by intro zs h;obtain⟨x,-,rfl⟩:=aJ.1 h;rfl
def rG:List bQ->bQ->List bQ|[],x=>[x]|y::l,x=>if gb y x<0 then y::rG l x else if y=x then y::l else x::y::l
theorem IW:∀(a b:List bQ)(x:bQ),(∀y,y∈a->gb y x<0)->rG (a++b) x=a++rG b x|[],b,x,_=>rfl|y::a,b,x,h=>by rw[cr,rG,ag (h y (by simp)),IW a b x λz hz=>h z (by simp[hz])];rfl
theorem aee {l:List bQ}{k:Nat}{x:bQ}(hk:k<l.length)(h:∀y,y∈l.take k->gb y x<0)(h2:¬gb l[k] x<0):rG l x=if l[k]=x then l else l.take k++[x]++l.drop k:=by
 have e:l=l.take k++(l[k]::l.drop (k+1)):=by rw[<-bY hk,fH]
 have e2:l.drop k=l[k]::l.drop (k+1):=bY hk;rw[e2];generalize l[k]=y at*;rw[show rG l x=rG (l.take k++(y::l.drop (k+1))) x from by rw[<-e],IW _ _ _ h,rG,af h2];by_cases hy:y=x;rw[ag hy,ag hy];exact e.symm;rw[af hy,af hy];simp
theorem aaP {l:List bQ}{x:bQ}(h:∀y,y∈l->gb y x<0):rG l x=l++[x]:=by have :=IW l [] x h;rw[bh]at this;exact this
theorem Oe {l:List bQ}{k:Nat}{x:bQ}(hk:k<l.length)(h:∀y,y∈l.take k->gb y x<0)(h2:gb l[k] x<0):∀y,y∈l.take (k+1)->gb y x<0:=by intro y hy;rw[<-gB hk,bk,aO]at hy;rcases hy with hy|rfl;exact h y hy;exact h2
theorem aef (l:List bQ)(x:bQ)(hl:l.length<=2^20):av C 131 [.sl (oZ l),.agg (cI x)] (λr=>r=.val (.sl (oZ (rG l x)))):=by
 unfold oZ;refine ak Tryz.func131 rfl rfl rfl (bJ 49 (λk:Nat=>[(0,.p (.sl (l.map cI))),(3,.ptr 3 0),(5,.p (.int .i64 k))]) (λ_=>[(3,aH (cI x))]) (λk=>k<=l.length/\∀y,y∈l.take k->gb y x<0) (λk=>l.length-k) 0 ⟨zL,by simp⟩ rfl wS oS ?_);rintro k ⟨hk,hn⟩;refine bZ 10 kK (cq (λhlt=>?_) (λhge=>?_));refine ix hlt (cl (zP l[k] x) (aF (λh=>?_) (λh=>?_)));exact nx (k+1) (aT (k+1) ⟨hlt,Oe hlt hn h⟩ oO rfl wS oS);have hI:=aee hlt hn h;refine bZ 10 kK (cq (λhlt=>?_) (λhge=>absurd hlt hge));refine ix hlt (pW (jw (a:=l[k]) (b:=x) ?_));by_cases hx:l[k]=x;rw[ah hx];rw[ag hx]at hI;rw[hI];exact rfl;rw[ai hx];rw[af hx]at hI;rw[hI];refine⟨k,rfl,zL,by rw[aj];exact hk,nj,(l.take k).map cI,by simp[mJ],?_⟩;refine⟨(λzs h=>nomatch h),nj,by show(0+((l.take k).map cI).length)*40<=_;rw[aj,aR];omega,(l.take k).map cI,rfl,?_⟩;refine⟨nj,nj (l:=[x]),by show(((l.take k).map cI).length+1)*40<=_;rw[aj,aR];omega,(l.take k++[x]).map cI,by rw[aD];rfl,?_⟩;refine⟨k,rfl,by rw[aj];exact hk,aB _,nj,(l.drop k).map cI,by rw[ej (aB _),qv],?_⟩;refine⟨nj,nj,by show(((l.take k++[x]).map cI).length+((l.drop k).map cI).length)*40<=_;simp only[aj,aA,aR,dL,aW,bt];omega,(l.take k++[x]++l.drop k).map cI,by rw[<-aD],?_⟩;exact .inr rfl;have hkl:k=l.length:=oO
 have hI:rG l x=l.take k++[x]++l.drop k:=by rw[ej oO]at hn⊢;rw[cZ oO,bh];exact aaP hn
 refine bZ 10 kK (cq (λhlt=>absurd hlt hge) (λhge=>?_));rw[hI];refine⟨k,rfl,zL,by rw[aj];exact hk,nj,(l.take k).map cI,by simp[mJ],?_⟩;refine⟨(λzs h=>nomatch h),nj,by show(0+((l.take k).map cI).length)*40<=_;rw[aj,aR];omega,(l.take k).map cI,rfl,?_⟩;refine⟨nj,nj (l:=[x]),by show(((l.take k).map cI).length+1)*40<=_;rw[aj,aR];omega,(l.take k++[x]).map cI,by rw[aD];rfl,?_⟩;refine⟨k,rfl,by rw[aj];exact hk,aB _,nj,(l.drop k).map cI,by rw[ej (aB _),qv],?_⟩;refine⟨nj,nj,by show(((l.take k++[x]).map cI).length+((l.drop k).map cI).length)*40<=_;simp only[aj,aA,aR,dL,aW,bt];omega,(l.take k++[x]++l.drop k).map cI,by rw[<-aD],?_⟩;exact .inr rfl
def uC (l:List Bytes):Nat:=(l.map List.length).sum
theorem Ra (l:List Bytes)(k:Nat)(h:k<l.length):uC (l.take (k+1))=uC (l.take k)+l[k].length:=by unfold uC;rw[<-gB h,aD,qw];simp
theorem Rb {α:Type}(f:α->Nat)(l:List α)(k:Nat):((l.take k).map f).sum<=(l.map f).sum:=by have :=aY (λx=>(x.map f).sum) (fH k l);simp only[aD,qw]at this;omega
def Ce (l:List Bytes):Bool:=decide (40<l.length)||decide (3000<uC l)
structure SzS (a:List Bytes):Prop where
 len:a.length<=2^47
 each:∀s,s∈a->s.length<=2^47
theorem DR {α:Type}(f:α->Nat)(m:Nat):∀(l:List α),(∀x,x∈l->f x<=m)->(l.map f).sum<=l.length*m
 |[],_=>by simp
 |x::l,h=>by have h1:=h x (by simp);have h2:=DR f m l λy hy=>h y (by simp[hy]);simp only[bB,qq,aW,bK,kR];omega
theorem wrap_add (x y:Int):IntKind.i64.wrap (IntKind.i64.wrap x+y)=IntKind.i64.wrap (x+y):=by simp only[IntKind.wrap,IntKind.bits,IntKind.signed];simp;split<;>split<;>omega
theorem Xr (a:List Bytes)(hs:SzS a):av C 51 [QL a] (λr=>r=.val (.bool (Ce a))):=by
 have ha:=hs.len;refine ak Tryz.func51 rfl rfl rfl (bJ 25 (λk:Nat=>[(0,.p (QL a)),(3,.p (.int .i64 (IntKind.i64.wrap ((uC (a.take k):Nat):Int)))),(4,.p (.int .i64 k))]) (λ_=>[]) (λk=>k<=a.length) (λk=>a.length-k) 0 (zL) rfl wS trivial ?_);intro k hk;refine cq (λhlt=>?_) (λhge=>?_);have h1:=Ra a k hlt;refine⟨oO,_,eC rfl hlt,rfl,IntKind.i64.wrap ((uC (a.take (k+1)):Nat):Int),by rw[wrap_add,h1,Int.natCast_add],k+1,wrap64 (by first|omega|(simp only[aj,aA,aW,bt]at*;omega)) (by first|omega|(simp only[aj,aA,aW,bt]at*;omega)),aT (k+1) hlt oO rfl wS trivial⟩;obtain rfl:k=a.length:=oO
 rw[aV];have hx:¬40<a.length->IntKind.i64.wrap ((uC a:Nat):Int)=(uC a:Int):=λh=>by have h1:=DR List.length (2^47) a hs.each;have h2:a.length*2^47<=40*2^47:=fG _ oO;unfold uC;exact wrap64 oO oO
 refine⟨none,aF (λh=>?_) (λh=>aF (λh2=>?_) (λh2=>?_))⟩;have :40<a.length:=by simp only[aj]at h;omega
 show dJ.val (.bool true)=_;simp[Ce,this];rw[hx (by simp only[aj]at h;omega)]at h2;have :3000<uC a:=oO
 show dJ.val (.bool true)=_;simp[Ce,this];have h3:¬40<a.length:=by simp only[aj]at h;omega
 rw[hx h3]at h2;have h4:¬3000<uC a:=oO
 show dJ.val (.bool false)=_;simp[Ce,h3,h4]
structure SzC (c:dw):Prop where
 name:c.name.length<=2^47
 data:c.data.length<=2^47
 lines:SzS c.lines
 over:c.over.length<=2^47
structure Rc (p:gr):Prop where
 fQ:p.fQ.length<=2^47
 message:p.message.length<=2^47
 deps:p.deps.length<=2^47
 len:p.changes.length<=2^47
 each:∀c,c∈p.changes->SzC c
structure SzT (s:List fD):Prop where
 len:s.length<=2^47
 each:∀x,x∈s->Rc x.pat
theorem Re (a b:bR)(ha:a.over.length<=2^47)(hb:b.over.length<=2^47):av C 92 [.agg (cA a),.agg (cA b)] (λr=>r=.val (.bool (decide (a=b)))):=by refine ak Tryz.func92 rfl rfl rfl ⟨none,pW (jw (a:=a.id) (b:=b.id) ?_)⟩;by_cases h1:a.id=b.id;rotate_left;rw[ai h1];exact aY dJ.val (aY AV.bool (ai λe=>h1 (by rw[e])).symm);rw[ah h1];refine aC (λh2=>?_) (λh2=>?_);rotate_left;exact aY dJ.val (aY AV.bool (ai λe=>h2 (by rw[e])).symm);refine pW (jw (a:=a.file) (b:=b.file) ?_);by_cases h3:a.file=b.file;rotate_left;rw[ai h3];exact aY dJ.val (aY AV.bool (ai λe=>h3 (by rw[e])).symm);rw[ah h3];refine aC (λh4=>?_) (λh4=>?_);rotate_left;exact aY dJ.val (aY AV.bool (ai λe=>h4 (by rw[e])).symm);refine pW (jw (a:=a.parent) (b:=b.parent) ?_);by_cases h5:a.parent=b.parent;rotate_left;rw[ai h5];exact aY dJ.val (aY AV.bool (ai λe=>h5 (by rw[e])).symm);rw[ah h5];refine aC (λh6=>?_) (λh6=>?_);rotate_left;exact aY dJ.val (aY AV.bool (ai λe=>h6 (by rw[e])).symm);refine aC (λh7=>?_) (λh7=>?_);rotate_left;exact aY dJ.val (aY AV.bool (ai λe=>h7 (by rw[e])).symm);refine aC (λh8=>?_) (λh8=>?_);rotate_left;exact aY dJ.val (aY AV.bool (ai λe=>h8 (by rw[e])).symm);refine aC (λh9=>?_) (λh9=>?_);rotate_left;exact aY dJ.val (aY AV.bool (ai λe=>h9 (by rw[e])).symm);refine pW (jw (a:=a.fr) (b:=b.fr) ?_);by_cases h10:a.fr=b.fr;rotate_left;rw[ai h10];exact aY dJ.val (aY AV.bool (ai λe=>h10 (by rw[e])).symm);rw[ah h10];refine pW (jw (a:=a.to) (b:=b.to) ?_);by_cases h11:a.to=b.to;rotate_left;rw[ai h11];exact aY dJ.val (aY AV.bool (ai λe=>h11 (by rw[e])).symm);rw[ah h11];exact cl (Xq a.over b.over ha hb) (aY dJ.val (aY AV.bool (decide_eq_decide.2 ⟨λh12=>by cases a;cases b;simp_all,λe=>by rw[e]⟩)))
def SzA (l:List bR):Prop:=l.length<=2^47/\∀a,a∈l->a.over.length<=2^47
theorem Xs (a b:List bR)(ha:SzA a)(hb:SzA b):av C 34 [.sl (gI a),.sl (gI b)] (λr=>r=.val (.bool (decide (a=b)))):=by
 have ha1:=ha.1;have Kq:=hb.1;unfold gI;refine ak Tryz.func34 rfl rfl rfl (cm (λh=>?_) (λh=>?_));have :a≠b:=λe=>h (by rw[e]);show dJ.val (.bool false)=_;simp[this];have hl:a.length=b.length:=by simp only[aj]at h;omega
 refine bJ 27 (λk:Nat=>[(0,.p (.sl (a.map cA))),(1,.p (.sl (b.map cA))),(5,.p (.int .i64 k))]) (λ_=>[]) (λk=>k<=a.length/\a.take k=b.take k) (λk=>a.length-k) 0 ⟨zL,rfl⟩ rfl wS trivial ?_;rintro k ⟨hk,he⟩;refine cq (λhlt=>?_) (λhge=>?_);have hlb:k<b.length:=oO
 refine bZ 8 kK (ix hlt (ix hlb (cl (Re a[k] b[k] (ha.2 _ (aQ _)) (hb.2 _ (aQ _))) (bF ?_))));by_cases h:a[k]=b[k];rw[ah h];exact nx (k+1) (aT (k+1) ⟨hlt,Fj hl hlt he h⟩ oO rfl wS trivial);rw[ai h];have :a≠b:=λe=>by subst e;exact h rfl
 show dJ.val (.bool false)=_;simp[this];have :a=b:=IV hl hge he;show dJ.val (.bool true)=_;simp[this]
def zR (s:Bytes)(x y:UInt8):Bool:=s.all λc=>c !=x&&c !=y
theorem LX {s:Bytes}{x y:UInt8}{k:Nat}{c:UInt8}(h:s[k]?=some c)(h2:c=x\/c=y):zR s x y=false:=by unfold zR;rw[DS];refine⟨c,bW h,?_⟩;rcases h2 with rfl|rfl<;>simp
theorem aaQ {a b:UInt8}(h:(a.toNat:Int)=(b.toNat:Int)):a=b:=UInt8.toNat_inj.1 oO
theorem aaR (s:Bytes)(x y:UInt8)(hs:s.length<=2^47):av C 271 [.str s,.int .u8 x.toNat,.int .u8 y.toNat] (λr=>r=.val (.bool (zR s x y))):=by
 refine ak Tryz.func271 rfl rfl rfl (bJ 26 (λk:Nat=>[(0,.p (.str s)),(1,.p (.int .u8 x.toNat)),(2,.p (.int .u8 y.toNat)),(7,.p (.int .i64 k))]) (λ_=>[]) (λk=>k<=s.length/\∀i c,i<k->s[i]?=some c->c≠x/\c≠y) (λk=>s.length-k) 0 ⟨zL,λi c h=>absurd h (jL _)⟩ rfl wS trivial ?_);rintro k ⟨hk,hall⟩;refine aF (λhlt=>?_) (λhge=>?_);have hlt:k<s.length:=by have :(k:Int)<(s.length:Int):=hlt;omega
 obtain⟨c,hc⟩:∃c,s[k]?=some c:=⟨_,ay hlt⟩;refine⟨none,oO,c,Hs rfl hc,?_⟩;refine aC (λh=>?_) (λh=>?_);rw[LX hc (.inl (aaQ h))];exact rfl;refine⟨oO,c,Hs rfl hc,?_⟩;refine aC (λh2=>?_) (λh2=>?_);rw[LX hc (.inr (aaQ h2))];exact rfl;refine nx (k+1) (aT (k+1) ⟨hlt,λi d hi hd=>?_⟩ oO rfl wS trivial);by_cases hik:i=k;subst hik;rw[hc]at hd;obtain rfl:=aq hd;exact⟨λe=>h (by rw[e]),λe=>h2 (by rw[e])⟩;exact hall i d oO hd;have hge:¬k<s.length:=λh=>hge (show(k:Int)<(s.length:Int)by omega);have :zR s x y=true:=by unfold zR;rw[bD];intro c hc;obtain⟨i,hi⟩:=iX hc;have :=hall i c (by have :=(aI.1 hi).1;omega) hi;simp[this.1,this.2]
 rw[this];exact rfl
def oP (s:Bytes):Bool:=decide (s.length<=1000)&&zR s 10 0
theorem LY (s:Bytes)(hs:s.length<=2^47):av C 197 [.str s] (λr=>r=.val (.bool (oP s))):=by
 refine ak Tryz.func197 rfl rfl rfl ⟨none,aF (λh=>?_) (λh=>?_)⟩;refine cl (aaR s 10 0 hs) ?_;have :s.length<=1000:=by have :(s.length:Int)<=1000:=h;omega
 show dJ.val _=_;simp[oP,this];have :¬s.length<=1000:=by have :¬(s.length:Int)<=1000:=h;omega
 show dJ.val _=_;simp[oP,this]
def wu (l:List dw):Nat:=(l.map λc=>c.name.length+c.data.length).sum
def KS (c:dw):Bool:=Ce c.lines||decide (40<c.over.length)
def nI (p:gr):Bool:=p.changes.any KS||decide (3000<p.fQ.length+p.message.length+wu p.changes)||decide (20<p.deps.length)||decide (20<p.changes.length)
theorem TJ (l:List dw)(k:Nat)(h:k<l.length):wu (l.take (k+1))=wu (l.take k)+(l[k].name.length+l[k].data.length):=by unfold wu;rw[<-gB h,aD,qw];simp
theorem KT {α:Type}{f:α->Bool}{l:List α}{k:Nat}(hk:k<l.length)(h:(l.take k).any f=false)(h2:f l[k]=false):(l.take (k+1)).any f=false:=by rw[<-gB hk,xJ,h];simp[h2]
theorem Xt (p:gr)(hp:Rc p):av C 18 [.agg (cP p)] (λr=>r=.val (.bool (nI p))):=by
 have h1:=hp.len;refine ak Tryz.func18 rfl rfl rfl ⟨IntKind.i64.wrap ((p.fQ.length+p.message.length+wu (p.changes.take 0):Nat):Int),rfl,bJ 57 (λk:Nat=>[(1,.ptr 1 0),(3,.p (.int .i64 (IntKind.i64.wrap ((p.fQ.length+p.message.length+wu (p.changes.take k):Nat):Int)))),(4,.p (.int .i64 k))]) (λ_=>[(1,aH (cP p))]) (λk=>k<=p.changes.length/\(p.changes.take k).any KS=false) (λk=>p.changes.length-k) 0 ⟨zL,rfl⟩ rfl wS oS ?_⟩;rintro k ⟨hk,hn⟩;refine cq (l:=p.changes) (f:=cC) (λhlt=>?_) (λhge=>?_);have hc:=hp.each p.changes[k] (aQ _);have bad:KS p.changes[k]=true->dJ.val (.bool true)=dJ.val (.bool (nI p)):=λh=>by have :p.changes.any KS=true:=eA.2 ⟨_,aQ hlt,h⟩;simp[nI,this]
 refine ix hlt ⟨none,cl (Xr p.changes[k].lines hc.lines) ?_⟩;cases hg:Ce p.changes[k].lines with
 |true=>exact bad (by simp[KS,hg])
 |false=>
  refine aF (λh=>?_) (λh=>?_);have :40<p.changes[k].over.length:=by have :(((oZ p.changes[k].over).length:Nat):Int)>40:=h;simp only[oZ,aj]at this;omega
  exact bad (by simp[KS,this]);have h40:¬40<p.changes[k].over.length:=by have :¬(((oZ p.changes[k].over).length:Nat):Int)>40:=h;simp only[oZ,aj]at this;omega
  refine⟨IntKind.i64.wrap ((p.fQ.length+p.message.length+wu (p.changes.take k)+p.changes[k].name.length:Nat):Int),by rw[wrap_add];rfl,?_⟩;refine⟨IntKind.i64.wrap ((p.fQ.length+p.message.length+wu (p.changes.take (k+1)):Nat):Int),by rw[wrap_add,TJ _ _ hlt];congr 1;omega,?_⟩;exact nx (k+1) (aT (k+1) ⟨hlt,KT hlt hn (by simp[KS,hg,h40])⟩ oO rfl wS oS)
 obtain rfl:k=p.changes.length:=oO
 rw[aV]at hn⊢;have hx:¬20<p.changes.length->IntKind.i64.wrap ((p.fQ.length+p.message.length+wu p.changes:Nat):Int)=((p.fQ.length+p.message.length+wu p.changes:Nat):Int):=λh=>by
  have h1:=DR (λc:dw=>c.name.length+c.data.length) (2^48) p.changes λc hc=>by have :=(hp.each c hc).name;have :=(hp.each c hc).data;omega
  have h2:p.changes.length*2^48<=20*2^48:=fG _ oO;have h3:=hp.fQ;have h4:=hp.message;unfold wu;exact wrap64 oO oO
 refine⟨none,?_⟩;have mF:(((AO p.changes).length:Nat):Int)=(p.changes.length:Int):=by simp only[AO,aj]
 have hdl:(((pe p.deps).length:Nat):Int)=(p.deps.length:Int):=by simp only[pe,aj]
 refine aF (λh=>?_) (λh=>aF (λh2=>?_) (λh2=>aF (λh3=>?_) (λh3=>?_)));show dJ.val (.bool true)=_;by_cases h20:20<p.changes.length;simp[nI,h20];rw[hx h20]at h;have :3000<p.fQ.length+p.message.length+wu p.changes:=oO
 simp[nI,this];have :20<p.deps.length:=by have :(((pe p.deps).length:Nat):Int)>20:=h2;omega
 show dJ.val (.bool true)=_;simp[nI,this];have :20<p.changes.length:=by have :(((AO p.changes).length:Nat):Int)>20:=h3;omega
 show dJ.val (.bool true)=_;simp[nI,this];have h20:¬20<p.changes.length:=by have :¬(((AO p.changes).length:Nat):Int)>20:=h3;omega
 have hd:¬20<p.deps.length:=by have :¬(((pe p.deps).length:Nat):Int)>20:=h2;omega
 rw[hx h20]at h;have hs:¬3000<p.fQ.length+p.message.length+wu p.changes:=oO
 show dJ.val (.bool false)=_;simp only[nI,hn,h20,hd,hs,decide_false,Bool.or_self]
inductive Sx where|atom (s:Bytes)|list (l:List Sx)
theorem Sx.ind {P:Sx->Prop}(h1:∀s,P (.atom s))(h2:∀l,(∀x,x∈l->P x)->P (.list l))(x:Sx):P x:=Sx.rec (motive_1:=P) (motive_2:=λl=>∀x,x∈l->P x) h1 (λl ih=>h2 l ih) (λx hx=>by cases hx) (λq l hq hl x hx=>by rcases aL.1 hx with rfl|hx;exact hq;exact hl x hx) x
mutual def cX:Sx->List AV|.atom s=>[.bool false,.str s,.sl []]|.list l=>[.bool true,.str [],.sl (mR l)] def mR:List Sx->List (List AV)|[]=>[]|x::l=>cX x::mR l end
mutual def nX:Sx->Nat|.atom _=>1|.list l=>1+tN l def tN:List Sx->Nat|[]=>0|x::l=>nX x+tN l end
mutual def dX:Sx->Nat|.atom _=>1|.list l=>1+VP l def VP:List Sx->Nat|[]=>0|x::l=>max (dX x) (VP l) end
mutual def aX:Sx->Nat|.atom s=>s.length|.list l=>aXs l def aXs:List Sx->Nat|[]=>0|x::l=>max (aX x) (aXs l) end
mutual def eX:Sx->Bytes|.atom s=>Lib.itoa (s.length:Int)++[58]++s|.list l=>[40]++Kr l++[41] def Kr:List Sx->Bytes|[]=>[]|x::l=>eX x++Kr l end
theorem vo:∀l,mR l=l.map cX|[]=>rfl|x::l=>by show cX x::mR l=_;rw[vo l];rfl
theorem vp:∀l,tN l=(l.map nX).sum|[]=>rfl|x::l=>by show nX x+tN l=_;rw[vp l];simp
theorem wv:∀l,Kr l=l.flatMap eX|[]=>rfl|x::l=>by show eX x++Kr l=_;rw[wv l];simp
theorem Of:∀{l:List Sx}{x:Sx},x∈l->dX x<=VP l|y::l,x,h=>by show _<=max (dX y) (VP l);rcases aL.1 h with rfl|h;omega;have :=Of h;omega
theorem Ht:∀{l:List Sx}{x:Sx},x∈l->aX x<=aXs l|y::l,x,h=>by show _<=max (aX y) (aXs l);rcases aL.1 h with rfl|h;omega;have :=Ht h;omega
theorem agU (x:Sx):1<=nX x:=by cases x<;>simp[nX]
theorem wz {l:List Sx}{k:Nat}(h:k<l.length):tN (l.take (k+1))=tN (l.take k)+nX l[k]:=by rw[vp,vp,<-gB h,aD,qw];simp
theorem nJ (l:List Sx)(k:Nat):tN (l.take k)<=tN l:=by rw[vp,vp];exact Rb nX l k
theorem xK:∀l,l.length<=tN l|[]=>aB _|x::l=>by have :=xK l;have :=agU x;show l.length+1<=nX x+tN l;omega
theorem Rf {l:List Sx}{k:Nat}(h:k<l.length):Kr (l.take (k+1))=Kr (l.take k)++eX l[k]:=by rw[wv,wv,<-gB h,lB];simp
theorem Xu (l:List Sx)(k:Nat):Kr l=Kr (l.take k)++Kr (l.drop k):=by rw[wv,wv,wv,<-lB,fH]
theorem Gn (l:List Sx)(k:Nat):(Kr (l.take k)).length<=(Kr l).length:=by rw[Xu l k,aA];omega
theorem agV (x:Sx):(cX x).length=3:=by cases x<;>rfl
theorem Xv {l:List Sx}{k:Nat}(h:k<l.length):(mR l)[((k:Nat):Int).toNat]?=some (cX l[k]):=by rw[vo,jG,aM,ay h];rfl
theorem rS (l:List Sx):(mR l).length=l.length:=by rw[vo,aj]
theorem Fk {k:Nat}{l:List Sx}{K:Bool->Prop}(h1:k<l.length->K true)(h2:¬k<l.length->K false):Al λt:Bool=>t=decide ((k:Int)<((mR l).length:Int))->K t:=by rw[vo];exact cq h1 h2
theorem aaS (x:Sx):∀lim d:Nat,nX x<=lim->dX x<=d->lim<=2^20->d<=100->av C 311 [.agg (cX x),.int .i64 (lim:Int),.int .i64 (d:Int)] (λr=>r=.val (.int .i64 (nX x:Int))):=by
 induction x using Sx.ind with
 |h1 s=>intro lim d h1 h2 h3 h4;have h1:1<=lim:=h1;have h2:1<=d:=h2;exact ak Tryz.func311 rfl rfl rfl ⟨none,aF (λh=>absurd h oO) (λ_=>aF (λh=>absurd h oO) (λ_=>bF rfl))⟩
 |h2 l ih=>
  intro lim d h1 h2 h3 h4;have h1:1+tN l<=lim:=h1;have h2:1+VP l<=d:=h2;refine ak Tryz.func311 rfl rfl rfl ⟨none,aF (λh=>absurd h oO) (λ_=>aF (λh=>absurd h oO) (λ_=>bF ?_))⟩;have hlen:=xK l;refine bJ 47 (λk:Nat=>[(1,.p (.int .i64 (lim:Int))),(2,.p (.int .i64 (d:Int))),(3,.ptr 3 0),(7,.p (.int .i64 ((1+tN (l.take k):Nat):Int))),(8,.p (.int .i64 k))]) (λ_=>[(3,aH [.bool true,.str [],.sl (mR l)])]) (λk=>k<=l.length) (λk=>l.length-k) 0 (zL) rfl wS oS ?_;intro k hk;have ht:=nJ l k;refine⟨none,Fk (λhlt=>?_) (λhge=>?_)⟩
  ·refine aF (λ_=>?_) (λh=>absurd (show((1+tN (l.take k):Nat):Int)<=(lim:Int)by omega) h);have ht2:=nJ l (k+1);have hs:=wz hlt;have hm:=aQ hlt;have hi:=ih l[k] hm (lim-(1+tN (l.take k))) (d-1) oO (by have :=Of hm;omega) oO oO;have fW:=Xv hlt;generalize l[k]=y at hi fW hs;cases y;all_goals refine⟨oO,_,fW,rfl,?_⟩;refine⟨((lim-(1+tN (l.take k)):Nat):Int),by rw[wrap64 oO oO];omega,?_⟩;refine nx (d-1) (cl hi ?_);refine⟨((1+tN (l.take (k+1)):Nat):Int),by rw[wrap64 oO oO];omega,?_⟩;exact nx (k+1) (aT (k+1) hlt oO rfl wS oS)
  have :k=l.length:=oO
  subst this;rw[aV];exact rfl
theorem agW (x:Sx):aX x<=65536->nX x<=2^20->av C 312 [.agg (cX x)] (λr=>r=.val (.int .i64 0)):=by
 induction x using Sx.ind with
 |h1 s=>intro h1 _;have h1:s.length<=65536:=h1;refine ak Tryz.func312 rfl rfl rfl (bF (aF (λh=>absurd h dD) (λ_=>?_)));exact aF (λh=>absurd h oO) (λ_=>rfl)
 |h2 l ih=>
  intro h1 h2;have h1:aXs l<=65536:=h1;have h2:1+tN l<=2^20:=h2;have hlen:=xK l;refine ak Tryz.func312 rfl rfl rfl (bF (BY (λh=>absurd rfl h) (λ_=>bJ 35 (λk:Nat=>[(1,.ptr 1 0),(3,.p (.int .i64 k))]) (λ_=>[(1,aH [.bool true,.str [],.sl (mR l)])]) (λk=>k<=l.length) (λk=>l.length-k) 0 (zL) rfl wS oS ?_)));intro k hk;refine Fk (λhlt=>?_) (λhge=>?_)
  ·have hm:=aQ hlt;have hs:=wz hlt;have ht2:=nJ l (k+1);have hi:=ih l[k] hm (by have :=Ht hm;omega) oO;have fW:=Xv hlt;generalize l[k]=y at hi fW hs;cases y;all_goals refine⟨oO,_,fW,rfl,?_⟩;exact cl hi (cm (λh=>absurd rfl h) (λ_=>nx (k+1) (aT (k+1) hlt oO rfl wS oS)))
  exact rfl
theorem Xw (x:Sx)(h1:nX x<=20000)(h2:dX x<=12)(h3:aX x<=65536):av C 282 [.agg (cX x)] (λr=>r=.val (.int .i64 0)):=by have hc:=aaS x 20000 12 h1 h2 dD dD;have hk:=agW x h3 oO;cases x;all_goals exact ak Tryz.func282 rfl rfl rfl (cl hc (aF (λh=>absurd h oO) (λ_=>cl hk rfl)))
theorem aaT (u:Nat)(h:u<10):Lib.itoa (u:Int)=[UInt8.ofNat (48+u)]:=by unfold Lib.itoa;rw[af oO];show Lib.decDigits (Int.toNat (u:Int))=_;rw[jG,Lib.decDigits,dif_pos h]
theorem Xx (u:Nat)(h:¬u<10):Lib.itoa (u:Int)=Lib.itoa ((u/10:Nat):Int)++[UInt8.ofNat (48+u%10)]:=by
 unfold Lib.itoa;rw[af oO,af oO];show Lib.decDigits (Int.toNat (u:Int))=Lib.decDigits (Int.toNat ((u/10:Nat):Int))++_;rw[jG,jG];conv=>lhs;rw[Lib.decDigits]
 rw[dif_neg h]
theorem Cf (u:Nat)(hu:u<=2^60):av C 313 [.int .i64 (u:Int)] (λr=>r=.val (.str (Lib.itoa u))):=by
 induction u using Nat.strongRecOn with
 |_ u ih=>
  have dig:∀d:Nat,d<10->((48+d:Nat):Int)=((UInt8.ofNat (48+d)).toNat:Int):=λd hd=>by simp;omega
  refine ak Tryz.func313 rfl rfl rfl (aF (λh=>absurd h oO) (λ_=>aF (λh=>?_) (λh=>?_)));have hu:u<10:=oO
  refine⟨_,(show IntKind.i64.wrap (48+(u:Int))=((48+u:Nat):Int)from by rw[wrap64 oO oO];omega),?_⟩;refine⟨((48+u:Nat):Int),aan oO oO,?_⟩;refine⟨[UInt8.ofNat (48+u)],(by show[[AV.int .u8 ((48+u:Nat):Int)]]=[[AV.int .u8 ((UInt8.ofNat (48+u)).toNat:Int)]];rw[dig u hu]),?_⟩;show dJ.val _=_;rw[aaT u hu];have hu':¬u<10:=oO
  have l1:=Lib.itoa_length_le ((u/10:Nat):Int) oO oO;refine bZ 11 kK ?_;refine⟨dD,((u/10:Nat):Int),(by rw[show((u:Int).tdiv 10)=((u/10:Nat):Int)from rfl];exact wrap64 oO oO),?_⟩;refine⟨_,ih (u/10) oO oO,dD,((u%10:Nat):Int),rfl,?_⟩;refine⟨_,(show IntKind.i64.wrap (48+((u%10:Nat):Int))=((48+u%10:Nat):Int)from by rw[wrap64 oO oO];omega),?_⟩;refine⟨.p (.int .u8 ((48+u%10:Nat):Int)),⟨_,aan oO oO,rfl⟩,_,rfl,?_⟩;refine⟨.p (.str [UInt8.ofNat (48+u%10)]),⟨[UInt8.ofNat (48+u%10)],(by show[[AV.int .u8 ((48+u%10:Nat):Int)]]=[[AV.int .u8 ((UInt8.ofNat (48+u%10)).toNat:Int)]];rw[dig _ oO]),rfl⟩,?_⟩;refine⟨by simp only[aA,fc];omega,?_⟩;show dJ.val _=_;rw[Xx u hu']
theorem itoa_neg (n:Int)(h:n<0):Lib.itoa n=[45]++Lib.itoa (-n):=by unfold Lib.itoa;rw[ag h,af oO,show n.natAbs=(-n).toNat from oO];rfl
theorem aeh (n:Int)(h0:-2^60<=n)(h1:n<=2^60):av C 313 [.int .i64 n] (λr=>r=.val (.str (Lib.itoa n))):=by by_cases h:n<0;obtain⟨u,hu⟩:=lC (show 0<=-n by omega);refine ak Tryz.func313 rfl rfl rfl (aF (λ_=>?_) (λh2=>absurd h h2));refine aF (λh2=>absurd h2 oO) (λ_=>?_);refine⟨(u:Int),by rw[wrap64 oO oO];omega,?_⟩;have l1:=Lib.itoa_length_le (u:Int) oO oO;refine cl (Cf u oO) ?_;refine⟨by simp only[aW,bt];omega,?_⟩;rw[itoa_neg n h,hu];exact rfl;obtain⟨u,rfl⟩:=lC (show 0<=n by omega);exact Cf u oO
theorem TK (x:Sx):(eX x).length<=2^40->nX x<=2^20->av C 283 [.agg (cX x)] (λr=>r=.val (.str (eX x))):=by
 induction x using Sx.ind with
 |h1 s=>intro h1 _;have h1:(Lib.itoa (s.length:Int)++[58]++s).length<=2^40:=h1;simp only[aA,aW,bt]at h1;refine ak Tryz.func283 rfl rfl rfl (bF (bZ 9 kK ⟨_,Cf s.length oO,?_⟩));refine⟨by simp only[aW,bt];omega,?_⟩;refine⟨by simp only[aA,aW,bt];omega,?_⟩;exact rfl
 |h2 l ih=>
  intro h1 h2;have h1:([40]++Kr l++[41]).length<=2^40:=h1;have h2:1+tN l<=2^20:=h2;simp only[aA,aW,bt]at h1;have hlen:=xK l;refine ak Tryz.func283 rfl rfl rfl (bF (bJ 33 (λk:Nat=>[(1,.ptr 1 0),(3,.p (.str ([40]++Kr (l.take k)))),(4,.p (.int .i64 k))]) (λ_=>[(1,aH [.bool true,.str [],.sl (mR l)])]) (λk=>k<=l.length) (λk=>l.length-k) 0 (zL) rfl wS oS ?_));intro k hk;refine Fk (λhlt=>?_) (λhge=>?_)
  ·have hm:=aQ hlt;have hs:=wz hlt;have he:=Rf hlt;have hel:=aY List.length he;rw[aA]at hel;have ht2:=nJ l (k+1);have hb:=Gn l (k+1);have hi:=ih l[k] hm oO oO;have fW:=Xv hlt;generalize l[k]=y at hi fW hs he hel;cases y;all_goals refine⟨oO,_,fW,rfl,?_⟩;refine cl hi ?_;refine⟨by simp only[aA,aW,bt];omega,?_⟩;exact nx (k+1) (aT (k+1) hlt oO rfl ⟨bw.refl _,bw.eq (by rw[he,<-bq];rfl),bw.refl _,trivial⟩ oS)
  have :k=l.length:=oO
  subst this;rw[aV];refine⟨by simp only[aA,aW,bt];omega,?_⟩;exact rfl
structure OkX (x:Sx):Prop where
 nodes:nX x<=20000
 depth:dX x<=12
 atoms:aX x<=65536
 len:(eX x).length<=2^40
theorem TL (x:Sx)(h:OkX x):av C 222 [.agg (cX x)] (λr=>r=.val (.eN [.str (eX x),.int .i64 0])):=by have hc:=Xw x h.nodes h.depth h.atoms;have hk:=TK x h.len (by have :=h.nodes;omega);clear h;cases x;all_goals exact ak Tryz.func222 rfl rfl rfl (cl hc (cm (λh=>absurd rfl h) (λ_=>cl hk rfl)))
def alz (n:Int):Sx:=.atom (Lib.itoa n)
theorem aei (n:Int)(h0:-1099511627776<=n)(h1:n<=1099511627776):av C 284 [.int .i64 n] (λr=>r=.val (.eN [.agg (cX (alz n)),.int .i64 0])):=by exact ak Tryz.func284 rfl rfl rfl ⟨none,aF (λh=>absurd h oO) (λ_=>aF (λh=>absurd h oO) (λ_=>cl (aeh n oO oO) rfl))⟩
def Rg (n:Int):Bytes:=if-1099511627776<=n/\n<=1099511627776 then Lib.itoa n else[]
def dgB (d:Dg):Bytes:=if d=aZ then[]else d.1
abbrev zX:List FV:=[.p (.bool false),.p (.str []),.full []]
def cT (n:Int):Sx:=.atom (Rg n)
def nA (d:Dg):Sx:=.atom (dgB d)
def bU (x:bQ):Sx:=.list [nA x.p,cT x.n]
def sq (l:List bQ):Sx:=.list (l.map bU)
def SG (l:List Bytes):Sx:=.list (l.map Sx.atom)
theorem sr (s:Bytes):av C 224 [.str s] (λr=>r=.val (.agg (cX (.atom s)))):=by exact ak Tryz.func224 rfl rfl rfl rfl
theorem lZ (l:List Sx):av C 223 [.sl (mR l)] (λr=>r=.val (.agg (cX (.list l)))):=by exact ak Tryz.func223 rfl rfl rfl rfl
theorem Xy (n:Int)(h:¬(-1099511627776<=n/\n<=1099511627776)):av C 284 [.int .i64 n] (λr=>r=.val (.eN [.agg (cX (.atom [])),.int .i64 2])):=by refine ak Tryz.func284 rfl rfl rfl ⟨none,aF (λ_=>?_) (λh1=>aF (λ_=>?_) (λh2=>absurd (show-1099511627776<=n/\n<=1099511627776 by omega) h))⟩;exact rfl;exact rfl
theorem qx (n:Int):av C 225 [.int .i64 n] (λr=>r=.val (.agg (cX (cT n)))):=by by_cases h:-1099511627776<=n/\n<=1099511627776;have e:Rg n=Lib.itoa n:=ag h;unfold cT;rw[e];exact ak Tryz.func225 rfl rfl rfl (cl (aei n h.1 h.2) rfl);have e:Rg n=[]:=af h;unfold cT;rw[e];exact ak Tryz.func225 rfl rfl rfl (cl (Xy n h) rfl)
theorem Xz (d:Dg):av C 279 [.agg (cD d)] (λr=>r=.val (.str d.1)):=by refine bu {opens:=[],Nj:=[],full:=false,fzo:=[1]} [] Tryz.func279 rfl rfl rfl ⟨[1],dA (cells:=aH (cD d)) (ys:=cD d) rfl (bI _) rfl ⟨dD,dD,rfl,(by show 32<=32;decide),_,TG d,?_⟩⟩;exact⟨d.1,rfl,rfl⟩
theorem VQ (d:Dg):av C 220 [.agg (cD d)] (λr=>r=.val (.agg (cX (nA d)))):=by refine ak Tryz.func220 rfl rfl rfl (cl (xF d) ?_);unfold nA;by_cases h:d=aZ;have e:dgB d=[]:=ag h;rw[ah h,e];exact cl (sr []) rfl;have e:dgB d=d.1:=af h;rw[ai h,e];exact cl (Xz d) (cl (sr d.1) rfl)
theorem qy (x:bQ):av C 280 [.agg (cI x)] (λr=>r=.val (.agg (cX (bU x)))):=by exact ak Tryz.func280 rfl rfl rfl (bZ 5 kK ⟨_,VQ x.p,cl (qx x.n) (cl (lZ [nA x.p,cT x.n]) rfl)⟩)
theorem cV {α β:Type}{f:α->β}{l:List α}{k:Nat}(h:k<l.length):(l.take (k+1)).map f=(l.take k).map f++[f l[k]]:=by rw[<-gB h,aD];rfl
theorem gT (l:List Sx):∀zs,zs∈mR l->zs.length=3:=by intro zs h;rw[vo]at h;obtain⟨x,-,rfl⟩:=aJ.1 h;exact agV x
theorem vq (a b:List Sx):mR a++mR b=mR (a++b):=by rw[vo,vo,vo,aD]
theorem zS (l:List bQ)(hl:l.length<=2^40):av C 281 [.sl (oZ l)] (λr=>r=.val (.agg (cX (sq l)))):=by
 unfold oZ;refine ak Tryz.func281 rfl rfl rfl (bJ 22 (λk:Nat=>[(0,.p (.sl (l.map cI))),(2,.ptr 2 0),(3,.gd 5 261 3 (mR ((l.take k).map bU))),(4,.p (.int .i64 k))]) (λ_=>[(2,zX)]) (λk=>k<=l.length) (λk=>l.length-k) 0 (zL) rfl wS oS ?_);intro k hk;refine cq (λhlt=>?_) (λhge=>?_);refine ix hlt (cl (qy l[k]) ?_);refine⟨gT _,gT [bU l[k]],by show((mR ((l.take k).map bU)).length+1)*48<=_;rw[rS,aj,aR];omega,mR ((l.take (k+1)).map bU),by rw[cV hlt,<-vq];rfl,?_⟩;exact nx (k+1) (aT (k+1) hlt oO rfl wS oS);obtain rfl:k=l.length:=oO
 rw[aV];exact cl (lZ (l.map bU)) rfl
def qU (c:dw):List Sx:=[cT c.kind]++((if c.kind=1 then[]else if c.kind=7 then[]else[bU c.file])++((if c.kind=1 then[cT c.type]else if c.kind=2 then[bU c.parent,.atom c.name]else if c.kind=3 then[cT c.mode]else if c.kind=4 then[.atom c.data]else if c.kind=5\/c.kind=6 then[bU c.cQ,bU c.dc]else[])++(if c.kind=5 then[SG c.lines]else if c.kind=1 then[]else[sq c.over])))
def mU (c:dw):Sx:=.list (qU c)
theorem bX (a b:List Sx)(ha:a.length<=100)(hb:b.length<=100):((mR a).length+(mR b).length)*48<=140737488355328:=by rw[rS,rS];omega
theorem aej (c:dw)(hk:c.kind=1)(ho:c.over.length<=2^40):av C 221 [.agg (cC c)] (λr=>r=.val (.agg (cX (mU c)))):=by
 cases c with
 |mk kind file type parent name mode data cQ dc lines over=>simp only at hk ho;subst hk;refine ak Tryz.func221 rfl rfl rfl (cl (qx 1) ⟨none,aF (λh=>absurd (show(1:Int)≥2 from h) dD) (λ_=>?_)⟩);refine aC (λ_=>?_) (λh=>absurd (show(1:Int)=1 by decide) h);refine cl (qx type) ⟨gT [cT 1],gT [cT type],bX [cT 1] [cT type] (by simp) (by simp),mR [cT 1,cT type],rfl,?_⟩;refine aC (λh=>absurd (show(1:Int)=5 from h) dD) (λ_=>?_);exact cm (λh=>absurd rfl h) (λ_=>cl (lZ [cT 1,cT type]) rfl)
theorem aek (c:dw)(hk:c.kind=2)(ho:c.over.length<=2^40):av C 221 [.agg (cC c)] (λr=>r=.val (.agg (cX (mU c)))):=by
 cases c with
 |mk kind file type parent name mode data cQ dc lines over=>simp only at hk ho;subst hk;refine ak Tryz.func221 rfl rfl rfl (cl (qx 2) ⟨none,aF (λ_=>?_) (λh=>absurd (show(2:Int)≥2 by decide) h)⟩);refine aF (λ_=>?_) (λh=>absurd (show(2:Int)<=6 by decide) h);refine cl (qy file) ⟨gT [cT 2],gT [bU file],bX [cT 2] [bU file] (by simp) (by simp),mR [cT 2,bU file],rfl,?_⟩;refine aC (λh=>absurd (show(2:Int)=1 from h) dD) (λ_=>?_);refine aC (λ_=>?_) (λh=>absurd (show(2:Int)=2 by decide) h);refine bZ 8 kK ⟨_,qy parent,_,sr name,_,rfl,gT [cT 2,bU file],gT [bU parent,.atom name],bX [cT 2,bU file] [bU parent,.atom name] (by simp) (by simp),mR [cT 2,bU file,bU parent,.atom name],rfl,?_⟩;refine aC (λh=>absurd (show(2:Int)=5 from h) dD) (λ_=>?_);refine cm (λ_=>?_) (λh=>absurd (show(2:Int)=1 from h) dD);refine cl (zS over ho) ⟨gT [cT 2,bU file,bU parent,.atom name],gT [sq over],bX [cT 2,bU file,bU parent,.atom name] [sq over] (by simp) (by simp),mR [cT 2,bU file,bU parent,.atom name,sq over],rfl,?_⟩;exact cl (lZ [cT 2,bU file,bU parent,.atom name,sq over]) rfl
theorem ael (c:dw)(hk:c.kind=3)(ho:c.over.length<=2^40):av C 221 [.agg (cC c)] (λr=>r=.val (.agg (cX (mU c)))):=by
 cases c with
 |mk kind file type parent name mode data cQ dc lines over=>simp only at hk ho;subst hk;refine ak Tryz.func221 rfl rfl rfl (cl (qx 3) ⟨none,aF (λ_=>?_) (λh=>absurd (show(3:Int)≥2 by decide) h)⟩);refine aF (λ_=>?_) (λh=>absurd (show(3:Int)<=6 by decide) h);refine cl (qy file) ⟨gT [cT 3],gT [bU file],bX [cT 3] [bU file] (by simp) (by simp),mR [cT 3,bU file],rfl,?_⟩;refine aC (λh=>absurd (show(3:Int)=1 from h) dD) (λ_=>?_);refine aC (λh=>absurd (show(3:Int)=2 from h) dD) (λ_=>?_);refine aC (λ_=>?_) (λh=>absurd (show(3:Int)=3 by decide) h);refine cl (qx mode) ⟨gT [cT 3,bU file],gT [cT mode],bX [cT 3,bU file] [cT mode] (by simp) (by simp),mR [cT 3,bU file,cT mode],rfl,?_⟩;refine aC (λh=>absurd (show(3:Int)=5 from h) dD) (λ_=>?_);refine cm (λ_=>?_) (λh=>absurd (show(3:Int)=1 from h) dD);refine cl (zS over ho) ⟨gT [cT 3,bU file,cT mode],gT [sq over],bX [cT 3,bU file,cT mode] [sq over] (by simp) (by simp),mR [cT 3,bU file,cT mode,sq over],rfl,?_⟩;exact cl (lZ [cT 3,bU file,cT mode,sq over]) rfl
theorem aem (c:dw)(hk:c.kind=4)(ho:c.over.length<=2^40):av C 221 [.agg (cC c)] (λr=>r=.val (.agg (cX (mU c)))):=by
 cases c with
 |mk kind file type parent name mode data cQ dc lines over=>simp only at hk ho;subst hk;refine ak Tryz.func221 rfl rfl rfl (cl (qx 4) ⟨none,aF (λ_=>?_) (λh=>absurd (show(4:Int)≥2 by decide) h)⟩);refine aF (λ_=>?_) (λh=>absurd (show(4:Int)<=6 by decide) h);refine cl (qy file) ⟨gT [cT 4],gT [bU file],bX [cT 4] [bU file] (by simp) (by simp),mR [cT 4,bU file],rfl,?_⟩;refine aC (λh=>absurd (show(4:Int)=1 from h) dD) (λ_=>?_);refine aC (λh=>absurd (show(4:Int)=2 from h) dD) (λ_=>?_);refine aC (λh=>absurd (show(4:Int)=3 from h) dD) (λ_=>?_);refine aC (λ_=>?_) (λh=>absurd (show(4:Int)=4 by decide) h);refine cl (sr data) ⟨gT [cT 4,bU file],gT [.atom data],bX [cT 4,bU file] [.atom data] (by simp) (by simp),mR [cT 4,bU file,.atom data],rfl,?_⟩;refine aC (λh=>absurd (show(4:Int)=5 from h) dD) (λ_=>?_);refine cm (λ_=>?_) (λh=>absurd (show(4:Int)=1 from h) dD);refine cl (zS over ho) ⟨gT [cT 4,bU file,.atom data],gT [sq over],bX [cT 4,bU file,.atom data] [sq over] (by simp) (by simp),mR [cT 4,bU file,.atom data,sq over],rfl,?_⟩;exact cl (lZ [cT 4,bU file,.atom data,sq over]) rfl
theorem aen (c:dw)(hk:c.kind=5)(ho:c.lines.length<=2^40):av C 221 [.agg (cC c)] (λr=>r=.val (.agg (cX (mU c)))):=by
 cases c with
 |mk kind file type parent name mode data cQ dc lines over=>
  simp only at hk ho;subst hk;refine ak Tryz.func221 rfl rfl rfl (cl (qx 5) ⟨none,aF (λ_=>?_) (λh=>absurd (show(5:Int)≥2 by decide) h)⟩);refine aF (λ_=>?_) (λh=>absurd (show(5:Int)<=6 by decide) h);refine cl (qy file) ⟨gT [cT 5],gT [bU file],bX [cT 5] [bU file] (by simp) (by simp),mR [cT 5,bU file],rfl,?_⟩;refine aC (λh=>absurd (show(5:Int)=1 from h) dD) (λ_=>?_);refine aC (λh=>absurd (show(5:Int)=2 from h) dD) (λ_=>?_);refine aC (λh=>absurd (show(5:Int)=3 from h) dD) (λ_=>?_);refine aC (λh=>absurd (show(5:Int)=4 from h) dD) (λ_=>?_);refine aC (λ_=>?_) (λh=>absurd (show(5:Int)=5 by decide) h);refine bZ 8 kK ⟨_,qy cQ,_,qy dc,_,rfl,gT [cT 5,bU file],gT [bU cQ,bU dc],bX [cT 5,bU file] [bU cQ,bU dc] (by simp) (by simp),mR [cT 5,bU file,bU cQ,bU dc],rfl,?_⟩;refine aC (λ_=>?_) (λh=>absurd (show(5:Int)=5 by decide) h);refine bJ 109 (λk:Nat=>[(1,.ptr 1 0),(2,.ptr 2 0),(3,.gd 9 261 3 (mR [cT 5,bU file,bU cQ,bU dc])),(4,.gd 76 261 3 (mR ((lines.take k).map Sx.atom))),(5,.p (.int .i64 k))]) (λ_=>[(1,aH (cC ⟨5,file,type,parent,name,mode,data,cQ,dc,lines,over⟩)),(2,zX)]) (λk=>k<=lines.length) (λk=>lines.length-k) 0 (zL) rfl wS oS ?_;intro k hk;refine cq (l:=lines) (f:=mL) (λhlt=>?_) (λhge=>?_);refine ix hlt (cl (sr lines[k]) ?_);refine⟨gT _,gT [.atom lines[k]],by show((mR ((lines.take k).map Sx.atom)).length+1)*48<=_;rw[rS,aj,aR];omega,mR ((lines.take (k+1)).map Sx.atom),by rw[cV hlt,<-vq];rfl,?_⟩;exact nx (k+1) (aT (k+1) hlt oO rfl wS oS);obtain rfl:k=lines.length:=oO
  rw[aV];refine cl (lZ (lines.map Sx.atom)) ⟨gT [cT 5,bU file,bU cQ,bU dc],gT [SG lines],bX [cT 5,bU file,bU cQ,bU dc] [SG lines] (by simp) (by simp),mR [cT 5,bU file,bU cQ,bU dc,SG lines],rfl,?_⟩;exact cl (lZ [cT 5,bU file,bU cQ,bU dc,SG lines]) rfl
theorem aeo (c:dw)(hk:c.kind=6)(ho:c.over.length<=2^40):av C 221 [.agg (cC c)] (λr=>r=.val (.agg (cX (mU c)))):=by
 cases c with
 |mk kind file type parent name mode data cQ dc lines over=>simp only at hk ho;subst hk;refine ak Tryz.func221 rfl rfl rfl (cl (qx 6) ⟨none,aF (λ_=>?_) (λh=>absurd (show(6:Int)≥2 by decide) h)⟩);refine aF (λ_=>?_) (λh=>absurd (show(6:Int)<=6 by decide) h);refine cl (qy file) ⟨gT [cT 6],gT [bU file],bX [cT 6] [bU file] (by simp) (by simp),mR [cT 6,bU file],rfl,?_⟩;refine aC (λh=>absurd (show(6:Int)=1 from h) dD) (λ_=>?_);refine aC (λh=>absurd (show(6:Int)=2 from h) dD) (λ_=>?_);refine aC (λh=>absurd (show(6:Int)=3 from h) dD) (λ_=>?_);refine aC (λh=>absurd (show(6:Int)=4 from h) dD) (λ_=>?_);refine aC (λh=>absurd (show(6:Int)=5 from h) dD) (λ_=>?_);refine aC (λ_=>?_) (λh=>absurd (show(6:Int)=6 by decide) h);refine bZ 8 kK ⟨_,qy cQ,_,qy dc,_,rfl,gT [cT 6,bU file],gT [bU cQ,bU dc],bX [cT 6,bU file] [bU cQ,bU dc] (by simp) (by simp),mR [cT 6,bU file,bU cQ,bU dc],rfl,?_⟩;refine aC (λh=>absurd (show(6:Int)=5 from h) dD) (λ_=>?_);refine cm (λ_=>?_) (λh=>absurd (show(6:Int)=1 from h) dD);refine cl (zS over ho) ⟨gT [cT 6,bU file,bU cQ,bU dc],gT [sq over],bX [cT 6,bU file,bU cQ,bU dc] [sq over] (by simp) (by simp),mR [cT 6,bU file,bU cQ,bU dc,sq over],rfl,?_⟩;exact cl (lZ [cT 6,bU file,bU cQ,bU dc,sq over]) rfl
theorem aep (c:dw)(hk:c.kind=7)(ho:c.over.length<=2^40):av C 221 [.agg (cC c)] (λr=>r=.val (.agg (cX (mU c)))):=by
 cases c with
 |mk kind file type parent name mode data cQ dc lines over=>simp only at hk ho;subst hk;refine ak Tryz.func221 rfl rfl rfl (cl (qx 7) ⟨none,aF (λ_=>?_) (λh=>absurd (show(7:Int)≥2 by decide) h)⟩);refine aF (λh=>absurd (show(7:Int)<=6 from h) dD) (λ_=>?_);refine aC (λh=>absurd (show(7:Int)=1 from h) dD) (λ_=>?_);refine aC (λh=>absurd (show(7:Int)=2 from h) dD) (λ_=>?_);refine aC (λh=>absurd (show(7:Int)=3 from h) dD) (λ_=>?_);refine aC (λh=>absurd (show(7:Int)=4 from h) dD) (λ_=>?_);refine aC (λh=>absurd (show(7:Int)=5 from h) dD) (λ_=>?_);refine aC (λh=>absurd (show(7:Int)=6 from h) dD) (λ_=>?_);refine aC (λh=>absurd (show(7:Int)=5 from h) dD) (λ_=>?_);refine cm (λ_=>?_) (λh=>absurd (show(7:Int)=1 from h) dD);refine cl (zS over ho) ⟨gT [cT 7],gT [sq over],bX [cT 7] [sq over] (by simp) (by simp),mR [cT 7,sq over],rfl,?_⟩;exact cl (lZ [cT 7,sq over]) rfl
theorem aeq (c:dw)(h1:1<=c.kind)(h7:c.kind<=7)(hl:c.lines.length<=2^40)(ho:c.over.length<=2^40):av C 221 [.agg (cC c)] (λr=>r=.val (.agg (cX (mU c)))):=by by_cases e1:c.kind=1;exact aej c e1 ho;by_cases e2:c.kind=2;exact aek c e2 ho;by_cases e3:c.kind=3;exact ael c e3 ho;by_cases e4:c.kind=4;exact aem c e4 ho;by_cases e5:c.kind=5;exact aen c e5 hl;by_cases e6:c.kind=6;exact aeo c e6 ho;exact aep c oO ho
def q1B:Bytes:=[113,117,105,108,116,49]
def kC (p:gr):Sx:=.list [.atom q1B,.atom p.fQ,.atom p.message,cT p.time,.list (p.deps.map nA),.list (p.changes.map mU)]
def aer (p:gr):AV:=if(eX (kC p)).length<=65536 then .eN [.str (eX (kC p)),.int .i64 0]else .eN [.str [],.int .i64 4]
theorem aes (p:gr)(hx:OkX (kC p))(hd:p.deps.length<=2^40)(hc:p.changes.length<=2^40)(hk:∀c,c∈p.changes->1<=c.kind/\c.kind<=7/\c.lines.length<=2^40/\c.over.length<=2^40):av C 153 [.agg (cP p)] (λr=>r=.val (aer p)):=by
 refine ak Tryz.func153 rfl rfl rfl (bJ 72 (λk:Nat=>[(1,.ptr 1 0),(4,.gd 10 261 3 (mR ((p.deps.take k).map nA))),(5,.gd 11 261 3 []),(6,.p (.int .i64 k))]) (λ_=>[(1,aH (cP p))]) (λk=>k<=p.deps.length) (λk=>p.deps.length-k) 0 (zL) rfl wS oS ?_);intro k hk1;refine cq (l:=p.deps) (f:=cD) (λhlt=>?_) (λhge=>?_);refine ix hlt (cl (VQ p.deps[k]) ?_);refine⟨gT _,gT [nA p.deps[k]],by show((mR ((p.deps.take k).map nA)).length+1)*48<=_;rw[rS,aj,aR];omega,mR ((p.deps.take (k+1)).map nA),by rw[cV hlt,<-vq];rfl,?_⟩;exact nx (k+1) (aT (k+1) hlt oO rfl wS oS);obtain rfl:k=p.deps.length:=oO
 rw[aV];refine bJ 72 (λk:Nat=>[(1,.ptr 1 0),(4,.gd 10 261 3 (mR (p.deps.map nA))),(5,.gd 11 261 3 (mR ((p.changes.take k).map mU))),(7,.p (.int .i64 k))]) (λ_=>[(1,aH (cP p))]) (λk=>k<=p.changes.length) (λk=>p.changes.length-k) 0 (zL) rfl wS oS ?_;intro k hk2;refine cq (l:=p.changes) (f:=cC) (λhlt=>?_) (λhge=>?_);obtain⟨g1,g2,g3,g4⟩:=hk p.changes[k] (aQ _);refine ix hlt (cl (aeq p.changes[k] g1 g2 g3 g4) ?_);refine⟨gT _,gT [mU p.changes[k]],by show((mR ((p.changes.take k).map mU)).length+1)*48<=_;rw[rS,aj,aR];omega,mR ((p.changes.take (k+1)).map mU),by rw[cV hlt,<-vq];rfl,?_⟩;exact nx (k+1) (aT (k+1) hlt oO rfl wS oS);obtain rfl:k=p.changes.length:=oO
 rw[aV];refine bZ 21 kK ⟨_,sr q1B,_,sr p.fQ,_,sr p.message,_,qx p.time,_,lZ (p.deps.map nA),_,lZ (p.changes.map mU),_,rfl,_,lZ [.atom q1B,.atom p.fQ,.atom p.message,cT p.time,.list (p.deps.map nA),.list (p.changes.map mU)],_,TL (kC p) hx,none,cm (λh=>absurd rfl h) (λ_=>?_)⟩;have hl:=hx.len;refine aF (λh=>?_) (λh=>?_);have :¬(eX (kC p)).length<=65536:=by have :((eX (kC p)).length:Int)>65536:=h;omega
 show dJ.val _=_;unfold aer;rw[af this];have :(eX (kC p)).length<=65536:=by have :¬((eX (kC p)).length:Int)>65536:=h;omega
 show dJ.val _=_;unfold aer;rw[ag this]
def aP:bQ:=⟨aZ,0⟩
def iS:bQ:=⟨aZ,-1⟩
theorem nu:av C 341 [] (λr=>r=.val (.agg (cI aP))):=by exact ak Tryz.func341 rfl rfl rfl rfl
theorem DT:av C 135 [] (λr=>r=.val (.agg (cI iS))):=by exact ak Tryz.func135 rfl rfl rfl rfl
def sI (x:bQ)(first:Int):Bool:=if x.p=aZ then decide (0<=x.n)&&decide (x.n<first)else decide (0<=x.n)&&decide (x.n<100000)
theorem aaV (x:bQ)(first:Int):av C 342 [.agg (cI x),.int .i64 first] (λr=>r=.val (.bool (sI x first))):=by refine ak Tryz.func342 rfl rfl rfl (cl (xF x.p) ?_);unfold sI;by_cases h:x.p=aZ;rw[ah h,ag h];refine⟨none,aF (λh1=>?_) (λh1=>?_)⟩;have h1:0<=x.n:=h1;refine aF (λh2=>?_) (λh2=>?_);have h2:x.n<first:=h2;show dJ.val (.bool true)=_;simp[h1,h2];have h2:¬x.n<first:=h2;show dJ.val (.bool false)=_;simp[h2];have h1:¬0<=x.n:=h1;show dJ.val (.bool false)=_;simp[h1];rw[ai h,af h];refine⟨none,aF (λh1=>?_) (λh1=>?_)⟩;have h1:0<=x.n:=h1;refine aF (λh2=>?_) (λh2=>?_);have h2:x.n<100000:=h2;show dJ.val (.bool true)=_;simp[h1,h2];have h2:¬x.n<100000:=h2;show dJ.val (.bool false)=_;simp[h2];have h1:¬0<=x.n:=h1;show dJ.val (.bool false)=_;simp[h1]
def fC (k:Int):Bool:=decide (k=5)||decide (k=6)
theorem Og (k:Int):av C 292 [.int .i64 k] (λr=>r=.val (.bool (fC k))):=by refine ak Tryz.func292 rfl rfl rfl ⟨none,aC (λh=>?_) (λh=>aC (λh2=>?_) (λh2=>?_))⟩;show dJ.val (.bool true)=_;simp[fC,h];show dJ.val (.bool true)=_;simp[fC,h2];show dJ.val (.bool false)=_;simp[fC,h,h2]
def zT (k:Int):Int:=if k=7 then 0 else k
theorem VR (k:Int):av C 293 [.int .i64 k] (λr=>r=.val (.int .i64 (zT k))):=by refine ak Tryz.func293 rfl rfl rfl (aC (λh=>?_) (λh=>?_));show dJ.val _=_;rw[zT,ag h];show dJ.val _=_;rw[zT,af h]
def fk (file:bQ)(x:bR):Bool:=decide (x.kind=5)&&decide (x.file=file)
theorem IX (file:bQ)(x:bR):av C 136 [.agg (cI file),.agg (cA x)] (λr=>r=.val (.bool (fk file x))):=by refine ak Tryz.func136 rfl rfl rfl ⟨none,aC (λh=>?_) (λh=>?_)⟩;refine pW (jw (a:=x.file) (b:=file) ?_);show dJ.val _=_;simp[fk,h];show dJ.val (.bool false)=_;simp[fk,h]
def dR (kind:Int)(file:bQ)(x:bR):Bool:=decide (zT kind=0)||(decide (x.kind=zT kind)&&decide (x.file=file))
theorem Rh (kind:Int)(file:bQ)(x:bR):av C 247 [.int .i64 kind,.agg (cI file),.agg (cA x)] (λr=>r=.val (.bool (dR kind file x))):=by refine ak Tryz.func247 rfl rfl rfl (bZ 16 kK ⟨_,VR kind,aC (λh=>?_) (λh=>?_)⟩);show dJ.val (.bool true)=_;simp[dR,h];refine⟨_,VR kind,aC (λh2=>?_) (λh2=>?_)⟩;refine pW (jw (a:=x.file) (b:=file) ?_);show dJ.val _=_;simp[dR,h,h2];show dJ.val (.bool false)=_;simp[dR,h,h2]
def bg (kind:Int)(x:bR):Bool:=decide (x.kind=1)&&(if fC kind=true then decide (x.type=1)else decide (kind≠4)||decide (x.type=2)||decide (x.type=3))
theorem Ri (kind:Int)(x:bR):av C 244 [.int .i64 kind,.agg (cA x)] (λr=>r=.val (.bool (bg kind x))):=by
 refine ak Tryz.func244 rfl rfl rfl (cm (λh=>?_) (λh=>?_));show dJ.val (.bool false)=_;simp[bg,h];refine cl (Og kind) ?_;cases ht:fC kind with
 |true=>refine aC (λh2=>?_) (λh2=>?_);show dJ.val (.bool true)=_;simp[bg,h,ht,h2];show dJ.val (.bool false)=_;simp[bg,h,ht,h2]
 |false=>refine⟨none,cm (λh2=>?_) (λh2=>?_)⟩;show dJ.val (.bool true)=_;simp[bg,h,ht,h2];refine aC (λh3=>?_) (λh3=>?_);show dJ.val (.bool true)=_;simp[bg,h,ht,h3];refine aC (λh4=>?_) (λh4=>?_);show dJ.val (.bool true)=_;simp[bg,h,ht,h4];show dJ.val (.bool false)=_;have ht4:fC 4=false:=rfl;simp[bg,h,ht4,h2,h3,h4]
def dK:bR:=⟨aP,0,aP,0,aP,[],0,[],[],aP,aP,[]⟩
def lM (own:List bR)(x:bQ):bR:=if x.p=aZ/\0<=x.n/\x.n<own.length then own.getD x.n.toNat dK else dK
theorem Oh (own:List bR)(x:bQ)(hl:own.length<=2^47):av C 309 [.sl (gI own),.agg (cI x)] (λr=>r=.val (.agg (cA (lM own x)))):=by
 unfold gI;refine ak Tryz.func309 rfl rfl rfl ⟨none,cl (xF x.p) ?_⟩;have no:¬(x.p=aZ/\0<=x.n/\x.n<own.length)->dJ.val (.agg (cA dK))=dJ.val (.agg (cA (lM own x))):=λh=>by rw[lM,af h]
 by_cases h:x.p=aZ;rotate_left;rw[ai h];exact no λh2=>h h2.1;rw[ah h];refine aF (λh1=>?_) (λh1=>?_);rotate_left;exact no λh2=>h1 h2.2.1;have h1:0<=x.n:=h1;obtain⟨n,hn⟩:=lC h1;refine aF (λh2=>?_) (λh2=>?_);rotate_left;refine no λh3=>h2 ?_;show x.n<((own.map cA).length:Int);rw[aj];exact h3.2.2;have h2:x.n<((own.map cA).length:Int):=h2;rw[aj]at h2;have hlt:n<own.length:=oO
 have hg:lM own x=own[n]:=by rw[lM,ag ⟨h,h1,h2⟩,hn];simp[List.getD,hlt]
 rw[hg];refine⟨h1,_,by rw[hn];exact eC rfl hlt,rfl,?_⟩;exact rfl
def pY (x:bQ)(n:Nat)(fits:Bool):Int:=if sI x n=true then(if x.p=aZ/\fits=false then 8 else 0)else 7
theorem Cg (x:bQ)(own:List bR)(fits:Bool):av C 308 [.agg (cI x),.sl (gI own),.bool fits] (λr=>r=.val (.int .i64 (pY x own.length fits))):=by
 have hl:((gI own).length:Int)=(own.length:Int):=by simp[gI]
 refine ak Tryz.func308 rfl rfl rfl ⟨_,aaV x ((gI own).length:Int),λr hr=>?_⟩;rw[hl]at hr;subst hr;refine bF ?_;unfold pY;cases ha:sI x own.length with
 |false=>exact rfl
 |true=>
  rw[ag rfl];refine⟨none,cl (xF x.p) ?_⟩;by_cases h:x.p=aZ;rw[ah h];refine bF ?_;cases fits with
  |true=>rw[af (by simp)];exact rfl
  |false=>rw[ag ⟨h,rfl⟩];exact rfl
  rw[ai h,af λe=>h e.1];exact rfl
end Qv
open Go Go.RowKit
namespace Qv
def tY (a b:Nat):Nat:=(a+b)%4294967296
def Va (a k:Nat):Nat:=(a*2^k)%4294967296
def Hf (a k:Nat):Nat:=Nat.lor (a/2^k) (Va a (32-k))
def fce {α:Type}(n:Nat)(k:Nat->α):α:=match n with|0=>k 0|m+1=>k (m+1)
theorem FI {α:Type}(n:Nat)(k:Nat->α):fce n k=k n:=by cases n<;>rfl
theorem wrap32 {n:Nat}(h:n<4294967296):IntKind.u32.wrap (n:Int)=n:=by simp[IntKind.wrap,IntKind.bits,IntKind.signed];omega
theorem Bb {n:Nat}:BitVec.ofInt 32 (n:Int)=BitVec.ofNat 32 n:=by simp
theorem yM {a b:Nat}(ha:a<4294967296)(hb:b<4294967296):x32 a b=(Nat.xor a b:Nat):=by have h:Nat.xor a b<2^32:=Nat.xor_lt_two_pow oO oO;show IntKind.u32.wrap (((BitVec.ofInt 32 (a:Int)^^^BitVec.ofInt 32 (b:Int)).toNat:Nat):Int)=_;rw[Bb,Bb,BitVec.toNat_xor,qQ,qQ,mG oO,mG oO];exact wrap32 oO
theorem Sy {a b:Nat}(ha:a<4294967296)(hb:b<4294967296):a32 a b=(Nat.land a b:Nat):=by have h:Nat.land a b<2^32:=Nat.and_lt_two_pow a oO;show IntKind.u32.wrap (((BitVec.ofInt 32 (a:Int)&&&BitVec.ofInt 32 (b:Int)).toNat:Nat):Int)=_;rw[Bb,Bb,BitVec.toNat_and,qQ,qQ,mG oO,mG oO];exact wrap32 oO
theorem Wo {a b:Nat}(ha:a<4294967296)(hb:b<4294967296):Cb a b=(Nat.lor a b:Nat):=by have h:Nat.lor a b<2^32:=DN oO oO;show IntKind.u32.wrap (((BitVec.ofInt 32 (a:Int)|||BitVec.ofInt 32 (b:Int)).toNat:Nat):Int)=_;rw[Bb,Bb,BitVec.toNat_or,qQ,qQ,mG oO,mG oO];exact wrap32 oO
theorem ajL {a:Nat}(ha:a<4294967296):n32 a=(Nat.xor 4294967295 a:Nat):=yM (a:=4294967295) dD ha
theorem kA (a b:Nat):oL a b=(tY a b:Nat):=by show IntKind.u32.wrap ((a:Int)+(b:Int))=_;simp[IntKind.wrap,IntKind.bits,IntKind.signed,tY]
theorem HE {a k:Nat}(hk:k<=32):Bx a (k:Int)=(a/2^k:Nat):=by show(a:Int).fdiv (2^(min (k:Int).toNat 32))=_;rw[jG,xX hk,DM _ (Int.le_of_lt (Int.pow_pos dD)),Int.natCast_ediv,Int.natCast_pow];rfl
theorem HF {a k:Nat}(hk:k<=32):jy a (k:Int)=(Va a k:Nat):=by show IntKind.u32.wrap ((a:Int)*2^(min (k:Int).toNat 32))=_;rw[jG,xX hk];simp[IntKind.wrap,IntKind.bits,IntKind.signed,Va]
theorem qR (a b:Nat):tY a b<4294967296:=oc _ dD
theorem oy (a k:Nat):Va a k<4294967296:=oc _ dD
theorem FJ {a b:Nat}(ha:a<4294967296)(hb:b<4294967296):Nat.xor a b<4294967296:=Nat.xor_lt_two_pow (n:=32) oO oO
theorem yp {a b:Nat}(hb:b<4294967296):Nat.land a b<4294967296:=Nat.and_lt_two_pow (n:=32) a oO
theorem CG {a b:Nat}(ha:a<4294967296)(hb:b<4294967296):Nat.lor a b<4294967296:=DN (n:=32) oO oO
theorem Pe {a:Nat}(k:Nat)(ha:a<4294967296):a/2^k<4294967296:=Nat.lt_of_le_of_lt (Nat.div_le_self _ _) ha
theorem kB {a:Nat}(k:Nat)(ha:a<4294967296):Hf a k<4294967296:=CG (Pe k ha) (oy _ _)
theorem rW {a k:Nat}(ha:a<4294967296)(hk:k<=32):vj a (k:Int)=(Hf a k:Nat):=by
 show Cb (Bx a (k:Int)) (jy a (32-(k:Int)))=_;have e:(32:Int)-(k:Int)=((32-k:Nat):Int):=oO
 rw[e,HE hk,HF oO,Wo (Pe k ha) (oy _ _)];rfl
def w1N (b:List Nat)(t:Nat):Nat:=Nat.lor (Nat.lor (Nat.lor (Va (b.getD (4*t) 0) 24) (Va (b.getD (4*t+1) 0) 16)) (Va (b.getD (4*t+2) 0) 8)) (b.getD (4*t+3) 0)
def w2N (x2 x7 x15 x16:Nat):Nat:=tY (tY (tY (Nat.xor (Nat.xor (Hf x2 17) (Hf x2 19)) (x2/2^10)) x7) (Nat.xor (Nat.xor (Hf x15 7) (Hf x15 18)) (x15/2^3))) x16
theorem HG (b:Bytes)(i:Nat):yF b i=((b.map UInt8.toNat).getD i 0:Nat):=by unfold yF;rw[dr,dr,aM];cases b[i]?<;>rfl
theorem Wp (b:Bytes)(i:Nat):(b.map UInt8.toNat).getD i 0<4294967296:=by
 rw[dr,aM];cases b[i]?with
 |none=>decide
 |some x=>have :=x.toNat_lt;show x.toNat<_;omega
theorem amb (b:Bytes)(t:Nat):w1F b t=(w1N (b.map UInt8.toNat) t:Nat):=by unfold w1F w1N;rw[HG,HG,HG,HG,show(24:Int)=((24:Nat):Int)from rfl,show(16:Int)=((16:Nat):Int)from rfl,show(8:Int)=((8:Nat):Int)from rfl,HF dD,HF dD,HF dD,Wo (oy _ _) (oy _ _),Wo (CG (oy _ _) (oy _ _)) (oy _ _),Wo (CG (CG (oy _ _) (oy _ _)) (oy _ _)) (Wp _ _)]
theorem ajM (b:Bytes)(t:Nat):w1N (b.map UInt8.toNat) t<4294967296:=CG (CG (CG (oy _ _) (oy _ _)) (oy _ _)) (Wp _ _)
theorem amc {f:Nat->Int}{t x2 x7 x15 x16:Nat}(h2:f (t-2)=(x2:Nat))(h7:f (t-7)=(x7:Nat))(h15:f (t-15)=(x15:Nat))(h16:f (t-16)=(x16:Nat))(l2:x2<4294967296)(l15:x15<4294967296):YX f t=(w2N x2 x7 x15 x16:Nat):=by unfold YX w2N;rw[h2,h7,h15,h16,show(17:Int)=((17:Nat):Int)from rfl,show(19:Int)=((19:Nat):Int)from rfl,show(10:Int)=((10:Nat):Int)from rfl,show(7:Int)=((7:Nat):Int)from rfl,show(18:Int)=((18:Nat):Int)from rfl,show(3:Int)=((3:Nat):Int)from rfl,rW l2 dD,rW l2 dD,HE dD,rW l15 dD,rW l15 dD,HE dD,yM (kB _ l2) (kB _ l2),yM (FJ (kB _ l2) (kB _ l2)) (Pe _ l2),yM (kB _ l15) (kB _ l15),yM (FJ (kB _ l15) (kB _ l15)) (Pe _ l15),kA,kA,kA]
def YD (b:List Nat):Nat->List Nat|0=>[]|t+1=>fce (w1N b t) λx=>x::YD b t
def YE:Nat->List Nat->List Nat|0,l=>l|n+1,l=>fce (w2N (l.getD 1 0) (l.getD 6 0) (l.getD 14 0) (l.getD 15 0)) λx=>YE n (x::l)
structure WOk (b:Bytes)(t:Nat)(l:List Nat):Prop where
 len:l.length=t
 at_:∀i,i<t->qY b t i=((l.getD (t-1-i) 0:Nat):Int)
 lt:∀i,l.getD i 0<4294967296
theorem Sz {b:Bytes}{t:Nat}{l:List Nat}(h:WOk b t l){x:Nat}(hx:x<4294967296)(hv:(if t<16 then w1F b t else YX (qY b t) t)=(x:Int)):WOk b (t+1) (x::l):=by
 refine⟨by rw[aW,h.len],λi hi=>?_,λi=>?_⟩;show pX (qY b t) t _ i=_;by_cases e:i=t;subst e;rw[qu,hv];simp;rw[tL _ _ _ i e,h.at_ i oO];have :t+1-1-i=(t-1-i)+1:=oO
 rw[this];rfl;cases i with
 |zero=>exact hx
 |succ i=>exact h.lt i
theorem Wq (b:Bytes):∀t,t<=16->WOk b t (YD (b.map UInt8.toNat) t)|0,_=>⟨rfl,λi hi=>absurd hi (jL _),λi=>by show([]:List Nat).getD i 0<_;simp⟩|t+1,ht=>by unfold YD;rw[FI];refine Sz (Wq b t oO) (ajM b t) ?_;rw[ag oO];exact amb b t
theorem Wr (b:Bytes):∀n t l,16<=t->WOk b t l->WOk b (t+n) (YE n l)
 |0,t,l,_,h=>h
 |n+1,t,l,ht,h=>by
  unfold YE;rw[FI];have :=Wr b n (t+1) (w2N (l.getD 1 0) (l.getD 6 0) (l.getD 14 0) (l.getD 15 0)::l) oO ?_;rw[show t+(n+1)=t+1+n from oO];exact this;refine Sz h (qR _ _) ?_;rw[af oO];have g:∀k,k<t->0<k->qY b t (t-k)=((l.getD (k-1) 0:Nat):Int):=λk hk h0=>by rw[h.at_ (t-k) oO];congr 2;omega
  refine amc (g 2 oO dD) (g 7 oO dD) (g 15 oO dD) ?_ (h.lt 1) (h.lt 14);by_cases e:t=16;subst e;rw[h.at_ (16-16) dD];exact g 16 oO dD
theorem Ws {α:Type}{l:List α}{i:Nat}{d:α}(h:i<l.length):l.getD i d=l[i]:=by rw[dr,ay h];rfl
def t1N (e f g h k w:Nat):Nat:=tY (tY (tY (tY h (Nat.xor (Nat.xor (Hf e 6) (Hf e 11)) (Hf e 25))) (Nat.xor (Nat.land e f) (Nat.land (Nat.xor 4294967295 e) g))) k) w
def t2N (a b c:Nat):Nat:=tY (Nat.xor (Nat.xor (Hf a 2) (Hf a 13)) (Hf a 22)) (Nat.xor (Nat.xor (Nat.land a b) (Nat.land a c)) (Nat.land b c))
def runN:List Nat->List Nat->Nat->Nat->Nat->Nat->Nat->Nat->Nat->Nat->List Nat|k::ks,w::ws,a,b,c,d,e,f,g,h=>fce (t1N e f g h k w) λt1=>fce (tY t1 (t2N a b c)) λa'=>fce (tY d t1) λe'=>runN ks ws a' a b c e' e f g|_,_,a,b,c,d,e,f,g,h=>[a,b,c,d,e,f,g,h]
theorem amd {v:Nat->Int}{e f g h k w:Nat}(h4:v 4=(e:Nat))(h5:v 5=(f:Nat))(h6:v 6=(g:Nat))(h7:v 7=(h:Nat))(le:e<4294967296)(lf:f<4294967296)(lg:g<4294967296):t1F v k w=(t1N e f g h k w:Nat):=by unfold t1F t1N;rw[h4,h5,h6,h7,show(6:Int)=((6:Nat):Int)from rfl,show(11:Int)=((11:Nat):Int)from rfl,show(25:Int)=((25:Nat):Int)from rfl,rW le dD,rW le dD,rW le dD,yM (kB _ le) (kB _ le),yM (FJ (kB _ le) (kB _ le)) (kB _ le),Sy le lf,ajL le,Sy (FJ dD le) lg,yM (yp lf) (yp lg),kA,kA,kA,kA]
theorem ame {v:Nat->Int}{a b c:Nat}(h0:v 0=(a:Nat))(h1:v 1=(b:Nat))(h2:v 2=(c:Nat))(la:a<4294967296)(lb:b<4294967296)(lc:c<4294967296):t2F v=(t2N a b c:Nat):=by unfold t2F t2N;rw[h0,h1,h2,show(2:Int)=((2:Nat):Int)from rfl,show(13:Int)=((13:Nat):Int)from rfl,show(22:Int)=((22:Nat):Int)from rfl,rW la dD,rW la dD,rW la dD,yM (kB _ la) (kB _ la),yM (FJ (kB _ la) (kB _ la)) (kB _ la),Sy la lb,Sy la lc,Sy lb lc,yM (yp lb) (yp lc),yM (FJ (yp lb) (yp lc)) (yp lc),kA]
structure EOk (v:Nat->Int)(a b c d e f g h:Nat):Prop where
 v0:v 0=(a:Nat)
 v1:v 1=(b:Nat)
 v2:v 2=(c:Nat)
 v3:v 3=(d:Nat)
 v4:v 4=(e:Nat)
 v5:v 5=(f:Nat)
 v6:v 6=(g:Nat)
 v7:v 7=(h:Nat)
 l0:a<4294967296
 l1:b<4294967296
 l2:c<4294967296
 l4:e<4294967296
 l5:f<4294967296
 l6:g<4294967296
 l3:d<4294967296
 l7:h<4294967296
theorem afn {v:Nat->Int}{a b c d e f g h:Nat}(E:EOk v a b c d e f g h)(k w:Nat):EOk (agR v k w) (tY (t1N e f g h k w) (t2N a b c)) a b c (tY d (t1N e f g h k w)) e f g:=by have e1:=amd (k:=k) (w:=w) E.v4 E.v5 E.v6 E.v7 E.l4 E.l5 E.l6;have e2:=ame E.v0 E.v1 E.v2 E.l0 E.l1 E.l2;refine⟨?_,E.v0,E.v1,E.v2,?_,E.v4,E.v5,E.v6,qR _ _,E.l0,E.l1,qR _ _,E.l4,E.l5,E.l2,E.l6⟩;show oL (t1F v k w) (t2F v)=_;rw[e1,e2,kA];show oL (v 3) (t1F v k w)=_;rw[e1,E.v3,kA]
def kN:List Nat:=kL.map Int.toNat
theorem amf:∀t,t<64->kF t=(kN.getD t 0:Nat):=dD
theorem Wt (h w:Nat->Int)(ws:List Nat)(hw:ws.length=64)(hws:∀i,i<64->w i=(ws.getD i 0:Nat)):∀n t a b c d e f g z,t+n=64->EOk (vS h w t) a b c d e f g z->∃a' b' c' d' e' f' g' z',runN (kN.drop t) (ws.drop t) a b c d e f g z=[a',b',c',d',e',f',g',z']/\EOk (vS h w 64) a' b' c' d' e' f' g' z'
 |0,t,a,b,c,d,e,f,g,z,ht,E=>by
  obtain rfl:t=64:=oO
  refine⟨a,b,c,d,e,f,g,z,?_,E⟩;rw[cZ (by show kN.length<=64;decide)];rfl
 |n+1,t,a,b,c,d,e,f,g,z,ht,E=>by
  have hk:t<kN.length:=by show t<64;omega
  have hw':t<ws.length:=oO
  rw[bY hk,bY hw'];unfold runN;rw[FI,FI,FI];refine Wt h w ws hw hws n (t+1) _ _ _ _ _ _ _ _ oO ?_;show EOk (agR (vS h w t) (kF t) (w t)) _ _ _ _ _ _ _ _;rw[amf t oO,hws t oO,Ws hk,Ws hw'];exact afn E _ _
theorem acS (h v:Nat->Int):∀k i,hS h v k i=if i<k then oL (h i) (v i)else h i|0,i=>rfl|k+1,i=>by show pX (hS h v k) k (oL (hS h v k k) (v k)) i=_;by_cases e:i=k;subst e;rw[qu,acS h v i i,af (qG _),ag (Nat.lt_succ_self _)];rw[tL _ _ _ i e,acS h v k i];by_cases h1:i<k;rw[ag h1,ag oO];rw[af h1,af oO]
def Wu:List Nat->List Nat->List Nat|x::xs,y::ys=>fce (tY x y) λz=>z::Wu xs ys|_,_=>[]
def acT:List Nat->List Nat->List Nat|[a,b,c,d,e,f,g,h],m=>Wu [a,b,c,d,e,f,g,h] (runN kN (YE 48 (YD m 16)).reverse a b c d e f g h)|_,_=>[]
theorem acU {v:Nat->Int}{a b c d e f g h:Nat}(E:EOk v a b c d e f g h)(m:Bytes):∃a' b' c' d' e' f' g' h',acT [a,b,c,d,e,f,g,h] (m.map UInt8.toNat)=[a',b',c',d',e',f',g',h']/\EOk (DL v m) a' b' c' d' e' f' g' h':=by
 have hW:=Wr m 48 16 _ dD (Wq m 16 dD);have hl:(YE 48 (YD (m.map UInt8.toNat) 16)).reverse.length=64:=by rw[List.length_reverse,hW.len]
 have hr:=Wt v (qY m 64) (YE 48 (YD (m.map UInt8.toNat) 16)).reverse hl (λi hi=>by rw[hW.at_ i hi];congr 1;rw[dr,dr,List.getElem?_reverse (by rw[hW.len];exact hi),hW.len]) 64 0 a b c d e f g h rfl E;obtain⟨a',b',c',d',e',f',g',h',h1,h2⟩:=hr;refine⟨tY a a',tY b b',tY c c',tY d d',tY e e',tY f f',tY g g',tY h h',?_,?_⟩;show Wu _ (runN kN _ a b c d e f g h)=_;rw[List.drop_zero,List.drop_zero]at h1;rw[h1];simp only[Wu,FI];have at_:∀i,i<8->DL v m i=oL (v i) (vS v (qY m 64) 64 i):=λi hi=>by show hS v _ 8 i=_;rw[acS,ag hi]
 exact⟨by rw[at_ 0 dD,E.v0,h2.v0,kA],by rw[at_ 1 dD,E.v1,h2.v1,kA],by rw[at_ 2 dD,E.v2,h2.v2,kA],by rw[at_ 3 dD,E.v3,h2.v3,kA],by rw[at_ 4 dD,E.v4,h2.v4,kA],by rw[at_ 5 dD,E.v5,h2.v5,kA],by rw[at_ 6 dD,E.v6,h2.v6,kA],by rw[at_ 7 dD,E.v7,h2.v7,kA],qR _ _,qR _ _,qR _ _,qR _ _,qR _ _,qR _ _,qR _ _,qR _ _⟩
def afo (m:List Nat):Nat->List Nat|0=>[1779033703,3144134277,1013904242,2773480762,1359893119,2600822924,528734635,1541459225]|i+1=>acT (afo m i) ((m.take (64*i+64)).drop (64*i))
theorem Wv (m:Bytes):∀n,∃a b c d e f g h,afo (m.map UInt8.toNat) n=[a,b,c,d,e,f,g,h]/\EOk (wo m n) a b c d e f g h|0=>⟨_,_,_,_,_,_,_,_,rfl,rfl,rfl,rfl,rfl,rfl,rfl,rfl,rfl,dD,dD,dD,dD,dD,dD,dD,dD⟩|n+1=>by obtain⟨a,b,c,d,e,f,g,h,h1,h2⟩:=Wv m n;obtain⟨a',b',c',d',e',f',g',h',h3,h4⟩:=acU h2 ((m.take (64*n+64)).drop (64*n));refine⟨a',b',c',d',e',f',g',h',?_,h4⟩;show acT (afo _ n) _=_;rw[h1,<-h3,qv,mJ]
def afp (l:List Nat)(i:Nat):UInt8:=UInt8.ofNat (l.getD (i/4) 0/2^(24-8*(i%4))%256)
def ajP (s:Bytes):List UInt8:=(List.range 32).map (afp (afo ((uB s).map UInt8.toNat) ((uB s).length/64)))
theorem ahQ {v:Nat->Int}{a b c d e f g h:Nat}(E:EOk v a b c d e f g h)(i:Nat)(hi:i<32):IS v i=afp [a,b,c,d,e,f,g,h] i:=by
 have hv:∀j,j<8->v j=(([a,b,c,d,e,f,g,h]:List Nat).getD j 0:Nat):=λj hj=>by
  match j,hj with
   |0,_=>exact E.v0
   |1,_=>exact E.v1
   |2,_=>exact E.v2
   |3,_=>exact E.v3
   |4,_=>exact E.v4
   |5,_=>exact E.v5
   |6,_=>exact E.v6
   |7,_=>exact E.v7
 unfold IS afp;rw[hv (i/4) oO];have e:(24:Int)-8*((i%4:Nat):Int)=((24-8*(i%4):Nat):Int):=oO
 rw[e,HE oO];congr 1
theorem ajQ (s:Bytes):(QU s).1=ajP s:=by obtain⟨a,b,c,d,e,f,g,h,h1,h2⟩:=Wv (uB s) ((uB s).length/64);show(List.range 32).map (IS _)=(List.range 32).map (afp _);rw[h1];refine en λi hi=>ahQ h2 i (fO.1 hi)
end Qv
