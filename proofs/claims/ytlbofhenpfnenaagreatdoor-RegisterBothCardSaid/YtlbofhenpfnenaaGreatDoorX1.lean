/- Part 8 of the proof: its lemmas. No condition. -/
import Derived.Test.YtlbofhenpfnenaaGreatDoorW7
import Derived.Lib.BytesEntry
import Derived.Lib.Bytealg
import Derived.Lib.Walk
set_option maxRecDepth 100000
set_option maxHeartbeats 80000000
set_option linter.all false
open Go Go.RowKit
namespace Qv
def x32 (a b:Int):Int:=yh .xor .u32 a b
def a32 (a b:Int):Int:=yh .and .u32 a b
def Bq (a b:Int):Int:=yh .or .u32 a b
def n32 (a:Int):Int:=yh .xor .u32 (IntKind.u32.max) a
def oA (a b:Int):Int:=IntKind.u32.wrap (a+b)
def AW (a b:Int):Int:=a.fdiv (2^(min b.toNat 32))
def jb (a b:Int):Int:=IntKind.u32.wrap (a*2^(min b.toNat 32))
def uo (a b:Int):Int:=Bq (AW a b) (jb a (32-b))
def cW (f:Nat->Int):List AV:=[.int .u32 (f 0),.int .u32 (f 1),.int .u32 (f 2),.int .u32 (f 3),.int .u32 (f 4),.int .u32 (f 5),.int .u32 (f 6),.int .u32 (f 7),.int .u32 (f 8),.int .u32 (f 9),.int .u32 (f 10),.int .u32 (f 11),.int .u32 (f 12),.int .u32 (f 13),.int .u32 (f 14),.int .u32 (f 15),.int .u32 (f 16),.int .u32 (f 17),.int .u32 (f 18),.int .u32 (f 19),.int .u32 (f 20),.int .u32 (f 21),.int .u32 (f 22),.int .u32 (f 23),.int .u32 (f 24),.int .u32 (f 25),.int .u32 (f 26),.int .u32 (f 27),.int .u32 (f 28),.int .u32 (f 29),.int .u32 (f 30),.int .u32 (f 31),.int .u32 (f 32),.int .u32 (f 33),.int .u32 (f 34),.int .u32 (f 35),.int .u32 (f 36),.int .u32 (f 37),.int .u32 (f 38),.int .u32 (f 39),.int .u32 (f 40),.int .u32 (f 41),.int .u32 (f 42),.int .u32 (f 43),.int .u32 (f 44),.int .u32 (f 45),.int .u32 (f 46),.int .u32 (f 47),.int .u32 (f 48),.int .u32 (f 49),.int .u32 (f 50),.int .u32 (f 51),.int .u32 (f 52),.int .u32 (f 53),.int .u32 (f 54),.int .u32 (f 55),.int .u32 (f 56),.int .u32 (f 57),.int .u32 (f 58),.int .u32 (f 59),.int .u32 (f 60),.int .u32 (f 61),.int .u32 (f 62),.int .u32 (f 63)]
def cH (f:Nat->Int):List AV:=[.int .u32 (f 0),.int .u32 (f 1),.int .u32 (f 2),.int .u32 (f 3),.int .u32 (f 4),.int .u32 (f 5),.int .u32 (f 6),.int .u32 (f 7)]
def kL:List Int:=[1116352408,1899447441,3049323471,3921009573,961987163,1508970993,2453635748,2870763221,3624381080,310598401,607225278,1426881987,1925078388,2162078206,2614888103,3248222580,3835390401,4022224774,264347078,604807628,770255983,1249150122,1555081692,1996064986,2554220882,2821834349,2952996808,3210313671,3336571891,3584528711,113926993,338241895,666307205,773529912,1294757372,1396182291,1695183700,1986661051,2177026350,2456956037,2730485921,2820302411,3259730800,3345764771,3516065817,3600352804,4094571909,275423344,430227734,506948616,659060556,883997877,958139571,1322822218,1537002063,1747873779,1955562222,2024104815,2227730452,2361852424,2428436474,2756734187,3204031479,3329325298]
def kF (i:Nat):Int:=kL.getD i 0
def h0L:List Int:=[1779033703,3144134277,1013904242,2773480762,1359893119,2600822924,528734635,1541459225]
def h0F (i:Nat):Int:=h0L.getD i 0
def pK (f:Nat->Int)(k:Nat)(v:Int):Nat->Int:=λi=>match Nat.beq i k with|true=>v|false=>f i
theorem QC (f:Nat->Int):cW f=(List.range 64).map λi=>.int .u32 (f i):=rfl
theorem uq {α:Type}(g:Nat->α){n k:Nat}(h:k<n):(List.range n).map g=((List.range n).map g).take k++([g k]++((List.range n).map g).drop (k+1))/\(((List.range n).map g).take k).length=k:=by
 have hl:((List.range n).map g).length=n:=by simp
 refine⟨?_,by rw[aH,hl];omega⟩;have hlt:k<((List.range n).map g).length:=by rw[hl];exact h
 have h2:((List.range n).map g).drop k=g k::((List.range n).map g).drop (k+1):=by rw[bQ hlt];simp
 rw[gV,<-h2,dw]
theorem Ev {α:Type}(g g':Nat->α){n k:Nat}(h:k<n)(hg:∀i,i≠k->g' i=g i):((List.range n).map g).take k++([g' k]++((List.range n).map g).drop (k+1))=(List.range n).map g':=by
 have h1:((List.range n).map g).take k=((List.range n).map g').take k:=by refine fP λi=>?_;rw[Db,Db];by_cases hi:i<k;rw[af hi,af hi,aM,aM];rw[wT oO];simp[hg i oO];rw[aa hi,aa hi]
 have h2:((List.range n).map g).drop (k+1)=((List.range n).map g').drop (k+1):=by refine fP λi=>?_;rw[lS,lS,aM,aM];by_cases hi:k+1+i<n;rw[wT hi];simp[hg (k+1+i) oO];rw[nN (by simp;omega)];rfl
 rw[h1,h2];exact(uq g' h).1.symm
theorem sN (f:Nat->Int)(k:Nat)(v:Int):∀i,i≠k->pK f k v i=f i:=λi h=>by
 unfold pK;have hb:Nat.beq i k=false:=by
  cases hb:Nat.beq i k with
  |false=>rfl
  |true=>exact absurd (aK hb) h
 rw[hb]
theorem qb (f:Nat->Int)(k:Nat)(v:Int):pK f k v k=v:=by unfold pK;rw[gT]
abbrev fw (f:Nat->Int)(i:Nat):FV:=.p (.int .u32 (f i))
theorem mW (f:Nat->Int):aF (cW f)=(List.range 64).map (fw f):=rfl
theorem mH (f:Nat->Int):aF (cH f)=(List.range 8).map (fw f):=rfl
theorem sq (f:Nat->Int){k:Nat}(h:k<64):aF (cW f)=(aF (cW f)).take k++([.p (.int .u32 (f k))]++(aF (cW f)).drop (k+1))/\((aF (cW f)).take k).length=k:=by rw[mW];exact uq (fw f) h
theorem Nt (f:Nat->Int){k:Nat}(h:k<64)(v:Int):(aF (cW f)).take k++([.p (.int .u32 v)]++(aF (cW f)).drop (k+1))=aF (cW (pK f k v)):=by
 rw[mW,mW];have :=Ev (fw f) (fw (pK f k v)) h λi hi=>by simp only[fw,sN f k v i hi]
 simp only[fw,qb]at this⊢;exact this
theorem QD (f:Nat->Int){k:Nat}(h:k<8):aF (cH f)=(aF (cH f)).take k++([.p (.int .u32 (f k))]++(aF (cH f)).drop (k+1))/\((aF (cH f)).take k).length=k:=by rw[mH];exact uq (fw f) h
theorem aar (f:Nat->Int){k:Nat}(h:k<8)(v:Int):(aF (cH f)).take k++([.p (.int .u32 v)]++(aF (cH f)).drop (k+1))=aF (cH (pK f k v)):=by
 rw[mH,mH];have :=Ev (fw f) (fw (pK f k v)) h λi hi=>by simp only[fw,sN f k v i hi]
 simp only[fw,qb]at this⊢;exact this
def ya (b:Bytes)(i:Nat):Int:=((b.getD i 0).toNat:Int)
def w1F (b:Bytes)(t:Nat):Int:=Bq (Bq (Bq (jb (ya b (4*t)) 24) (jb (ya b (4*t+1)) 16)) (jb (ya b (4*t+2)) 8)) (ya b (4*t+3))
def YZ (f:Nat->Int)(t:Nat):Int:=oA (oA (oA (x32 (x32 (uo (f (t-2)) 17) (uo (f (t-2)) 19)) (AW (f (t-2)) 10)) (f (t-7))) (x32 (x32 (uo (f (t-15)) 7) (uo (f (t-15)) 18)) (AW (f (t-15)) 3))) (f (t-16))
def qC (b:Bytes):Nat->Nat->Int|0=>λ_=>0|k+1=>pK (qC b k) k (if k<16 then w1F b k else YZ (qC b k) k)
def t1F (v:Nat->Int)(k w:Int):Int:=oA (oA (oA (oA (v 7) (x32 (x32 (uo (v 4) 6) (uo (v 4) 11)) (uo (v 4) 25))) (x32 (a32 (v 4) (v 5)) (a32 (n32 (v 4)) (v 6)))) k) w
def t2F (v:Nat->Int):Int:=oA (x32 (x32 (uo (v 0) 2) (uo (v 0) 13)) (uo (v 0) 22)) (x32 (x32 (a32 (v 0) (v 1)) (a32 (v 0) (v 2))) (a32 (v 1) (v 2)))
def agT (v:Nat->Int)(k w:Int):Nat->Int|0=>oA (t1F v k w) (t2F v)|1=>v 0|2=>v 1|3=>v 2|4=>oA (v 3) (t1F v k w)|5=>v 4|6=>v 5|7=>v 6|_=>0
def vS (h w:Nat->Int):Nat->Nat->Int|0=>h|t+1=>agT (vS h w t) (kF t) (w t)
def hS (h v:Nat->Int):Nat->Nat->Int|0=>h|k+1=>pK (hS h v k) k (oA (hS h v k k) (v k))
def Dc (h:Nat->Int)(b:Bytes):Nat->Int:=hS h (vS h (qC b 64) 64) 8
def jy (n:Nat):Bytes:=List.replicate n 0
def Nu (n i:Nat):UInt8:=UInt8.ofNat (n*8%18446744073709551616/2^(8*i))
def tJ (n:Nat):Nat->Bytes|0=>[]|i+1=>Nu n i::tJ n i
def tK (s:Bytes):Bytes:=s++[128]++jy ((120-(s.length+1)%64)%64)++tJ s.length 8
def vB (m:Bytes):Nat->Nat->Int|0=>h0F|i+1=>Dc (vB m i) ((m.take (64*i+64)).drop (64*i))
def Ic (h:Nat->Int)(i:Nat):UInt8:=UInt8.ofNat (IntKind.u8.wrap (AW (h (i/4)) (24-8*(i%4:Nat)))).toNat
def QE (s:Bytes):Dg:=⟨(List.range 32).map (Ic (vB (tK s) ((tK s).length/64))),by simp⟩
end Qv
open Go Go.Proofs Go.RowKit
namespace Qv
theorem ur {n:Int}(h1:0<=n)(h2:n<18446744073709551616):IntKind.u64.wrap n=n:=by simp[IntKind.wrap,IntKind.bits,IntKind.signed];omega
theorem wV {n:Int}(h1:0<=n)(h2:n<4294967296):IntKind.u32.wrap n=n:=by simp[IntKind.wrap,IntKind.bits,IntKind.signed];omega
theorem mK (x:Int)(n:Int)(h0:0<=n)(h:n<=32):aj C 166 [.int .u32 x,.int .u64 n] (λr=>r=.val (.int .u32 (uo x n))):=by refine ag Tryz.func166 rfl rfl rfl ?_;refine⟨h0,_,rfl,?_⟩;refine⟨32-n,ur oO oO,?_⟩;refine⟨oO,_,rfl,?_⟩;refine⟨_,rfl,?_⟩;exact rfl
theorem Kq:aj C 165 [] (λr=>r=.val (.agg (cW kF))):=by refine ag Tryz.func165 rfl rfl rfl ?_;exact rfl
theorem QF (n:Nat):jy n++[0]=jy (n+1):=by unfold jy;rw[List.replicate_succ',]
theorem aas (n:Nat)(h:n<2^40):aj C 163 [.int .i64 n] (λr=>r=.val (.str (jy n))):=by
 refine ag Tryz.func163 rfl rfl rfl ?_;refine bI 13 (λk:Nat=>[(0,.p (.int .i64 n)),(3,.p (.str (jy k))),(4,.p (.int .i64 k))]) (λ_=>[]) (λk=>k<=n) (λk=>n-k) 0 oO rfl wS trivial ?_;intro k hk;refine az (λhlt=>?_) (λhge=>?_);have hlt:k<n:=oO
 refine⟨by simp[jy];omega,?_⟩;exact nx (k+1) (aU (k+1) hlt oO rfl ⟨aR.refl _,aR.eq (by show FV.p (.str (jy k++[0]))=_;rw[QF]),aR.refl _,trivial⟩ trivial);obtain rfl:k=n:=oO
 exact rfl
theorem Nv {s:Bytes}{n:Int}{k:Nat}(hn:n=k)(h:k<s.length):s[n.toNat]?=some (s.getD k 0):=by subst hn;simp[List.getD,aq h]
theorem QG (b:Bytes)(hb:b.length=64):aj C 164 [.str b] (λr=>r=.val (.agg (cW (qC b 64)))):=by
 refine dQ [6] Tryz.func164 rfl rfl rfl ?_;refine bI 86 (λk:Nat=>[(0,.p (.str b)),(2,.ptr 2 0),(3,.ptr 3 0),(4,.p (.int .i64 k))]) (λk=>[(2,aF (cW λ_=>0)),(3,aF (cW (qC b k)))]) (λk=>k<=16) (λk=>16-k) 0 oO rfl wS oS ?_;intro k hk;refine az (λhlt=>?_) (λhge=>?_);have hlt:k<16:=oO
 obtain⟨a1,a2⟩:=sq (qC b k) (k:=k) oO;have a3:=Nt (qC b k) (k:=k) oO (w1F b k);have e:pK (qC b k) k (w1F b k)=qC b (k+1):=by show _=pK (qC b k) k (if k<16 then w1F b k else YZ (qC b k) k);rw[af hlt]
 rw[e]at a3;have m0:IntKind.i64.wrap (4*(k:Int))=((4*k:Nat):Int):=by rw[wrap64 oO oO];omega
 refine cG 31 kK ?_;refine⟨_,m0,?_⟩;refine⟨oO,_,Nv rfl oO,?_⟩;refine⟨_,⟨_,wV oO (by have :=(b.getD (4*k) 0).toNat_lt;omega),rfl⟩,?_⟩;refine⟨dD,_,rfl,?_⟩;refine⟨_,m0,?_⟩;refine nx (4*k+1) ?_;refine⟨oO,_,Nv rfl oO,?_⟩;refine⟨_,⟨_,wV oO (by have :=(b.getD (4*k+1) 0).toNat_lt;omega),rfl⟩,?_⟩;refine⟨dD,_,rfl,?_⟩;refine⟨_,rfl,?_⟩;refine⟨_,m0,?_⟩;refine nx (4*k+2) ?_;refine⟨oO,_,Nv rfl oO,?_⟩;refine⟨_,⟨_,wV oO (by have :=(b.getD (4*k+2) 0).toNat_lt;omega),rfl⟩,?_⟩;refine⟨dD,_,rfl,?_⟩;refine⟨_,rfl,?_⟩;refine⟨_,m0,?_⟩;refine nx (4*k+3) ?_;refine⟨oO,_,Nv rfl oO,?_⟩;refine⟨_,⟨_,wV oO (by have :=(b.getD (4*k+3) 0).toNat_lt;omega),rfl⟩,?_⟩;refine⟨_,rfl,?_⟩;refine⟨k,rfl,oO,true,k,(by show 0+k*1=k;omega),?_⟩;refine⟨_,_,_,a1,a2,?_⟩;refine⟨_,a3,?_⟩;exact nx (k+1) (aU (k+1) hlt oO rfl wS oS);obtain rfl:k=16:=oO
 refine dI 86 [(0,.p (.str b)),(2,.ptr 2 0),(3,.ptr 3 0)] [(2,aF (cW λ_=>0)),(3,aF (cW (qC b 16)))] rfl wS oS ?_;refine bI 86 (λk:Nat=>[(2,.ptr 2 0),(3,.ptr 3 0),(5,.p (.int .i64 k))]) (λk=>[(2,aF (cW λ_=>0)),(3,aF (cW (qC b k)))]) (λk=>16<=k/\k<=64) (λk=>64-k) 16 oO rfl wS oS ?_;rintro k ⟨h16,hk⟩;refine az (λhlt=>?_) (λhge=>?_);have hlt:k<64:=oO
 obtain⟨a1,a2⟩:=sq (qC b k) (k:=k) hlt;obtain⟨b1,b2⟩:=sq (qC b k) (k:=k-15) oO;obtain⟨c1,c2⟩:=sq (qC b k) (k:=k-2) oO;obtain⟨d1,d2⟩:=sq (qC b k) (k:=k-7) oO;obtain⟨e1,e2⟩:=sq (qC b k) (k:=k-16) oO;have a3:=Nt (qC b k) (k:=k) hlt (YZ (qC b k) k);have e:pK (qC b k) k (YZ (qC b k) k)=qC b (k+1):=by show _=pK (qC b k) k (if k<16 then w1F b k else YZ (qC b k) k);rw[aa oO]
 rw[e]at a3;refine cG 10 kK ?_;refine nx (k-15) ?_;refine⟨k-15,rfl,oO,true,k-15,(by show 0+(k-15)*1=k-15;omega),?_⟩;refine⟨_,_,_,b1,b2,?_⟩;refine nx (k-2) ?_;refine⟨k-2,rfl,oO,true,k-2,(by show 0+(k-2)*1=k-2;omega),?_⟩;refine⟨_,_,_,c1,c2,?_⟩;refine cG 29 kK ?_;refine⟨_,mK _ 17 dD dD,?_⟩;refine⟨_,mK _ 19 dD dD,?_⟩;refine⟨_,rfl,?_⟩;refine⟨dD,_,rfl,?_⟩;refine⟨_,rfl,?_⟩;refine nx (k-7) ?_;refine⟨k-7,rfl,oO,true,k-7,(by show 0+(k-7)*1=k-7;omega),?_⟩;refine⟨_,_,_,d1,d2,?_⟩;refine⟨_,rfl,?_⟩;refine⟨_,mK _ 7 dD dD,?_⟩;refine⟨_,mK _ 18 dD dD,?_⟩;refine⟨_,rfl,?_⟩;refine⟨dD,_,rfl,?_⟩;refine⟨_,rfl,?_⟩;refine⟨_,rfl,?_⟩;refine nx (k-16) ?_;refine⟨k-16,rfl,oO,true,k-16,(by show 0+(k-16)*1=k-16;omega),?_⟩;refine⟨_,_,_,e1,e2,?_⟩;refine⟨_,rfl,?_⟩;refine⟨k,rfl,hlt,true,k,(by show 0+k*1=k;omega),?_⟩;refine⟨_,_,_,a1,a2,?_⟩;refine⟨_,a3,?_⟩;exact nx (k+1) (aU (k+1) ⟨oO,hlt⟩ oO rfl wS oS);obtain rfl:k=64:=oO
 exact rfl
theorem ad8 (h:Nat->Int)(b:Bytes)(hb:b.length=64):aj C 130 [.agg (cH h),.str b] (λr=>r=.val (.agg (cH (Dc h b)))):=by
 refine dQ [3,10] Tryz.func130 rfl rfl rfl ?_;refine cl (QG b hb).cut ?_;refine cl Kq.cut ?_;generalize hw:qC b 64=w;refine dI 114 [(2,.ptr 2 0),(4,.ptr 4 0),(5,.ptr 5 0),(6,.ptr 6 0),(7,.ptr 7 0)] [(2,aF (cH h)),(4,aF (cH λ_=>0)),(5,aF (cW w)),(6,aF (cW kF)),(7,aF (cH h))] rfl wS oS ?_;refine bI 114 (λt:Nat=>[(2,.ptr 2 0),(4,.ptr 4 0),(5,.ptr 5 0),(6,.ptr 6 0),(7,.ptr 7 0),(8,.p (.int .i64 t))]) (λt=>[(2,aF (cH h)),(4,aF (cH λ_=>0)),(5,aF (cW w)),(6,aF (cW kF)),(7,aF (cH (vS h w t)))]) (λt=>t<=64) (λt=>64-t) 0 oO rfl wS oS ?_;intro t ht;refine az (λhlt=>?_) (λhge=>?_);have hlt:t<64:=oO
 obtain⟨a1,a2⟩:=sq kF (k:=t) hlt;obtain⟨b1,b2⟩:=sq w (k:=t) hlt;refine cG 6 kK ?_;refine⟨0,rfl,dD,false,?_⟩;refine⟨4,rfl,dD,false,?_⟩;refine cG 31 kK ?_;refine⟨7,rfl,dD,false,?_⟩;refine⟨_,(mK _ 6 dD dD).cut,?_⟩;refine⟨_,(mK _ 11 dD dD).cut,?_⟩;refine⟨_,rfl,?_⟩;refine⟨_,(mK _ 25 dD dD).cut,?_⟩;refine⟨_,rfl,?_⟩;refine⟨_,rfl,?_⟩;refine⟨5,rfl,dD,false,?_⟩;refine⟨_,rfl,?_⟩;refine⟨_,rfl,?_⟩;refine⟨6,rfl,dD,false,?_⟩;refine⟨_,rfl,?_⟩;refine⟨_,rfl,?_⟩;refine⟨_,rfl,?_⟩;refine⟨t,rfl,hlt,true,t,(by show 0+t*1=t;omega),?_⟩;refine⟨_,_,_,a1,a2,?_⟩;refine⟨_,rfl,?_⟩;refine⟨t,rfl,hlt,true,t,(by show 0+t*1=t;omega),?_⟩;refine⟨_,_,_,b1,b2,?_⟩;refine⟨_,rfl,?_⟩;refine cG 25 kK ?_;refine⟨_,(mK _ 2 dD dD).cut,?_⟩;refine⟨_,(mK _ 13 dD dD).cut,?_⟩;refine⟨_,rfl,?_⟩;refine⟨_,(mK _ 22 dD dD).cut,?_⟩;refine⟨_,rfl,?_⟩;refine⟨1,rfl,dD,false,?_⟩;refine⟨_,rfl,?_⟩;refine⟨2,rfl,dD,false,?_⟩;refine⟨_,rfl,?_⟩;refine⟨_,rfl,?_⟩;refine⟨1,rfl,dD,false,?_⟩;refine⟨2,rfl,dD,false,?_⟩;refine⟨_,rfl,?_⟩;refine⟨_,rfl,?_⟩;refine⟨_,rfl,?_⟩;refine⟨oA (t1F (vS h w t) (kF t) (w t)) (t2F (vS h w t)),rfl,?_⟩;refine⟨0,rfl,dD,false,?_⟩;refine⟨1,rfl,dD,false,?_⟩;refine⟨2,rfl,dD,false,?_⟩;refine⟨3,rfl,dD,false,?_⟩;refine⟨oA (vS h w t 3) (t1F (vS h w t) (kF t) (w t)),rfl,?_⟩;refine⟨4,rfl,dD,false,?_⟩;refine⟨5,rfl,dD,false,?_⟩;refine⟨6,rfl,dD,false,?_⟩;exact nx (t+1) (aU (t+1) hlt oO rfl wS oS);obtain rfl:t=64:=oO
 have e:Dc h b=hS h (vS h w 64) 8:=by rw[<-hw];rfl
 rw[e];generalize vS h w 64=v;refine dI 114 [(2,.ptr 2 0),(4,.ptr 4 0),(7,.ptr 7 0)] [(2,aF (cH h)),(4,aF (cH λ_=>0)),(7,aF (cH v))] rfl wS oS ?_;refine bI 114 (λk:Nat=>[(2,.ptr 2 0),(4,.ptr 4 0),(7,.ptr 7 0),(13,.p (.int .i64 k))]) (λk=>[(2,aF (cH (hS h v k))),(4,aF (cH λ_=>0)),(7,aF (cH v))]) (λk=>k<=8) (λk=>8-k) 0 oO rfl wS oS ?_;intro k hk;refine az (λhlt=>?_) (λhge=>?_);have hlt:k<8:=oO
 obtain⟨a1,a2⟩:=QD (hS h v k) (k:=k) hlt;obtain⟨b1,b2⟩:=QD v (k:=k) hlt;have a3:=aar (hS h v k) (k:=k) hlt (oA (hS h v k k) (v k));refine cG 9 kK ?_;refine⟨k,rfl,hlt,true,k,(by show 0+k*1=k;omega),?_⟩;refine⟨_,_,_,a1,a2,?_⟩;refine⟨k,rfl,hlt,true,k,(by show 0+k*1=k;omega),?_⟩;refine⟨_,_,_,b1,b2,?_⟩;refine⟨_,rfl,?_⟩;refine⟨k,rfl,hlt,true,k,(by show 0+k*1=k;omega),?_⟩;refine⟨_,_,_,a1,a2,?_⟩;refine⟨_,a3,?_⟩;exact nx (k+1) (aU (k+1) hlt oO rfl wS oS);obtain rfl:k=8:=oO
 exact rfl
theorem af1 (a b:Nat):(a:Int).tdiv (b:Int)=((a/b:Nat):Int):=rfl
theorem Vy (x:Int):((UInt8.ofNat (IntKind.u8.wrap x).toNat).toNat:Int)=IntKind.u8.wrap x:=by
 have h:0<=IntKind.u8.wrap x/\IntKind.u8.wrap x<256:=by simp[IntKind.wrap,IntKind.bits,IntKind.signed];omega
 rw[UInt8.toNat_ofNat'];omega
theorem af2 (a k:Nat):(a:Int).fdiv (2^k)=((a/2^k:Nat):Int):=by
 have h:(2:Int)^k=((2^k:Nat):Int):=by simp
 rw[h,Dd _ (De _)];rfl
theorem Ln {n i:Nat}(hn:n<2^40):IntKind.u8.wrap ((n*8/2^(8*i):Nat):Int)=((Nu n i).toNat:Int):=by unfold Nu;rw[lX (show n*8<18446744073709551616 by omega),UInt8.toNat_ofNat'];simp[IntKind.wrap,IntKind.bits,IntKind.signed]
theorem Ew (n:Nat):∀i,(tJ n i).length=i|0=>rfl|i+1=>by show(tJ n i).length+1=i+1;rw[Ew n i]
theorem QH (s:Bytes):∃q,(tK s).length=64*q/\(tK s).length<=s.length+72+64:=by
 have h:(tK s).length=s.length+1+(120-(s.length+1)%64)%64+8:=by unfold tK jy;simp only[au,aI,bk,List.length_replicate,Ew]
 refine⟨(tK s).length/64,?_,?_⟩<;>omega
theorem Xp (s:Bytes)(hs:s.length<2^40):aj C 129 [.str s] (λr=>r=.val (.str (tK s))):=by
 refine dQ [4] Tryz.func129 rfl rfl rfl ?_;refine⟨by show s.length+1<_;omega,?_⟩;have hl:(s++[128]).length=s.length+1:=by simp
 refine⟨dD,(((s.length+1)%64:Nat):Int),by rw[<-hl];rfl,?_⟩;refine nx (120-(s.length+1)%64) ?_;refine⟨dD,(((120-(s.length+1)%64)%64:Nat):Int),rfl,?_⟩;refine cl (aas _ oO).cut ?_;refine⟨by simp[jy];omega,?_⟩;refine⟨(s.length:Int),ur oO oO,?_⟩;refine⟨((s.length*8:Nat):Int),by rw[ur oO oO];omega,?_⟩;obtain⟨X0,hX0⟩:∃X0,s++[128]++jy ((120-(s.length+1)%64)%64)=X0:=⟨_,rfl⟩;have hF:X0++tJ s.length 8=tK s:=by rw[<-hX0];rfl
 have an4:X0.length<=s.length+200:=by rw[<-hX0];simp[jy];omega
 refine dI 35 [(3,.p (.str X0)),(4,.p (.int .u64 ((s.length*8:Nat):Int)))] [] rfl ⟨aR.eq (by rw[<-hX0];rfl),aR.refl _,trivial⟩ trivial ?_;refine bI 35 (λx:Nat×Bytes=>[(3,.p (.str x.2)),(4,.p (.int .u64 ((s.length*8:Nat):Int))),(5,.p (.int .i64 ((x.1:Int)-1)))]) (λ_=>[]) (λx=>x.1<=8/\x.2++tJ s.length x.1=tK s/\x.2.length<=s.length+200+8-x.1) (λx=>x.1) (8,X0) ⟨by show 8<=8;omega,hF,by show X0.length<=_;omega⟩ rfl wS trivial ?_;rintro⟨j,X⟩ ⟨hj,hX,hXl⟩;simp only at hj hX hXl;refine az (λhge=>?_) (λhlt=>?_);obtain⟨i,rfl⟩:∃i,j=i+1:=⟨j-1,by have :(j:Int)-1≥0:=hge;omega⟩;have hii:(((i+1:Nat):Int)-1)=(i:Int):=oO
 refine⟨((8*i:Nat):Int),by show IntKind.i64.wrap (8*(((i+1:Nat):Int)-1))=_;rw[wrap64 oO oO];omega,?_⟩;refine⟨((8*i:Nat):Int),ur oO oO,?_⟩;refine⟨oO,((s.length*8/2^(8*i):Nat):Int),?_,?_⟩;have :min ((8*i:Nat):Int).toNat IntKind.u64.bits=8*i:=by show min (((8*i:Nat):Int).toNat) 64=8*i;omega
 rw[this];exact af2 _ _;refine⟨_,Ln oO,?_⟩;refine⟨[Nu s.length i],rfl,?_⟩;refine⟨by show X.length+1<_;omega,?_⟩;exact⟨((i:Int)-1),by show IntKind.i64.wrap (((i+1:Nat):Int)-1-1)=_;rw[wrap64 oO oO];omega,aU (i,X++[Nu s.length i]) ⟨by show i<=8;omega,by show X++[Nu s.length i]++tJ s.length i=_;rw[<-hX];simp[tJ],by show(X++[_]).length<=_;simp;omega⟩ (by show i<i+1;omega) rfl wS trivial⟩;obtain rfl:j=0:=by have :¬((j:Int)-1≥0):=hlt;omega
 have hX:X++[]=tK s:=hX;rw[bg]at hX;subst hX;exact rfl
def cB (f:Nat->Int):List AV:=[.int .u8 (f 0),.int .u8 (f 1),.int .u8 (f 2),.int .u8 (f 3),.int .u8 (f 4),.int .u8 (f 5),.int .u8 (f 6),.int .u8 (f 7),.int .u8 (f 8),.int .u8 (f 9),.int .u8 (f 10),.int .u8 (f 11),.int .u8 (f 12),.int .u8 (f 13),.int .u8 (f 14),.int .u8 (f 15),.int .u8 (f 16),.int .u8 (f 17),.int .u8 (f 18),.int .u8 (f 19),.int .u8 (f 20),.int .u8 (f 21),.int .u8 (f 22),.int .u8 (f 23),.int .u8 (f 24),.int .u8 (f 25),.int .u8 (f 26),.int .u8 (f 27),.int .u8 (f 28),.int .u8 (f 29),.int .u8 (f 30),.int .u8 (f 31)]
abbrev fb (f:Nat->Int)(i:Nat):FV:=.p (.int .u8 (f i))
theorem mB (f:Nat->Int):aF (cB f)=(List.range 32).map (fb f):=rfl
theorem af3 (f:Nat->Int){k:Nat}(h:k<32):aF (cB f)=(aF (cB f)).take k++([.p (.int .u8 (f k))]++(aF (cB f)).drop (k+1))/\((aF (cB f)).take k).length=k:=by rw[mB];exact uq (fb f) h
theorem aat (f:Nat->Int){k:Nat}(h:k<32)(v:Int):(aF (cB f)).take k++([.p (.int .u8 v)]++(aF (cB f)).drop (k+1))=aF (cB (pK f k v)):=by
 rw[mB,mB];have :=Ev (fb f) (fb (pK f k v)) h λi hi=>by simp only[fb,sN f k v i hi]
 simp only[fb,qb]at this⊢;exact this
def bS (h:Nat->Int):Nat->Nat->Int|0=>λ_=>0|k+1=>pK (bS h k) k (Ic h k).toNat
theorem af4 (h:Nat->Int):∀k i,i<k->bS h k i=(Ic h i).toNat|0,i,hi=>absurd hi oO|k+1,i,hi=>by show pK (bS h k) k (Ic h k).toNat i=_;by_cases e:i=k;subst e;exact qb _ _ _;rw[sN _ _ _ i e];exact af4 h k i oO
theorem aau (s:Bytes)(h:Nat->Int)(e:h=vB (tK s) ((tK s).length/64)):cB (bS h 32)=cD (QE s):=by have h1:cB (bS h 32)=(List.range 32).map λi=>.int .u8 (bS h 32 i):=rfl;rw[h1,HZ];refine fR λi hi=>?_;have hi:=iL.1 hi;rw[af4 h 32 i hi,e];simp[QE,List.getD,hi]
theorem ad9 (s:Bytes)(hs:s.length<2^40):aj C 99 [.str s] (λr=>r=.val (.agg (cD (QE s)))):=by
 refine dQ [3,7,8] Tryz.func99 rfl rfl rfl ?_;refine cl (Xp s hs).cut ?_;obtain⟨q,hq,hql⟩:=QH s;obtain⟨m,hm⟩:∃m,tK s=m:=⟨_,rfl⟩;have hlen:m.length=64*q:=by rw[<-hm];exact hq
 have hq2:(tK s).length/64=q:=by rw[hq];omega
 refine dI 44 [(2,.ptr 2 0),(3,.ptr 3 0),(4,.p (.str m))] [(2,aF (cD bz)),(3,aF (cH h0F))] rfl ⟨aR.refl _,aR.refl _,aR.eq (by rw[<-hm];rfl),trivial⟩ oS ?_;refine bI 44 (λk:Nat=>[(2,.ptr 2 0),(3,.ptr 3 0),(4,.p (.str m)),(5,.p (.int .i64 ((64*k:Nat):Int)))]) (λk=>[(2,aF (cD bz)),(3,aF (cH (vB m k)))]) (λk=>k<=q) (λk=>q-k) 0 oO rfl wS oS ?_;intro k hk;have w1:IntKind.i64.wrap (((64*k:Nat):Int)+64)=((64*k+64:Nat):Int):=by rw[wrap64 oO oO];omega
 refine⟨_,w1,?_⟩;refine az (λhle=>?_) (λhgt=>?_);have hle:64*k+64<=m.length:=by have :((64*k+64:Nat):Int)<=(m.length:Int):=hle;omega
 refine cG 7 kK ?_;refine⟨_,w1,?_⟩;refine⟨.p (.str ((m.take (64*k+64)).drop (64*k))),⟨64*k+64,rfl,64*k,rfl,oO,hle,_,rfl,rfl⟩,?_⟩;refine⟨_,(ad8 (vB m k) ((m.take (64*k+64)).drop (64*k)) (by rw[cL,aH];omega)).cut,?_⟩;exact nx (64*(k+1)) (aU (k+1) (by show k+1<=q;omega) (by show q-(k+1)<q-k;omega) rfl wS oS);have hk:k=q:=by have :¬((64*k+64:Nat):Int)<=(m.length:Int):=hgt;omega
 subst hk;have hout:=aau s (vB m k) (by rw[hq2,hm]);generalize vB m k=h at hout⊢;refine dI 44 [(2,.ptr 2 0),(3,.ptr 3 0)] [(2,aF (cD bz)),(3,aF (cH h))] rfl wS oS ?_;refine dI 44 [(2,.ptr 2 0),(3,.ptr 3 0),(6,.ptr 6 0)] [(2,aF (cD bz)),(3,aF (cH h)),(6,aF (cB λ_=>0))] rfl wS oS ?_;refine bI 44 (λi:Nat=>[(2,.ptr 2 0),(3,.ptr 3 0),(6,.ptr 6 0),(7,.p (.int .i64 (i:Int)))]) (λi=>[(2,aF (cD bz)),(3,aF (cH h)),(6,aF (cB (bS h i)))]) (λi=>i<=32) (λi=>32-i) 0 oO rfl wS oS ?_;intro i hi;refine az (λhlt=>?_) (λhge=>?_);have hlt:i<32:=oO
 obtain⟨a1,a2⟩:=QD h (k:=i/4) oO;obtain⟨b1,b2⟩:=af3 (bS h i) (k:=i) hlt;have b3:=aat (bS h i) (k:=i) hlt (Ic h i).toNat;refine⟨dD,((i/4:Nat):Int),by show IntKind.i64.wrap ((i:Int).tdiv ((4:Nat):Int))=_;rw[af1,wrap64 oO oO],?_⟩;refine⟨i/4,rfl,oO,true,i/4,(by show 0+i/4*1=i/4;omega),?_⟩;refine⟨_,_,_,a1,a2,?_⟩;refine⟨dD,((i%4:Nat):Int),rfl,?_⟩;refine nx (8*(i%4)) ?_;refine nx (24-8*(i%4)) ?_;refine⟨((24-8*(i%4):Nat):Int),ur oO oO,?_⟩;refine⟨oO,_,rfl,?_⟩;refine⟨((Ic h i).toNat:Int),?_,?_⟩;have e:((24-8*(i%4):Nat):Int)=24-8*((i%4:Nat):Int):=oO
 show IntKind.u8.wrap (AW (h (i/4)) ((24-8*(i%4):Nat):Int))=_;rw[e];exact(Vy _).symm;refine⟨i,rfl,hlt,true,i,(by show 0+i*1=i;omega),?_⟩;refine⟨_,_,_,b1,b2,?_⟩;refine⟨_,b3,?_⟩;exact nx (i+1) (aU (i+1) hlt oO rfl wS oS);obtain rfl:i=32:=oO
 rw[hout];exact rfl
theorem aav (a b:Int):Bq a b=Bq b a:=by unfold Bq yh;simp only[BitVec.or_comm]
theorem aea (x:Int)(n m:Int)(h0:0<=m)(h:m<=31)(hn:yh .and .u64 (IntKind.u64.wrap n) 31=m):aj C 291 [.int .u32 x,.int .i64 n] (λr=>r=.val (.int .u32 (Bq (jb x m) (AW x (32-m))))):=by refine ag Tryz.func291 rfl rfl rfl ?_;refine⟨_,rfl,?_⟩;refine⟨m,hn,?_⟩;refine⟨h0,_,rfl,?_⟩;refine⟨32-m,ur oO oO,?_⟩;refine⟨oO,_,rfl,?_⟩;refine⟨_,rfl,?_⟩;exact rfl
theorem oB (x:Int)(n:Int)(hn:n∈([2,6,7,11,13,17,18,19,22,25]:List Int)):aj C 274 [.int .u32 x,.int .i64 n] (λr=>r=.val (.int .u32 (uo x n))):=by
 have hb:1<=n/\n<=31:=by simp only[aG,fQ,or_false]at hn;omega
 have hm:yh .and .u64 (IntKind.u64.wrap (0-n)) 31=32-n:=by simp only[aG,fQ,or_false]at hn;rcases hn with rfl|rfl|rfl|rfl|rfl|rfl|rfl|rfl|rfl|rfl<;>decide+kernel
 have hr:=aea x (0-n) (32-n) oO oO hm;have e:Bq (jb x (32-n)) (AW x (32-(32-n)))=uo x n:=by rw[show(32:Int)-(32-n)=n by omega,aav];rfl
 rw[e]at hr;refine ag Tryz.func274 rfl rfl rfl ?_;refine⟨0-n,wrap64 oO oO,?_⟩;refine cl hr ?_;exact rfl
theorem Kr:aj C 273 [] (λr=>r=.val (.agg (cW kF))):=by refine ag Tryz.func273 rfl rfl rfl ?_;exact rfl
theorem Tr:aj C 224 [] (λr=>r=.val (.agg (cH h0F))):=by refine ag Tryz.func224 rfl rfl rfl ?_;exact rfl
theorem aiN (a:Nat)(h:a<4294967296):(BitVec.ofInt 32 (a:Int)).toNat=a:=by rw[BitVec.toNat_ofInt];omega
theorem Ts {a b:Nat}(ha:a<4294967296)(hb:b<4294967296):Bq (a:Int) (b:Int)=((a|||b:Nat):Int):=by have h:a|||b<2^32:=Df ha hb;show IntKind.u32.wrap ((BitVec.ofInt 32 (a:Int)|||BitVec.ofInt 32 (b:Int)).toNat:Int)=_;rw[BitVec.toNat_or,aiN a ha,aiN b hb];exact wV oO oO
theorem Tt {a k:Nat}(hk:k<=32)(h:a*2^k<4294967296):jb (a:Int) (k:Int)=((a<<<k:Nat):Int):=by
 unfold jb;rw[show min ((k:Int).toNat) 32=k by omega,nP];have e:(a:Int)*2^k=((a*2^k:Nat):Int):=by simp
 rw[e];exact wV oO oO
theorem Tu {p q r s:Nat}(hp:p<256)(hq:q<256)(hr:r<256)(hs:s<256):Bq (jb (Bq (jb (Bq (jb (Bq (jb 0 8) p) 8) q) 8) r) 8) s=Bq (Bq (Bq (jb p 24) (jb q 16)) (jb r 8)) s:=by
 have z:jb 0 8=((0:Nat):Int):=by decide+kernel
 have e8:∀a:Nat,a<16777216->jb (a:Int) 8=((a*256:Nat):Int):=λa h=>by have :=Tt (a:=a) (k:=8) dD oO;rw[nP]at this;exact this
 have e16:jb (q:Int) 16=((q*65536:Nat):Int):=by have :=Tt (a:=q) (k:=16) dD oO;rw[nP]at this;exact this
 have e24:jb (p:Int) 24=((p*16777216:Nat):Int):=by have :=Tt (a:=p) (k:=24) dD oO;rw[nP]at this;exact this
 have aeb:∀a b:Nat,b<256->a*256|||b=a*256+b:=λa b h=>by have :=Dh (a:=a) (b:=b) (i:=8) h;rw[nP]at this;exact this.symm
 have af6:∀a b:Nat,b<65536->a*65536|||b=a*65536+b:=λa b h=>by have :=Dh (a:=a) (b:=b) (i:=16) h;rw[nP]at this;exact this.symm
 have aiO:∀a b:Nat,b<16777216->a*16777216|||b=a*16777216+b:=λa b h=>by have :=Dh (a:=a) (b:=b) (i:=24) h;rw[nP]at this;exact this.symm
 rw[z,Ts oO oO,Nat.zero_or,e8 p oO,Ts oO oO,aeb p q hq,e8 _ oO,Ts oO oO,aeb _ r hr,e8 _ oO,Ts oO oO,aeb _ s hs,e24,e16,e8 r oO,Ts oO oO,aiO p _ oO,Ts oO oO,Ts (by rw[show p*16777216+q*65536=(p*256+q)*65536 by omega,af6 _ _ oO];omega) oO,show p*16777216+q*65536=(p*256+q)*65536 by omega,af6 _ _ oO,show(p*256+q)*65536+r*256=(p*65536+q*256+r)*256 by omega,aeb _ s hs];omega
theorem aaw {f g:Nat->Int}(h:∀i,i<64->f i=g i):cW f=cW g:=by rw[QC,QC];exact fR λi hi=>by rw[h i (iL.1 hi)]
theorem Vz (b:Bytes):∀k i,k<=i->qC b k i=0|0,_,_=>rfl|k+1,i,h=>by show pK (qC b k) k _ i=0;rw[sN _ _ _ i oO];exact Vz b k i oO
def gS (b:Bytes)(t:Nat):Nat->Nat->Int|0=>qC b t|j+1=>pK (gS b t j) t (Bq (jb (gS b t j t) 8) (ya b (4*t+j)))
theorem af7 (b:Bytes)(t:Nat):∀j i,i≠t->gS b t j i=qC b t i|0,_,_=>rfl|j+1,i,h=>by show pK (gS b t j) t _ i=_;rw[sN _ _ _ i h];exact af7 b t j i h
theorem aec (b:Bytes)(t:Nat)(ht:t<16):cW (gS b t 4)=cW (qC b (t+1)):=by refine aaw λi _=>?_;show _=pK (qC b t) t (if t<16 then w1F b t else YZ (qC b t) t) i;rw[af ht];by_cases hi:i=t;subst hi;rw[qb];show pK _ i _ i=_;rw[qb];show Bq (jb (pK _ i _ i) 8) _=_;rw[qb];show Bq (jb (Bq (jb (pK _ i _ i) 8) _) 8) _=_;rw[qb];show Bq (jb (Bq (jb (Bq (jb (pK _ i _ i) 8) _) 8) _) 8) _=_;rw[qb];show Bq (jb (Bq (jb (Bq (jb (Bq (jb (qC b i i) 8) _) 8) _) 8) _) 8) _=_;rw[Vz b i i (ay _)];exact Tu (wW _) (wW _) (wW _) (wW _);rw[sN _ _ _ i hi,af7 b t 4 i hi]
theorem aax {xs:List FV}{n:Nat}{y:FV}{K:FV->Prop}(h:∃r,fT n xs=y::r)(hk:K y):match fT n xs with|y::_=>K y|[]=>False:=by obtain⟨r,h⟩:=h;rw[h];exact hk
theorem aay (f:Nat->Int){k:Nat}(h:k<8):∃r,fT (k*1) (aF (cH f))=.p (.int .u32 (f k))::r:=by
 obtain⟨h1,h2⟩:=QD f h;refine⟨(aF (cH f)).drop (k+1),?_⟩;rw[sG,nk];conv=>lhs;rw[h1]
 rw[Co oO,Cn oO];rfl
theorem Xq {aJ:List (Nat×List FV)}{o:Nat}{l0 l:List FV}(h:Qv.getObj aJ o=some l0)(e:l0=l):∃ys,Qv.getObj aJ o=some ys/\ys.length=l.length/\∀(i:Nat)(x y:FV),ys[i]?=some x->l[i]?=some y->aR x y:=by subst e;exact aB h
theorem Nw (b:Bytes)(hb:b.length=64):aj C 272 [.str b] (λr=>r=.val (.agg (cW (qC b 64)))):=by
 refine dQ [] Tryz.func272 rfl rfl rfl ?_;refine bI 76 (λk:Nat=>[(0,.p (.str b)),(2,.ptr 2 0),(3,.ptr 3 0),(9,.p (.int .i64 k))]) (λk=>[(2,aF (cW λ_=>0)),(3,aF (cW (qC b k)))]) (λk=>k<=64) (λk=>64-k) 0 oO rfl wS oS ?_;intro k hk;refine az (λhlt=>?_) (λhge=>?_);have hlt:k<64:=oO
 have wk:IntKind.i64.wrap ((k:Int)+1)=((k+1:Nat):Int):=by rw[wrap64 oO oO];omega
 refine az (λh16=>?_) (λh16=>?_);have h16:k<16:=oO
 have m0:IntKind.i64.wrap (4*(k:Int))=((4*k:Nat):Int):=by rw[wrap64 oO oO];omega
 refine⟨_,m0,?_⟩;refine⟨_,m0,?_⟩;refine nx (4*k+4) ?_;refine⟨4*k+4,rfl,4*k,rfl,oO,oO,_,rfl,?_⟩;have Sv:((b.take (4*k+4)).drop (4*k)).length=4:=by rw[cL,aH];omega
 have vg:∀j,j<4->(((b.take (4*k+4)).drop (4*k)).map λc=>[AV.int .u8 (c.toNat:Int)])[((j:Nat):Int).toNat]?=some [.int .u8 (ya b (4*k+j))]:=λj hj=>by rw[aM,lS,show((j:Nat):Int).toNat=j by omega,Db,af oO];rw[aq oO];simp[ya,List.getD,aq (show 4*k+j<b.length by omega)]
 refine bI 76 (λj:Nat=>[(0,.p (.str b)),(2,.ptr 2 0),(3,.ptr 3 0),(4,.p (.int .i64 k)),(9,.p (.int .i64 k)),(21,.p (.sl (((b.take (4*k+4)).drop (4*k)).map λc=>[AV.int .u8 (c.toNat:Int)]))),(22,.p (.int .i64 4)),(23,.p (.int .i64 j))]) (λj=>[(2,aF (cW λ_=>0)),(3,aF (cW (gS b k j)))]) (λj=>j<=4) (λj=>4-j) 0 oO rfl ⟨aR.refl _,aR.refl _,aR.refl _,aR.refl _,aR.refl _,aR.Qw _ _ _ _,aR.eq (by show FV.p (.int .i64 ((((b.take (4*k+4)).drop (4*k)).map λc=>[AV.int .u8 (c.toNat:Int)]).length:Int))=_;rw[ai,Sv];rfl),aR.refl _,trivial⟩ oS ?_;intro j hj;refine az (λhj4=>?_) (λhj4=>?_);have hj4:j<4:=by have :(j:Int)<4:=hj4;omega
 obtain⟨a1,a2⟩:=sq (gS b k j) (k:=k) hlt;have a3:=Nt (gS b k j) (k:=k) hlt (Bq (jb (gS b k j k) 8) (ya b (4*k+j)));refine⟨oO,_,vg j hj4,rfl,?_⟩;refine⟨k,rfl,hlt,true,k,(by show 0+k*1=k;omega),?_⟩;refine⟨_,_,_,a1,a2,?_⟩;refine⟨dD,_,rfl,?_⟩;refine⟨_,wV (by unfold ya;omega) (by have :=(b.getD (4*k+j) 0).toNat_lt;unfold ya;omega),?_⟩;refine⟨_,rfl,?_⟩;refine⟨k,rfl,hlt,true,k,(by show 0+k*1=k;omega),?_⟩;refine⟨_,_,_,a1,a2,?_⟩;refine⟨_,a3,?_⟩;exact nx (j+1) (aU (j+1) hj4 (by show 4-(j+1)<4-j;omega) rfl wS oS);obtain rfl:j=4:=by have :¬(j:Int)<4:=hj4;omega
 exact⟨_,wk,aU (k+1) hlt (by show 64-(k+1)<64-k;omega) rfl wS ⟨aB rfl,Xq rfl (by rw[aec b k h16]),trivial⟩⟩;have h16:16<=k:=by have :¬(k:Int)<16:=h16;omega
 obtain⟨a1,a2⟩:=sq (qC b k) (k:=k) hlt;obtain⟨b1,b2⟩:=sq (qC b k) (k:=k-15) oO;obtain⟨c1,c2⟩:=sq (qC b k) (k:=k-2) oO;obtain⟨d1,d2⟩:=sq (qC b k) (k:=k-7) oO;obtain⟨e1,e2⟩:=sq (qC b k) (k:=k-16) oO;have a3:=Nt (qC b k) (k:=k) hlt (YZ (qC b k) k);have e:pK (qC b k) k (YZ (qC b k) k)=qC b (k+1):=by show _=pK (qC b k) k (if k<16 then w1F b k else YZ (qC b k) k);rw[aa oO]
 rw[e]at a3;refine cG 10 kK ?_;refine nx (k-15) ?_;refine⟨k-15,rfl,oO,true,k-15,(by show 0+(k-15)*1=k-15;omega),?_⟩;refine⟨_,_,_,b1,b2,?_⟩;refine nx (k-2) ?_;refine⟨k-2,rfl,oO,true,k-2,(by show 0+(k-2)*1=k-2;omega),?_⟩;refine⟨_,_,_,c1,c2,?_⟩;refine cG 29 kK ?_;refine⟨_,(oB _ 17 dD).cut,?_⟩;refine⟨_,(oB _ 19 dD).cut,?_⟩;refine⟨_,rfl,?_⟩;refine⟨dD,_,rfl,?_⟩;refine⟨_,rfl,?_⟩;refine nx (k-7) ?_;refine⟨k-7,rfl,oO,true,k-7,(by show 0+(k-7)*1=k-7;omega),?_⟩;refine⟨_,_,_,d1,d2,?_⟩;refine⟨_,rfl,?_⟩;refine⟨_,(oB _ 7 dD).cut,?_⟩;refine⟨_,(oB _ 18 dD).cut,?_⟩;refine⟨_,rfl,?_⟩;refine⟨dD,_,rfl,?_⟩;refine⟨_,rfl,?_⟩;refine⟨_,rfl,?_⟩;refine nx (k-16) ?_;refine⟨k-16,rfl,oO,true,k-16,(by show 0+(k-16)*1=k-16;omega),?_⟩;refine⟨_,_,_,e1,e2,?_⟩;refine⟨_,rfl,?_⟩;refine⟨k,rfl,hlt,true,k,(by show 0+k*1=k;omega),?_⟩;refine⟨_,_,_,a1,a2,?_⟩;refine⟨_,a3,?_⟩;exact⟨_,wk,aU (k+1) hlt (by show 64-(k+1)<64-k;omega) rfl wS oS⟩;obtain rfl:k=64:=by have :¬(k:Int)<64:=hge;omega
 exact rfl
theorem FF (h:Nat->Int)(b:Bytes)(hb:b.length=64):aj C 226 [.agg (cH h),.str b] (λr=>r=.val (.agg (cH (Dc h b)))):=by
 refine dQ [3,10] Tryz.func226 rfl rfl rfl ?_;refine cl (Nw b hb).cut ?_;refine cl Kr.cut ?_;have e:Dc h b=hS h (vS h (qC b 64) 64) 8:=rfl;rw[e];generalize qC b 64=w;refine cG 24 kK ?_;refine⟨0,rfl,dD,false,?_⟩;refine⟨1,rfl,dD,false,?_⟩;refine⟨2,rfl,dD,false,?_⟩;refine⟨3,rfl,dD,false,?_⟩;refine⟨4,rfl,dD,false,?_⟩;refine⟨5,rfl,dD,false,?_⟩;refine⟨6,rfl,dD,false,?_⟩;refine⟨7,rfl,dD,false,?_⟩;refine dI 123 [(2,.ptr 2 0),(4,.ptr 4 0),(5,.ptr 5 0),(6,.ptr 6 0),(7,.p (.int .u32 (h 0))),(8,.p (.int .u32 (h 1))),(9,.p (.int .u32 (h 2))),(10,.p (.int .u32 (h 3))),(11,.p (.int .u32 (h 4))),(12,.p (.int .u32 (h 5))),(13,.p (.int .u32 (h 6))),(14,.p (.int .u32 (h 7)))] [(2,aF (cH h)),(4,aF (cH λ_=>0)),(5,aF (cW w)),(6,aF (cW kF))] rfl wS oS ?_;refine bI 123 (λt:Nat=>[(2,.ptr 2 0),(4,.ptr 4 0),(5,.ptr 5 0),(6,.ptr 6 0),(7,.p (.int .u32 (vS h w t 0))),(8,.p (.int .u32 (vS h w t 1))),(9,.p (.int .u32 (vS h w t 2))),(10,.p (.int .u32 (vS h w t 3))),(11,.p (.int .u32 (vS h w t 4))),(12,.p (.int .u32 (vS h w t 5))),(13,.p (.int .u32 (vS h w t 6))),(14,.p (.int .u32 (vS h w t 7))),(39,.p (.int .i64 t))]) (λt=>[(2,aF (cH h)),(4,aF (cH λ_=>0)),(5,aF (cW w)),(6,aF (cW kF))]) (λt=>t<=64) (λt=>64-t) 0 oO rfl wS oS ?_;intro t ht;refine az (λhlt=>?_) (λhge=>?_);have hlt:t<64:=by have :(t:Int)<64:=hlt;omega
 obtain⟨a1,a2⟩:=sq kF (k:=t) hlt;obtain⟨b1,b2⟩:=sq w (k:=t) hlt;refine cG 28 kK ?_;refine⟨_,(oB _ 6 dD).cut,?_⟩;refine⟨_,(oB _ 11 dD).cut,?_⟩;refine⟨_,rfl,?_⟩;refine⟨_,(oB _ 25 dD).cut,?_⟩;refine⟨_,rfl,?_⟩;refine⟨_,rfl,?_⟩;refine⟨_,rfl,?_⟩;refine⟨_,rfl,?_⟩;refine⟨_,rfl,?_⟩;refine⟨_,rfl,?_⟩;refine⟨_,rfl,?_⟩;refine⟨t,rfl,hlt,true,t,(by show 0+t*1=t;omega),?_⟩;refine⟨_,_,_,a1,a2,?_⟩;refine⟨_,rfl,?_⟩;refine⟨t,rfl,hlt,true,t,(by show 0+t*1=t;omega),?_⟩;refine⟨_,_,_,b1,b2,?_⟩;refine⟨t1F (vS h w t) (kF t) (w t),rfl,?_⟩;refine cl (oB _ 2 dD).cut ?_;refine cl (oB _ 13 dD).cut ?_;refine⟨_,rfl,?_⟩;refine cl (oB _ 22 dD).cut ?_;refine⟨_,rfl,?_⟩;refine⟨_,rfl,?_⟩;refine⟨_,rfl,?_⟩;refine⟨_,rfl,?_⟩;refine⟨_,rfl,?_⟩;refine⟨_,rfl,?_⟩;refine⟨t2F (vS h w t),rfl,?_⟩;refine⟨_,rfl,?_⟩;refine⟨_,rfl,?_⟩;exact nx (t+1) (aU (t+1) hlt (by show 64-(t+1)<64-t;omega) rfl wS oS);obtain rfl:t=64:=by have :¬(t:Int)<64:=hge;omega
 generalize vS h w 64=v;refine dI 123 [(2,.ptr 2 0),(4,.ptr 4 0),(7,.p (.int .u32 (v 0))),(8,.p (.int .u32 (v 1))),(9,.p (.int .u32 (v 2))),(10,.p (.int .u32 (v 3))),(11,.p (.int .u32 (v 4))),(12,.p (.int .u32 (v 5))),(13,.p (.int .u32 (v 6))),(14,.p (.int .u32 (v 7)))] [(2,aF (cH h)),(4,aF (cH λ_=>0))] rfl wS oS ?_;refine bI 123 (λk:Nat=>[(2,.ptr 2 0),(4,.ptr 4 0),(110,.agg (aF (cH v))),(111,.p (.int .i64 k))]) (λk=>[(2,aF (cH (hS h v k))),(4,aF (cH λ_=>0))]) (λk=>k<=8) (λk=>8-k) 0 oO rfl wS oS ?_;intro k hk;refine az (λhlt=>?_) (λhge=>?_);have hlt:k<8:=by have :(k:Int)<8:=hlt;omega
 obtain⟨a1,a2⟩:=QD (hS h v k) (k:=k) hlt;have a3:=aar (hS h v k) (k:=k) hlt (oA (hS h v k k) (v k));refine⟨k,rfl,hlt,aax (aay v hlt) ?_⟩;refine⟨k,rfl,hlt,true,k,(by show 0+k*1=k;omega),?_⟩;refine⟨_,_,_,a1,a2,?_⟩;refine⟨_,rfl,?_⟩;refine⟨k,rfl,hlt,true,k,(by show 0+k*1=k;omega),?_⟩;refine⟨_,_,_,a1,a2,?_⟩;refine⟨_,a3,?_⟩;exact nx (k+1) (aU (k+1) hlt (by show 8-(k+1)<8-k;omega) rfl wS oS);obtain rfl:k=8:=by have :¬(k:Int)<8:=hge;omega
 exact rfl
def kW (s:Bytes):List (List AV):=s.map λc=>[.int .u8 (c.toNat:Int)]
theorem cmpL_eq:∀a b:Bytes,Lib.compareBytes a b=cmpL a b|[],[]=>rfl|[],_::_=>rfl|_::_,[]=>rfl|x::a,y::b=>by show(if x<y then-1 else if y<x then 1 else Lib.compareBytes a b)=if x.toNat<y.toNat then-1 else if y.toNat<x.toNat then 1 else cmpL a b;rw[cmpL_eq a b];simp only[UInt8.lt_iff_toNat_lt]
theorem FG {P:Program}{aZ:Nat->Nat->Prop}{w:World}{v:Value}{s:Bytes}(h:cZ aZ w v (.sl (kW s))):(Extern.Bytes.bytesOf v).run P w=.ok ⟨s.toArray⟩ w:=by
 obtain⟨ad,c,rfl,hc,hne⟩:=h.kS;have hl:(kW s).length=s.length:=by simp[kW]
 rw[hl];by_cases h0:s=[];subst h0;cases ad<;>simp[Extern.Bytes.bytesOf,Extern.Bytes.loadBytes]<;>rfl;obtain⟨b,off,bN,cell,rfl,g1,g2⟩:=hne (by simpa[kW]using h0);have hpos:0<s.length:=je.2 h0;have he1:bN=1:=(g1 0 [AV.int .u8 (s[0].toNat:Int)] (by simp[kW,hpos])).symm;subst he1;have :=Lib.run_loadBytesX (P:=P) (w:=w) (s.map λc=>(c.toNat:Int)) ⟨b,off,none⟩ .empty λj x hx=>by rw[aM]at hx;obtain⟨c',ZS,rfl⟩:=pU.1 hx;obtain⟨-,g3,-,g4⟩:=g2 j [AV.int .u8 (c'.toNat:Int)] 0 _ (by simp[kW,ZS]) rfl;rw[Addr.add_lit,show off+j=off+j*1+0 from oO,g3];generalize cell j 0=cc at g4;cases g4;rfl
 rw[ai]at this;have e:Lib.bytesOf (s.map λc=>(c.toNat:Int))=s:=by show(s.map λc=>(c.toNat:Int)).map (λn=>UInt8.ofNat n.toNat)=s;rw[gY];exact(fR λc _=>by simp).trans (List.map_id s)
 rw[e]at this;simpa[Extern.Bytes.bytesOf]using this
theorem yb (a b:Bytes):aj C 146 [.sl (kW a),.sl (kW b)] (λr=>r=.val (.int .i64 (cmpL a b))):=by
 refine⟨⟨_,Tryz.func146,rfl,rfl⟩,λaZ w vs hJ hn hi hl hr=>?_⟩;match vs,hl with
  |[v0,v1],_=>
   have h0:=hr 0 v0 _ rfl rfl;have h1:=hr 1 v1 _ rfl rfl;have e0:=FG (P:=Tryz.prog) h0;have e1:=FG (P:=Tryz.prog) h1;have hrun:(Extern.BytealgCompare.compare #[v0,v1]).run Tryz.prog w=.ok (.int .i64 (cmpL a b)) w:=by change Sem.run Tryz.prog (do pure (goInt (Extern.BytealgCompare.cmp (<-Extern.Bytes.bytesOf v0) (<-Extern.Bytes.bytesOf v1)))) w=_;simp only[Sem.run_bind,e0,e1,Result.andThen_ok,Sem.run_pure];rw[Lib.cmp_eq,cmpL_eq];rfl
   show Calls Tryz.prog 146 #[v0,v1] w _;clear h0 h1 hr e0 e1;go_enter Tryz.func146,Tryz.ntmps146;go_wp2;rw[run_callFunc_extern Tryz.func183 kK kK kK (e:=Extern.BytealgCompare.compare) kK,hrun];simp only[Result.andThen];rw[Oper.upon_value];go_wp2;go_ret;exact⟨_,_,rfl,rfl,.int _ _,RowKit.Below.refl _ _⟩
theorem bZ {d:Nat}{ds:List Nat}{K:ah->Prop}{S:ah}{cells:List FV}{ys:List AV}(h1:AD S.aJ d=some cells)(h2:FV.fF cells=some ys)(h3:tZ ys=true)(h:Fl ds K (S.Be d ys)):Fl (d::ds) K S:=by simp only[Fl,h1,h2,h3];exact h
theorem bl (xs:List AV):FV.fF (aF xs)=some xs:=by
 induction xs with
 |nil=>rfl
 |cons x xs ih=>simp[aF,FV.fF,FV.fe,ih]
theorem QI (a:Int):aj C 184 [.int .i64 a] (λr=>r=.val (.bool false)):=by refine ag Tryz.func184 rfl rfl rfl ?_;refine cS (λh=>?_) (λh=>?_);exact absurd rfl h;exact rfl
theorem Xr (a b:Int):aj C 147 [.int .i64 a,.int .i64 b] (λr=>r=.val (.int .i64 (if a<b then-1 else if b<a then 1 else 0))):=by refine ag Tryz.func147 rfl rfl rfl ?_;refine cl (QI a) ?_;refine cl (QI b) ?_;refine az (λh=>?_) (λh=>?_);rw[af h];exact rfl;rw[aa h];refine az (λh=>?_) (λh=>?_);rw[af oO];exact rfl;rw[aa oO];exact rfl
theorem Tv (d:Dg):(cD d).map (λx=>[x])=kW d.1:=by obtain⟨l,h⟩:=d;have :cD ⟨l,h⟩=l.map λc=>.int .u8 (c.toNat:Int):=Ia _;rw[this];simp[kW]
theorem aaz (a b:Dg):aj C 213 [.agg (cD a),.agg (cD b)] (λr=>r=.val (.int .i64 (eZ a b))):=by refine bn {opens:=[],Be:=[],full:=false,fzo:=[1]} [] Tryz.func213 rfl rfl rfl ?_;refine⟨[2,3],bZ (cells:=aF (cD a)) (ys:=cD a) rfl (bl _) rfl (bZ (cells:=aF (cD b)) (ys:=cD b) rfl (bl _) rfl ?_)⟩;refine cG 2 kK ?_;refine⟨.p (.sl (kW a.1)),⟨dD,dD,rfl,(by show 32<=32;decide),_,Tv a,rfl⟩,?_⟩;refine⟨.p (.sl (kW b.1)),⟨dD,dD,rfl,(by show 32<=32;decide),_,Tv b,rfl⟩,?_⟩;refine cl (yb a.1 b.1).dL ?_;exact rfl
theorem Lo (a b:bf):aj C 118 [.agg (cI a),.agg (cI b)] (λr=>r=.val (.int .i64 (fU a b))):=by refine bn {opens:=[],Be:=[],full:=false,fzo:=[1]} [] Tryz.func118 rfl rfl rfl ?_;refine⟨[2,3],bZ (cells:=aF (cI a)) (ys:=cI a) rfl (bl _) rfl (bZ (cells:=aF (cI b)) (ys:=cI b) rfl (bl _) rfl ?_)⟩;refine cG 4 kK ?_;refine⟨.p (.sl (kW a.p.1)),⟨dD,dD,rfl,(by show 32<=33;decide),_,Tv a.p,rfl⟩,?_⟩;refine⟨.p (.sl (kW b.p.1)),⟨dD,dD,rfl,(by show 32<=33;decide),_,Tv b.p,rfl⟩,?_⟩;refine cl (yb a.p.1 b.p.1).dL ?_;unfold fU eZ;refine cS (λh=>?_) (λh=>?_);rw[af h];exact rfl;rw[aa oO];refine cl (Xr a.n b.n).dL ?_;exact rfl
theorem Tw (s:Bytes):aj C 225 [.str s] (λr=>r=.val (.fn (.func 271) [] [.imp [.str s]])):=by refine ag Tryz.func225 rfl rfl rfl ?_;refine⟨[1],bZ (cells:=[.p (.str s)]) (ys:=[.str s]) rfl rfl rfl ?_⟩;exact rfl
theorem aed {s R:Bytes}{a:Nat}(h:a+64<=s.length):(s.take (a+64)).drop a=((s++R).take (a+64)).drop a:=by rw[nI h]
theorem aaA (M:Bytes)(c a:Nat):((M.drop c).take (a+64)).drop a=(M.take (c+a+64)).drop (c+a):=by rw[List.take_drop,wD,gj]
theorem aaB (Y:Bytes)(h l:Nat):((kW Y).take h).drop l=kW ((Y.take h).drop l):=by simp[kW,mc,nQ]
theorem zj (Y:Bytes):(kW Y).length=Y.length:=by simp[kW]
theorem Di (Y:Bytes):∀zs,zs∈kW Y->zs.length=1:=by intro zs h;obtain⟨c,-,rfl⟩:=aA.1 h;rfl
theorem aaC (Y:Bytes)(c:UInt8):kW Y++[[.int .u8 (c.toNat:Int)]]=kW (Y++[c]):=by simp[kW]
theorem Nx (x:AV):chunk 1 1 [x]=[[x]]:=rfl
theorem Br (x:AV):∀zs,zs∈chunk 1 1 [x]->zs.length=1:=by intro zs h;rw[Nx]at h;obtain rfl:=aO.1 h;rfl
theorem Tx (s:Bytes):tK s=s++([128]++jy ((120-(s.length+1)%64)%64)++tJ s.length 8):=by simp[tK]
theorem aee (s:Bytes)(hs:s.length<2^40):aj C 191 [.str s] (λr=>r=.val (.agg (cD (QE s)))):=by
 refine dQ [] Tryz.func191 rfl rfl rfl ?_;refine cl Tr.cut ?_;obtain⟨m,hm⟩:∃m,tK s=m:=⟨_,rfl⟩;obtain⟨q,hq,hql⟩:=QH s;have hlen:m.length=64*q:=by rw[<-hm];exact hq
 have hq2:(tK s).length/64=q:=by rw[hq];omega
 obtain⟨Z,hZ⟩:∃Z,(120-(s.length+1)%64)%64=Z:=⟨_,rfl⟩;have aef:=Tx s;rw[hm,hZ]at aef;obtain⟨p,hp⟩:∃p,s.length/64=p:=⟨_,rfl⟩;refine cl (Tw s).cut ?_;refine⟨_,rfl,rfl,rfl,rfl,?_⟩;refine⟨dD,(p:Int),by rw[<-hp];show IntKind.i64.wrap ((s.length:Int).tdiv ((64:Nat):Int))=_;rw[af1,wrap64 oO oO],?_⟩;refine nx (64*p) ?_;refine vz 67 1000 (λk:Nat=>[(0,.mZ 1000000),(1,.p (.imp [.str s])),(3,.p (.int .i64 ((64*p:Nat):Int))),(4,.p (.int .i64 ((64*k:Nat):Int)))]) (λk=>[(2,aF (cD bz)),(3,aF (cH (vB m k)))]) (λ_=>[(38,0,[(2,.ptr 2 0),(3,.ptr 3 0)])]) [.ready] (λ_=>[]) (λ_=>[]) (λ_=>[]) (λk=>k<=p) (λk=>p-k) 0 oO rfl wS oS ⟨rfl,wS,trivial⟩ trivial trivial trivial ?_;intro k hk;refine az (λhlt=>?_) (λhge=>?_);have hlt:k<p:=by have :((64*k:Nat):Int)<((64*p:Nat):Int):=hlt;omega
 have hin:64*k+64<=s.length:=oO
 refine nx (64*k+64) ?_;refine⟨64*k+64,rfl,64*k,rfl,oO,hin,_,rfl,?_⟩;refine⟨rfl,?_⟩;refine⟨_,(FF (vB m k) ((s.take (64*k+64)).drop (64*k)) (by rw[cL,aH];omega)).cut,λr hr=>?_⟩;have e:Dc (vB m k) ((s.take (64*k+64)).drop (64*k))=vB m (k+1):=by rw[aed (R:=[128]++jy Z++tJ s.length 8) hin,<-aef];rfl
 rw[e]at hr;subst hr;refine bq ?_;refine nx (64*(k+1)) ?_;refine mN (k+1) hlt (by show p-(k+1)<p-k;omega) rfl wS oS ⟨rfl,wS,trivial⟩ trivial trivial trivial;obtain rfl:k=p:=by have :¬((64*k:Nat):Int)<((64*p:Nat):Int):=hge;omega
 have tW:64*k<=s.length:=oO
 refine⟨64*k,rfl,oO,ay _,s.drop (64*k),by rw[aP],?_⟩;have hsk:s.drop (64*k)++([128]++jy Z++tJ s.length 8)=m.drop (64*k):=by rw[aef,Co tW]
 have aiP:(s.drop (64*k)).length=s.length-64*k:=cL;generalize s.drop (64*k)=X at hsk aiP;refine⟨Di X,Br _,by show((kW X).length+1)*1<=_;rw[zj];omega,kW (X++[128]++jy 0),by simp[kW,jy,Nx],?_⟩;refine vz 67 1000 (λj:Nat=>[(0,.mZ 1000000),(1,.p (.imp [.str s])),(3,.p (.int .i64 ((64*k:Nat):Int))),(5,.eU 1028 5 1 (kW (X++[128]++jy j)))]) (λ_=>[(2,aF (cD bz)),(3,aF (cH (vB m k)))]) (λ_=>[(38,0,[(2,.ptr 2 0),(3,.ptr 3 0)])]) [.ready] (λ_=>[]) (λ_=>[]) (λ_=>[]) (λj=>j<=Z) (λj=>Z-j) 0 oO rfl wS oS ⟨rfl,wS,trivial⟩ trivial trivial trivial ?_;intro j hj;have hYl:(kW (X++[128]++jy j)).length=s.length-64*k+1+j:=by rw[zj];simp[jy,aiP];omega
 refine⟨dD,(((s.length-64*k+1+j)%64:Nat):Int),by rw[hYl];rfl,?_⟩;refine cS (λhne=>?_) (λheq=>?_);have hjZ:j<Z:=by have :¬(((s.length-64*k+1+j)%64:Nat):Int)=56:=hne;omega
 refine⟨Di _,Br _,by rw[hYl];show(s.length-64*k+1+j+1)*1<=_;omega,kW (X++[128]++jy (j+1)),by simp[kW,jy,List.replicate_succ',Nx],?_⟩;refine mN (j+1) hjZ (by show Z-(j+1)<Z-j;omega) rfl wS oS ⟨rfl,wS,trivial⟩ trivial trivial trivial;obtain rfl:j=Z:=by have :(((s.length-64*k+1+j)%64:Nat):Int)=56:=heq;omega
 refine vz 67 1000 (λx:Nat×Bytes=>[(0,.mZ 1000000),(1,.p (.imp [.str s])),(5,.eU 1028 5 1 (kW x.2)),(6,.p (.int .i64 (((8*x.1:Nat):Int)-8)))]) (λ_=>[(2,aF (cD bz)),(3,aF (cH (vB m k)))]) (λ_=>[(38,0,[(2,.ptr 2 0),(3,.ptr 3 0)])]) [.ready] (λ_=>[]) (λ_=>[]) (λ_=>[]) (λx=>x.1<=8/\x.2++tJ s.length x.1=m.drop (64*k)/\x.2.length<=2^41) (λx=>x.1) (8,X++[128]++jy j) ⟨ay 8,by rw[<-hsk];simp,by rw[<-zj,hYl];omega⟩ rfl wS oS ⟨rfl,wS,trivial⟩ trivial trivial trivial ?_;rintro⟨i,Y⟩ ⟨hi,hY,hYn⟩;have hi:i<=8:=hi;have hY:Y++tJ s.length i=m.drop (64*k):=hY;have hYn:Y.length<=2^41:=hYn;refine az (λald=>?_) (λaaD=>?_);obtain⟨i,rfl⟩:∃i',i=i'+1:=⟨i-1,by have :((8*i:Nat):Int)-8≥0:=ald;omega⟩;have hs8:(((8*(i+1):Nat):Int)-8)=((8*i:Nat):Int):=oO
 have hE:Y.length+(i+1)=64*q-64*k:=by have :=aS List.length hY;rw[au,Ew,cL,hlen]at this;exact this
 refine⟨(s.length:Int),ur oO oO,?_⟩;refine⟨((s.length*8:Nat):Int),by rw[ur oO oO];omega,?_⟩;refine⟨oO,((s.length*8/2^(8*i):Nat):Int),?_,?_⟩;rw[hs8];have :min ((8*i:Nat):Int).toNat IntKind.u64.bits=8*i:=by show min (((8*i:Nat):Int).toNat) 64=8*i;omega
 rw[this];exact af2 _ _;refine⟨_,Ln oO,?_⟩;refine⟨Di _,Br _,by show((kW Y).length+1)*1<=_;rw[zj];omega,kW (Y++[Nu s.length i]),by rw[Nx,aaC],?_⟩;refine⟨((8*i:Nat):Int)-8,by rw[hs8,wrap64 oO oO],?_⟩;refine mN (i,Y++[Nu s.length i]) ⟨by show i<=8;omega,by show Y++[Nu s.length i]++tJ s.length i=_;rw[<-hY];simp[tJ],by show(Y++[_]).length<=_;rw[au];show Y.length+1<=_;omega⟩ (by show i<i+1;omega) rfl wS oS ⟨rfl,wS,trivial⟩ trivial trivial trivial;obtain rfl:i=0:=by have :¬((8*i:Nat):Int)-8≥0:=aaD;omega
 have hY:Y++[]=m.drop (64*k):=hY;rw[bg]at hY;subst hY;have hml:(kW (m.drop (64*k))).length=64*(q-k):=by rw[zj,cL,hlen];omega
 refine vz 67 1000 (λj:Nat=>[(0,.mZ 1000000),(5,.eU 1028 5 1 (kW (m.drop (64*k)))),(7,.p (.int .i64 ((64*j:Nat):Int)))]) (λj=>[(2,aF (cD bz)),(3,aF (cH (vB m (k+j))))]) (λ_=>[(38,0,[(2,.ptr 2 0),(3,.ptr 3 0)])]) [.ready] (λ_=>[]) (λ_=>[]) (λ_=>[]) (λj=>j<=q-k) (λj=>q-k-j) 0 oO rfl wS oS ⟨rfl,wS,trivial⟩ trivial trivial trivial ?_;intro j hjq;refine az (λhlt=>?_) (λhge=>?_);have hlt:j<q-k:=by have :((64*j:Nat):Int)<((kW (m.drop (64*k))).length:Int):=hlt;omega
 refine nx (64*j+64) ?_;refine⟨64*j+64,rfl,64*j,rfl,oO,oO,Di _,kW ((m.take (64*(k+j)+64)).drop (64*(k+j))),by rw[aaB,aaA,show 64*k+64*j=64*(k+j)from oO],?_⟩;refine⟨_,rfl,?_⟩;refine⟨rfl,?_⟩;refine⟨_,(FF (vB m (k+j)) ((m.take (64*(k+j)+64)).drop (64*(k+j))) (by rw[cL,aH];omega)).cut,λr hr=>?_⟩;have e:Dc (vB m (k+j)) ((m.take (64*(k+j)+64)).drop (64*(k+j)))=vB m (k+(j+1)):=rfl;rw[e]at hr;subst hr;refine bq ?_;refine nx (64*(j+1)) ?_;refine mN (j+1) hlt (by show q-k-(j+1)<q-k-j;omega) rfl wS oS ⟨rfl,wS,trivial⟩ trivial trivial trivial;obtain rfl:j=q-k:=by have :¬((64*j:Nat):Int)<((kW (m.drop (64*k))).length:Int):=hge;omega
 have hkq:k+(q-k)=q:=by have :=aS List.length aef;rw[au,hlen]at this;omega
 have hout:=aau s (vB m q) (by rw[hq2,hm]);rw[hkq];generalize vB m q=h at hout⊢;refine bI 38 (λi:Nat=>[(2,.ptr 2 0),(5,.ptr 5 0),(16,.agg (aF (cH h))),(17,.p (.int .i64 (i:Int)))]) (λi=>[(2,aF (cD bz)),(5,aF (cB (bS h (4*i))))]) (λi=>i<=8) (λi=>8-i) 0 oO rfl wS oS ?_;intro i hi8;refine az (λhlt=>?_) (λhge=>?_);have hlt:i<8:=by have :(i:Int)<8:=hlt;omega
 refine⟨i,rfl,hlt,aax (aay h hlt) ?_⟩;refine bI 38 (λj:Nat=>[(2,.ptr 2 0),(5,.ptr 5 0),(6,.p (.int .i64 (i:Int))),(7,.p (.int .u32 (h i))),(16,.agg (aF (cH h))),(17,.p (.int .i64 (i:Int))),(21,.p (.int .i64 (j:Int)))]) (λj=>[(2,aF (cD bz)),(5,aF (cB (bS h (4*i+j))))]) (λj=>j<=4) (λj=>4-j) 0 oO rfl wS oS ?_;intro j hj4;refine az (λeH=>?_) (λvC=>?_);have eH:j<4:=by have :(j:Int)<4:=eH;omega
 have agV:4*i+j<32:=oO
 obtain⟨b1,b2⟩:=af3 (bS h (4*i+j)) (k:=4*i+j) agV;have b3:=aat (bS h (4*i+j)) (k:=4*i+j) agV (Ic h (4*i+j)).toNat;refine nx (4*i) ?_;refine nx (4*i+j) ?_;refine nx (8*j) ?_;refine nx (24-8*j) ?_;refine⟨oO,_,rfl,?_⟩;refine⟨((Ic h (4*i+j)).toNat:Int),?_,?_⟩;have e:((24-8*j:Nat):Int)=24-8*(((4*i+j)%4:Nat):Int):=oO
 show IntKind.u8.wrap (AW (h i) ((24-8*j:Nat):Int))=_;rw[e,show i=(4*i+j)/4 from oO];have e2:(4*((4*i+j)/4)+j)=4*i+j:=oO
 rw[e2];exact(Vy _).symm;refine⟨4*i+j,rfl,agV,true,4*i+j,(by show 0+(4*i+j)*1=4*i+j;omega),?_⟩;refine⟨_,_,_,b1,b2,?_⟩;refine⟨_,b3,?_⟩;exact nx (j+1) (aU (j+1) eH oO rfl wS oS);obtain rfl:j=4:=by have :¬(j:Int)<4:=vC;omega
 exact nx (i+1) (aU (i+1) hlt oO rfl wS oS);obtain rfl:i=8:=by have :¬(i:Int)<8:=hge;omega
 rw[hout];exact rfl
theorem GC {s:Bytes}{c:UInt8}{n:Int}{k:Nat}(h:n.toNat=k)(hc:s[k]?=some c):s[n.toNat]?=some c:=by rw[h];exact hc
def oC (x:Int):Prop:=(97<=x/\x<=122)\/(65<=x/\x<=90)\/(48<=x/\x<=57)\/x=46\/x=95\/x=45
instance (x:Int):Decidable (oC x):=by unfold oC;exact inferInstance
def aaE (c:UInt8):Bool:=decide (oC c.toNat)
def iy (s:Bytes):Bool:=decide (s≠[])&&decide (s≠[46])&&decide (s≠[46,46])&&decide (s.length<=40)&&s.all aaE
theorem jq {s:Bytes}(h:s=[]\/s=[46]\/s=[46,46]\/40<s.length\/∃c,c∈s/\¬oC c.toNat):iy s=false:=by
 cases hq:iy s with
 |false=>rfl
 |true=>simp only[iy,aY,decide_eq_true_eq,bU]at hq;obtain⟨⟨⟨⟨h1,h2⟩,h3⟩,h4⟩,h5⟩:=hq;rcases h with h|h|h|h|⟨c,hc,hn⟩;exact absurd h h1;exact absurd h h2;exact absurd h h3;omega;have :=h5 c hc;simp only[aaE,decide_eq_true_eq]at this;exact absurd this hn
theorem Ie {s:Bytes}(h1:s≠[])(h2:s≠[46])(h3:s≠[46,46])(h4:s.length<=40)(h5:∀c,c∈s->oC c.toNat):iy s=true:=by simp only[iy,aY,decide_eq_true_eq,bU];exact⟨⟨⟨⟨h1,h2⟩,h3⟩,h4⟩,λc hc=>by simp only[aaE,decide_eq_true_eq];exact h5 c hc⟩
theorem Ig (s:Bytes)(hs:s.length<=2^50):aj C 110 [.str s] (λr=>r=.val (.bool (iy s))):=by
 refine ag Tryz.func110 rfl rfl rfl ?_;refine bI 65 (λk:Nat=>[(0,.p (.str s)),(3,.p (.int .i64 k))]) (λ_=>[]) (λk=>k<=s.length/\∀i c,i<k->s[i]?=some c->oC c.toNat) (λk=>s.length-k) 0 ⟨zL,λi c h=>absurd h (gu _)⟩ rfl wS trivial ?_;rintro k ⟨hk,hall⟩;have hw:IntKind.i64.wrap ((k:Int)+1)=((k+1:Nat):Int):=by rw[wrap64 oO oO];omega
 refine az (λhlt=>?_) (λhge=>?_)
 ·have hlt:k<s.length:=by have :(k:Int)<(s.length:Int):=hlt;omega
  obtain⟨c,hc⟩:∃c,s[k]?=some c:=⟨_,aq hlt⟩;refine⟨oO,c,GC rfl hc,?_⟩;have bad:¬oC c.toNat->iy s=false:=λh=>jq (.inr (.inr (.inr (.inr ⟨c,bA hc,h⟩))));have good:oC c.toNat->k+1<=s.length/\∀i d,i<k+1->s[i]?=some d->oC d.toNat:=λh=>⟨hlt,λi d hi hd=>by by_cases hik:i=k;subst hik;rw[hc]at hd;obtain rfl:=an hd;exact h;exact hall i d oO hd⟩;refine⟨none,?_⟩;have aaF:¬oC c.toNat->dh.val (.bool false)=dh.val (.bool (iy s)):=λh=>by rw[bad h]
  repeat' (first|refine az (λh=>?_) (λh=>?_)|refine aD (λh=>?_) (λh=>?_)|refine bq ?_)
  all_goals first|exact aaF (by unfold oC;omega)|exact⟨_,hw,aU (k+1) (good (by unfold oC;omega)) oO rfl wS trivial⟩
 have hge:¬k<s.length:=by intro h;exact hge (show(k:Int)<(s.length:Int)by omega)
 have hn:∀c,c∈s->oC c.toNat:=λc hc=>by obtain⟨i,hi⟩:=iI hc;exact hall i c (by have :=(aC.1 hi).1;omega) hi
 refine⟨none,?_⟩;refine az (λh1=>?_) (λh1=>?_);have hne:s≠[]:=λe=>by rw[e]at h1;exact absurd h1 dD
 refine az (λh2=>?_) (λh2=>?_);refine uK (λh3=>?_) (λh3=>?_);refine uK (λh4=>?_) (λh4=>?_);rw[Ie hne h3 h4 oO hn];exact rfl;rw[jq (.inr (.inr (.inl h4)))];exact rfl;rw[jq (.inr (.inl h3))];exact rfl;rw[jq (.inr (.inr (.inr (.inl oO))))];exact rfl;have hne:s=[]:=by
  cases s with
  |nil=>rfl
  |cons _ _=>exact absurd (show((_:Int)≥1)by simp only[aI];omega) h1
 rw[jq (.inl hne)];exact rfl
theorem Ai {α:Type}{a b:List α}{k:Nat}(hl:a.length=b.length)(hk:k<a.length)(he:a.take k=b.take k)(h:a[k]=b[k]):a.take (k+1)=b.take (k+1):=by rw[<-eS hk,<-eS (show k<b.length by omega),he,h]
theorem Dj {α:Type}{a b:List α}{k:Nat}(hl:a.length=b.length)(hk:¬k<a.length)(he:a.take k=b.take k):a=b:=by rw[cF oO,cF oO]at he;exact he
theorem aaG (a b:List Bytes)(ha:a.length<=2^47)(hb:b.length<=2^47):aj C 143 [Gn a,Gn b] (λr=>r=.val (.bool (decide (a=b)))):=by
 refine ag Tryz.func143 rfl rfl rfl ?_;refine cS (λh=>?_) (λh=>?_);have :a≠b:=λe=>h (by rw[e]);show dh.val (.bool false)=_;simp[this];have hl:a.length=b.length:=by simp only[ai]at h;omega
 refine bI 26 (λk:Nat=>[(0,.p (Gn a)),(1,.p (Gn b)),(5,.p (.int .i64 k))]) (λ_=>[]) (λk=>k<=a.length/\a.take k=b.take k) (λk=>a.length-k) 0 ⟨zL,rfl⟩ rfl wS trivial ?_;rintro k ⟨hk,he⟩;refine bY (λhlt=>?_) (λhge=>?_);have hlb:k<b.length:=oO
 refine cG 8 kK ?_;refine ix hlt ?_;refine ix hlb ?_;refine uK (λh=>?_) (λh=>?_);have :a≠b:=λe=>by subst e;exact h rfl
 show dh.val (.bool false)=_;simp[this];exact nx (k+1) (aU (k+1) ⟨hlt,Ai hl hlt he h⟩ oO rfl wS trivial);have :a=b:=Dj hl hge he;show dh.val (.bool true)=_;simp[this]
theorem aaH (a b:List Dg)(ha:a.length<=2^47)(hb:b.length<=2^47):aj C 113 [.sl (jJ a),.sl (jJ b)] (λr=>r=.val (.bool (decide (a=b)))):=by
 unfold jJ;refine ag Tryz.func113 rfl rfl rfl ?_;refine cS (λh=>?_) (λh=>?_);have :a≠b:=λe=>h (by rw[e]);show dh.val (.bool false)=_;simp[this];have hl:a.length=b.length:=by simp only[ai]at h;omega
 refine bI 26 (λk:Nat=>[(0,.p (.sl (a.map cD))),(1,.p (.sl (b.map cD))),(5,.p (.int .i64 k))]) (λ_=>[]) (λk=>k<=a.length/\a.take k=b.take k) (λk=>a.length-k) 0 ⟨zL,rfl⟩ rfl wS trivial ?_;rintro k ⟨hk,he⟩;refine bY (λhlt=>?_) (λhge=>?_);have hlb:k<b.length:=oO
 refine cG 8 kK ?_;refine ix hlt ?_;refine ix hlb ?_;refine⟨yw,dR,kP,rfl,rfl,?_⟩;refine QB (a:=a[k]) (b:=b[k]) ?_;by_cases h:a[k]=b[k];rw[av h];exact nx (k+1) (aU (k+1) ⟨hlt,Ai hl hlt he h⟩ oO rfl wS trivial);rw[ak h];have :a≠b:=λe=>by subst e;exact h rfl
 show dh.val (.bool false)=_;simp[this];have :a=b:=Dj hl hge he;show dh.val (.bool true)=_;simp[this]
theorem Lp (a b:List bf)(ha:a.length<=2^47)(hb:b.length<=2^47):aj C 23 [.sl (iS a),.sl (iS b)] (λr=>r=.val (.bool (decide (a=b)))):=by
 unfold iS;refine ag Tryz.func23 rfl rfl rfl ?_;refine cS (λh=>?_) (λh=>?_);have :a≠b:=λe=>h (by rw[e]);show dh.val (.bool false)=_;simp[this];have hl:a.length=b.length:=by simp only[ai]at h;omega
 refine bI 26 (λk:Nat=>[(0,.p (.sl (a.map cI))),(1,.p (.sl (b.map cI))),(5,.p (.int .i64 k))]) (λ_=>[]) (λk=>k<=a.length/\a.take k=b.take k) (λk=>a.length-k) 0 ⟨zL,rfl⟩ rfl wS trivial ?_;rintro k ⟨hk,he⟩;refine bY (λhlt=>?_) (λhge=>?_);have hlb:k<b.length:=oO
 refine cG 8 kK ?_;refine ix hlt ?_;refine ix hlb ?_;refine rB ?_;refine FE (a:=a[k]) (b:=b[k]) ?_;by_cases h:a[k]=b[k];rw[av h];exact nx (k+1) (aU (k+1) ⟨hlt,Ai hl hlt he h⟩ oO rfl wS trivial);rw[ak h];have :a≠b:=λe=>by subst e;exact h rfl
 show dh.val (.bool false)=_;simp[this];have :a=b:=Dj hl hge he;show dh.val (.bool true)=_;simp[this]
end Qv
