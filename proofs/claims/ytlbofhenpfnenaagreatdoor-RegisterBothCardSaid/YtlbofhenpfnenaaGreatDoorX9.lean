/- Part 16 of the proof: its lemmas. No condition. -/
import Derived.Test.YtlbofhenpfnenaaGreatDoorX1
set_option maxRecDepth 10000
set_option maxHeartbeats 80000000
set_option linter.all false
open Go Go.RowKit
namespace Qv
def sW (a b:Nat):Nat:=(a+b)%4294967296
def UN (a k:Nat):Nat:=(a*2^k)%4294967296
def Gu (a k:Nat):Nat:=Nat.lor (a/2^k) (UN a (32-k))
def fce {α:Type}(n:Nat)(k:Nat->α):α:=match n with|0=>k 0|m+1=>k (m+1)
theorem Ff {α:Type}(n:Nat)(k:Nat->α):fce n k=k n:=by cases n<;>rfl
theorem wrap32 {n:Nat}(h:n<4294967296):IntKind.u32.wrap (n:Int)=n:=by simp[IntKind.wrap,IntKind.bits,IntKind.signed];omega
theorem AB {n:Nat}:BitVec.ofInt 32 (n:Int)=BitVec.ofNat 32 n:=by simp
theorem yf {a b:Nat}(ha:a<4294967296)(hb:b<4294967296):x32 a b=(Nat.xor a b:Nat):=by have h:Nat.xor a b<2^32:=Nat.xor_lt_two_pow oO oO;show IntKind.u32.wrap (((BitVec.ofInt 32 (a:Int)^^^BitVec.ofInt 32 (b:Int)).toNat:Nat):Int)=_;rw[AB,AB,BitVec.toNat_xor,qy,qy,lX oO,lX oO];exact wrap32 oO
theorem Sn {a b:Nat}(ha:a<4294967296)(hb:b<4294967296):a32 a b=(Nat.land a b:Nat):=by have h:Nat.land a b<2^32:=Nat.and_lt_two_pow a oO;show IntKind.u32.wrap (((BitVec.ofInt 32 (a:Int)&&&BitVec.ofInt 32 (b:Int)).toNat:Nat):Int)=_;rw[AB,AB,BitVec.toNat_and,qy,qy,lX oO,lX oO];exact wrap32 oO
theorem Wo {a b:Nat}(ha:a<4294967296)(hb:b<4294967296):Bq a b=(Nat.lor a b:Nat):=by have h:Nat.lor a b<2^32:=Df oO oO;show IntKind.u32.wrap (((BitVec.ofInt 32 (a:Int)|||BitVec.ofInt 32 (b:Int)).toNat:Nat):Int)=_;rw[AB,AB,BitVec.toNat_or,qy,qy,lX oO,lX oO];exact wrap32 oO
theorem ajF {a:Nat}(ha:a<4294967296):n32 a=(Nat.xor 4294967295 a:Nat):=yf (a:=4294967295) dD ha
theorem jH (a b:Nat):oA a b=(sW a b:Nat):=by show IntKind.u32.wrap ((a:Int)+(b:Int))=_;simp[IntKind.wrap,IntKind.bits,IntKind.signed,sW]
theorem GQ {a k:Nat}(hk:k<=32):AW a (k:Int)=(a/2^k:Nat):=by show(a:Int).fdiv (2^(min (k:Int).toNat 32))=_;rw[lW,nV hk,Dd _ (Int.le_of_lt (Int.pow_pos dD)),Int.natCast_ediv,Int.natCast_pow];rfl
theorem GR {a k:Nat}(hk:k<=32):jb a (k:Int)=(UN a k:Nat):=by show IntKind.u32.wrap ((a:Int)*2^(min (k:Int).toNat 32))=_;rw[lW,nV hk];simp[IntKind.wrap,IntKind.bits,IntKind.signed,UN]
theorem qz (a b:Nat):sW a b<4294967296:=jX _ dD
theorem oc (a k:Nat):UN a k<4294967296:=jX _ dD
theorem Fg {a b:Nat}(ha:a<4294967296)(hb:b<4294967296):Nat.xor a b<4294967296:=Nat.xor_lt_two_pow (n:=32) oO oO
theorem xN {a b:Nat}(hb:b<4294967296):Nat.land a b<4294967296:=Nat.and_lt_two_pow (n:=32) a oO
theorem BS {a b:Nat}(ha:a<4294967296)(hb:b<4294967296):Nat.lor a b<4294967296:=Df (n:=32) oO oO
theorem OL {a:Nat}(k:Nat)(ha:a<4294967296):a/2^k<4294967296:=Nat.lt_of_le_of_lt (Nat.div_le_self _ _) ha
theorem jI {a:Nat}(k:Nat)(ha:a<4294967296):Gu a k<4294967296:=BS (OL k ha) (oc _ _)
theorem rH {a k:Nat}(ha:a<4294967296)(hk:k<=32):uo a (k:Int)=(Gu a k:Nat):=by
 show Bq (AW a (k:Int)) (jb a (32-(k:Int)))=_;have e:(32:Int)-(k:Int)=((32-k:Nat):Int):=oO
 rw[e,GQ hk,GR oO,Wo (OL k ha) (oc _ _)];rfl
def w1N (b:List Nat)(t:Nat):Nat:=Nat.lor (Nat.lor (Nat.lor (UN (b.getD (4*t) 0) 24) (UN (b.getD (4*t+1) 0) 16)) (UN (b.getD (4*t+2) 0) 8)) (b.getD (4*t+3) 0)
def w2N (x2 x7 x15 x16:Nat):Nat:=sW (sW (sW (Nat.xor (Nat.xor (Gu x2 17) (Gu x2 19)) (x2/2^10)) x7) (Nat.xor (Nat.xor (Gu x15 7) (Gu x15 18)) (x15/2^3))) x16
theorem GS (b:Bytes)(i:Nat):ya b i=((b.map UInt8.toNat).getD i 0:Nat):=by unfold ya;rw[oa,oa,aM];cases b[i]?<;>rfl
theorem Wp (b:Bytes)(i:Nat):(b.map UInt8.toNat).getD i 0<4294967296:=by
 rw[oa,aM];cases b[i]?with
 |none=>decide
 |some x=>have :=x.toNat_lt;show x.toNat<_;omega
theorem alY (b:Bytes)(t:Nat):w1F b t=(w1N (b.map UInt8.toNat) t:Nat):=by unfold w1F w1N;rw[GS,GS,GS,GS,show(24:Int)=((24:Nat):Int)from rfl,show(16:Int)=((16:Nat):Int)from rfl,show(8:Int)=((8:Nat):Int)from rfl,GR dD,GR dD,GR dD,Wo (oc _ _) (oc _ _),Wo (BS (oc _ _) (oc _ _)) (oc _ _),Wo (BS (BS (oc _ _) (oc _ _)) (oc _ _)) (Wp _ _)]
theorem ajG (b:Bytes)(t:Nat):w1N (b.map UInt8.toNat) t<4294967296:=BS (BS (BS (oc _ _) (oc _ _)) (oc _ _)) (Wp _ _)
theorem alZ {f:Nat->Int}{t x2 x7 x15 x16:Nat}(h2:f (t-2)=(x2:Nat))(h7:f (t-7)=(x7:Nat))(h15:f (t-15)=(x15:Nat))(h16:f (t-16)=(x16:Nat))(l2:x2<4294967296)(l15:x15<4294967296):YZ f t=(w2N x2 x7 x15 x16:Nat):=by unfold YZ w2N;rw[h2,h7,h15,h16,show(17:Int)=((17:Nat):Int)from rfl,show(19:Int)=((19:Nat):Int)from rfl,show(10:Int)=((10:Nat):Int)from rfl,show(7:Int)=((7:Nat):Int)from rfl,show(18:Int)=((18:Nat):Int)from rfl,show(3:Int)=((3:Nat):Int)from rfl,rH l2 dD,rH l2 dD,GQ dD,rH l15 dD,rH l15 dD,GQ dD,yf (jI _ l2) (jI _ l2),yf (Fg (jI _ l2) (jI _ l2)) (OL _ l2),yf (jI _ l15) (jI _ l15),yf (Fg (jI _ l15) (jI _ l15)) (OL _ l15),jH,jH,jH]
def YM (b:List Nat):Nat->List Nat|0=>[]|t+1=>fce (w1N b t) λx=>x::YM b t
def YN:Nat->List Nat->List Nat|0,l=>l|n+1,l=>fce (w2N (l.getD 1 0) (l.getD 6 0) (l.getD 14 0) (l.getD 15 0)) λx=>YN n (x::l)
structure WOk (b:Bytes)(t:Nat)(l:List Nat):Prop where
 len:l.length=t
 at_:∀i,i<t->qC b t i=((l.getD (t-1-i) 0:Nat):Int)
 lt:∀i,l.getD i 0<4294967296
theorem Sq {b:Bytes}{t:Nat}{l:List Nat}(h:WOk b t l){x:Nat}(hx:x<4294967296)(hv:(if t<16 then w1F b t else YZ (qC b t) t)=(x:Int)):WOk b (t+1) (x::l):=by
 refine⟨by rw[aI,h.len],λi hi=>?_,λi=>?_⟩;show pK (qC b t) t _ i=_;by_cases e:i=t;subst e;rw[qb,hv];simp;rw[sN _ _ _ i e,h.at_ i oO];have :t+1-1-i=(t-1-i)+1:=oO
 rw[this];rfl;cases i with
 |zero=>exact hx
 |succ i=>exact h.lt i
theorem Wq (b:Bytes):∀t,t<=16->WOk b t (YM (b.map UInt8.toNat) t)|0,_=>⟨rfl,λi hi=>absurd hi (gu _),λi=>by show([]:List Nat).getD i 0<_;simp⟩|t+1,ht=>by unfold YM;rw[Ff];refine Sq (Wq b t oO) (ajG b t) ?_;rw[af oO];exact alY b t
theorem Wr (b:Bytes):∀n t l,16<=t->WOk b t l->WOk b (t+n) (YN n l)
 |0,t,l,_,h=>h
 |n+1,t,l,ht,h=>by
  unfold YN;rw[Ff];have :=Wr b n (t+1) (w2N (l.getD 1 0) (l.getD 6 0) (l.getD 14 0) (l.getD 15 0)::l) oO ?_;rw[show t+(n+1)=t+1+n from oO];exact this;refine Sq h (qz _ _) ?_;rw[aa oO];have g:∀k,k<t->0<k->qC b t (t-k)=((l.getD (k-1) 0:Nat):Int):=λk hk h0=>by rw[h.at_ (t-k) oO];congr 2;omega
  refine alZ (g 2 oO dD) (g 7 oO dD) (g 15 oO dD) ?_ (h.lt 1) (h.lt 14);by_cases e:t=16;subst e;rw[h.at_ (16-16) dD];exact g 16 oO dD
theorem Ws {α:Type}{l:List α}{i:Nat}{d:α}(h:i<l.length):l.getD i d=l[i]:=by rw[oa,aq h];rfl
def t1N (e f g h k w:Nat):Nat:=sW (sW (sW (sW h (Nat.xor (Nat.xor (Gu e 6) (Gu e 11)) (Gu e 25))) (Nat.xor (Nat.land e f) (Nat.land (Nat.xor 4294967295 e) g))) k) w
def t2N (a b c:Nat):Nat:=sW (Nat.xor (Nat.xor (Gu a 2) (Gu a 13)) (Gu a 22)) (Nat.xor (Nat.xor (Nat.land a b) (Nat.land a c)) (Nat.land b c))
def runN:List Nat->List Nat->Nat->Nat->Nat->Nat->Nat->Nat->Nat->Nat->List Nat|k::ks,w::ws,a,b,c,d,e,f,g,h=>fce (t1N e f g h k w) λt1=>fce (sW t1 (t2N a b c)) λa'=>fce (sW d t1) λe'=>runN ks ws a' a b c e' e f g|_,_,a,b,c,d,e,f,g,h=>[a,b,c,d,e,f,g,h]
theorem al0 {v:Nat->Int}{e f g h k w:Nat}(h4:v 4=(e:Nat))(h5:v 5=(f:Nat))(h6:v 6=(g:Nat))(h7:v 7=(h:Nat))(le:e<4294967296)(lf:f<4294967296)(lg:g<4294967296):t1F v k w=(t1N e f g h k w:Nat):=by unfold t1F t1N;rw[h4,h5,h6,h7,show(6:Int)=((6:Nat):Int)from rfl,show(11:Int)=((11:Nat):Int)from rfl,show(25:Int)=((25:Nat):Int)from rfl,rH le dD,rH le dD,rH le dD,yf (jI _ le) (jI _ le),yf (Fg (jI _ le) (jI _ le)) (jI _ le),Sn le lf,ajF le,Sn (Fg dD le) lg,yf (xN lf) (xN lg),jH,jH,jH,jH]
theorem al1 {v:Nat->Int}{a b c:Nat}(h0:v 0=(a:Nat))(h1:v 1=(b:Nat))(h2:v 2=(c:Nat))(la:a<4294967296)(lb:b<4294967296)(lc:c<4294967296):t2F v=(t2N a b c:Nat):=by unfold t2F t2N;rw[h0,h1,h2,show(2:Int)=((2:Nat):Int)from rfl,show(13:Int)=((13:Nat):Int)from rfl,show(22:Int)=((22:Nat):Int)from rfl,rH la dD,rH la dD,rH la dD,yf (jI _ la) (jI _ la),yf (Fg (jI _ la) (jI _ la)) (jI _ la),Sn la lb,Sn la lc,Sn lb lc,yf (xN lb) (xN lc),yf (Fg (xN lb) (xN lc)) (xN lc),jH]
structure EOk (v:Nat->Int)(a b c d e f g h:Nat):Prop where
 v0:v 0=(a:Nat)
 v1:v 1=(b:Nat)
 v2:v 2=(c:Nat)
 v3:v 3=(d:Nat)
 v4:v 4=(e:Nat)
 v5:v 5=(f:Nat)
 v6:v 6=(g:Nat)
 v7:v 7=(h:Nat)
 l0:a<4294967296
 l1:b<4294967296
 l2:c<4294967296
 l4:e<4294967296
 l5:f<4294967296
 l6:g<4294967296
 l3:d<4294967296
 l7:h<4294967296
theorem afr {v:Nat->Int}{a b c d e f g h:Nat}(E:EOk v a b c d e f g h)(k w:Nat):EOk (agT v k w) (sW (t1N e f g h k w) (t2N a b c)) a b c (sW d (t1N e f g h k w)) e f g:=by have e1:=al0 (k:=k) (w:=w) E.v4 E.v5 E.v6 E.v7 E.l4 E.l5 E.l6;have e2:=al1 E.v0 E.v1 E.v2 E.l0 E.l1 E.l2;refine⟨?_,E.v0,E.v1,E.v2,?_,E.v4,E.v5,E.v6,qz _ _,E.l0,E.l1,qz _ _,E.l4,E.l5,E.l2,E.l6⟩;show oA (t1F v k w) (t2F v)=_;rw[e1,e2,jH];show oA (v 3) (t1F v k w)=_;rw[e1,E.v3,jH]
def kN:List Nat:=kL.map Int.toNat
theorem al2:∀t,t<64->kF t=(kN.getD t 0:Nat):=dD
theorem Wt (h w:Nat->Int)(ws:List Nat)(hw:ws.length=64)(hws:∀i,i<64->w i=(ws.getD i 0:Nat)):∀n t a b c d e f g z,t+n=64->EOk (vS h w t) a b c d e f g z->∃a' b' c' d' e' f' g' z',runN (kN.drop t) (ws.drop t) a b c d e f g z=[a',b',c',d',e',f',g',z']/\EOk (vS h w 64) a' b' c' d' e' f' g' z'
 |0,t,a,b,c,d,e,f,g,z,ht,E=>by
  obtain rfl:t=64:=oO
  refine⟨a,b,c,d,e,f,g,z,?_,E⟩;rw[dG (by show kN.length<=64;decide)];rfl
 |n+1,t,a,b,c,d,e,f,g,z,ht,E=>by
  have hk:t<kN.length:=by show t<64;omega
  have hw':t<ws.length:=oO
  rw[bQ hk,bQ hw'];unfold runN;rw[Ff,Ff,Ff];refine Wt h w ws hw hws n (t+1) _ _ _ _ _ _ _ _ oO ?_;show EOk (agT (vS h w t) (kF t) (w t)) _ _ _ _ _ _ _ _;rw[al2 t oO,hws t oO,Ws hk,Ws hw'];exact afr E _ _
theorem acU (h v:Nat->Int):∀k i,hS h v k i=if i<k then oA (h i) (v i)else h i|0,i=>rfl|k+1,i=>by show pK (hS h v k) k (oA (hS h v k k) (v k)) i=_;by_cases e:i=k;subst e;rw[qb,acU h v i i,aa (sR _),af (DO _)];rw[sN _ _ _ i e,acU h v k i];by_cases h1:i<k;rw[af h1,af oO];rw[aa h1,aa oO]
def Wu:List Nat->List Nat->List Nat|x::xs,y::ys=>fce (sW x y) λz=>z::Wu xs ys|_,_=>[]
def acV:List Nat->List Nat->List Nat|[a,b,c,d,e,f,g,h],m=>Wu [a,b,c,d,e,f,g,h] (runN kN (YN 48 (YM m 16)).reverse a b c d e f g h)|_,_=>[]
theorem acW {v:Nat->Int}{a b c d e f g h:Nat}(E:EOk v a b c d e f g h)(m:Bytes):∃a' b' c' d' e' f' g' h',acV [a,b,c,d,e,f,g,h] (m.map UInt8.toNat)=[a',b',c',d',e',f',g',h']/\EOk (Dc v m) a' b' c' d' e' f' g' h':=by
 have hW:=Wr m 48 16 _ dD (Wq m 16 dD);have hl:(YN 48 (YM (m.map UInt8.toNat) 16)).reverse.length=64:=by rw[List.length_reverse,hW.len]
 have hr:=Wt v (qC m 64) (YN 48 (YM (m.map UInt8.toNat) 16)).reverse hl (λi hi=>by rw[hW.at_ i hi];congr 1;rw[oa,oa,List.getElem?_reverse (by rw[hW.len];exact hi),hW.len]) 64 0 a b c d e f g h rfl E;obtain⟨a',b',c',d',e',f',g',h',h1,h2⟩:=hr;refine⟨sW a a',sW b b',sW c c',sW d d',sW e e',sW f f',sW g g',sW h h',?_,?_⟩;show Wu _ (runN kN _ a b c d e f g h)=_;rw[wR,wR]at h1;rw[h1];simp only[Wu,Ff];have at_:∀i,i<8->Dc v m i=oA (v i) (vS v (qC m 64) 64 i):=λi hi=>by show hS v _ 8 i=_;rw[acU,af hi]
 exact⟨by rw[at_ 0 dD,E.v0,h2.v0,jH],by rw[at_ 1 dD,E.v1,h2.v1,jH],by rw[at_ 2 dD,E.v2,h2.v2,jH],by rw[at_ 3 dD,E.v3,h2.v3,jH],by rw[at_ 4 dD,E.v4,h2.v4,jH],by rw[at_ 5 dD,E.v5,h2.v5,jH],by rw[at_ 6 dD,E.v6,h2.v6,jH],by rw[at_ 7 dD,E.v7,h2.v7,jH],qz _ _,qz _ _,qz _ _,qz _ _,qz _ _,qz _ _,qz _ _,qz _ _⟩
def afs (m:List Nat):Nat->List Nat|0=>[1779033703,3144134277,1013904242,2773480762,1359893119,2600822924,528734635,1541459225]|i+1=>acV (afs m i) ((m.take (64*i+64)).drop (64*i))
theorem Wv (m:Bytes):∀n,∃a b c d e f g h,afs (m.map UInt8.toNat) n=[a,b,c,d,e,f,g,h]/\EOk (vB m n) a b c d e f g h|0=>⟨_,_,_,_,_,_,_,_,rfl,rfl,rfl,rfl,rfl,rfl,rfl,rfl,rfl,dD,dD,dD,dD,dD,dD,dD,dD⟩|n+1=>by obtain⟨a,b,c,d,e,f,g,h,h1,h2⟩:=Wv m n;obtain⟨a',b',c',d',e',f',g',h',h3,h4⟩:=acW h2 ((m.take (64*n+64)).drop (64*n));refine⟨a',b',c',d',e',f',g',h',?_,h4⟩;show acV (afs _ n) _=_;rw[h1,<-h3,nQ,mc]
def afu (l:List Nat)(i:Nat):UInt8:=UInt8.ofNat (l.getD (i/4) 0/2^(24-8*(i%4))%256)
def ajJ (s:Bytes):List UInt8:=(List.range 32).map (afu (afs ((tK s).map UInt8.toNat) ((tK s).length/64)))
theorem ahL {v:Nat->Int}{a b c d e f g h:Nat}(E:EOk v a b c d e f g h)(i:Nat)(hi:i<32):Ic v i=afu [a,b,c,d,e,f,g,h] i:=by
 have hv:∀j,j<8->v j=(([a,b,c,d,e,f,g,h]:List Nat).getD j 0:Nat):=λj hj=>by
  match j,hj with
   |0,_=>exact E.v0
   |1,_=>exact E.v1
   |2,_=>exact E.v2
   |3,_=>exact E.v3
   |4,_=>exact E.v4
   |5,_=>exact E.v5
   |6,_=>exact E.v6
   |7,_=>exact E.v7
 unfold Ic afu;rw[hv (i/4) oO];have e:(24:Int)-8*((i%4:Nat):Int)=((24-8*(i%4):Nat):Int):=oO
 rw[e,GQ oO];congr 1
theorem ajK (s:Bytes):(QE s).1=ajJ s:=by obtain⟨a,b,c,d,e,f,g,h,h1,h2⟩:=Wv (tK s) ((tK s).length/64);show(List.range 32).map (Ic _)=(List.range 32).map (afu _);rw[h1];refine fR λi hi=>ahL h2 i (iL.1 hi)
end Qv
