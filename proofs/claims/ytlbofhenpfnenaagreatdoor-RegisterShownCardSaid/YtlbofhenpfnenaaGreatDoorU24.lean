/- Part 24 of the proof: its lemmas. No condition. -/
import Derived.Test.YtlbofhenpfnenaaGreatDoorU1
import Derived.Test.YtlbofhenpfnenaaGreatDoorU21
import Derived.Test.YtlbofhenpfnenaaGreatDoorU23
import Derived.JoinedCond
import Derived.Test.YtlbofhenpfnenaaGreatDoorCards
import Derived.Test.YtlbofhenpfnenaaGreatDoorTie
import Derived.KernelRfl
import Derived.ProofKit
import Derived.OpenShut
import Derived.Deep.DeepHandedRow
import Derived.Deep.DeepWitnessRowRef
import Derived.Shelf.Vars
set_option maxRecDepth 10000
set_option maxHeartbeats 80000000
set_option linter.all false
namespace Qv
open Go
def BR (T:List (List Nat)):Nat->List Nat->List Nat->List Nat|0,_,seen=>seen.reverse|_,[],seen=>seen.reverse|n+1,f::todo,seen=>if seen.contains f then BR T n todo seen else BR T n ((T[f]?).getD []++todo) (f::seen)
theorem abc {P:Program}{T:List (List Nat)}(hT:P.funcs.toList.map P.leadsTo=T)(f:Nat):(P.funcs[f]?).elim [] P.leadsTo=(T[f]?).getD []:=by subst hT;rw[aR,<-sX];cases P.funcs.toList[f]?<;>rfl
theorem Fj {P:Program}{T:List (List Nat)}(hT:P.funcs.toList.map P.leadsTo=T):∀(n:Nat)(todo seen:List Nat),P.closureVia n todo seen=BR T n todo seen
 |0,todo,seen=>by cases todo<;>rfl
 |n+1,[],seen=>rfl
 |n+1,f::todo,seen=>by show(if seen.contains f then P.closureVia n todo seen else P.closureVia n ((P.funcs[f]?).elim [] P.leadsTo++todo) (f::seen))=if seen.contains f then BR T n todo seen else BR T n ((T[f]?).getD []++todo) (f::seen);rw[Fj hT n,Fj hT n,abc hT]
def IW (T:List (List Nat)):Nat->List Nat->List Nat->Nat->List Nat|0,_,seen,_=>seen.reverse|_+1,[],seen,_=>seen.reverse|n+1,f::todo,seen,m=>match Nat.testBit m f with|true=>IW T n todo seen m|false=>IW T n ((T[f]?).getD []++todo) (f::seen) (m|||2^f)
theorem Fk (T:List (List Nat)):∀(n:Nat)(todo seen:List Nat)(m:Nat),(∀f,Nat.testBit m f=seen.contains f)->IW T n todo seen m=BR T n todo seen
 |0,todo,seen,m,_=>by cases todo<;>rfl
 |n+1,[],seen,m,_=>rfl
 |n+1,f::todo,seen,m,h=>by
  have hf:=h f;unfold IW BR;cases hb:Nat.testBit m f with
  |true=>rw[hb]at hf;rw[af hf.symm];exact Fk T n todo seen m h
  |false=>rw[hb]at hf;rw[aa (by rw[<-hf];simp)];refine Fk T n _ (f::seen) _ λg=>?_;rw[Nat.testBit_or,Nat.testBit_two_pow,h g,List.contains_cons];by_cases hg:f=g;subst hg;simp;have :¬g=f:=λe=>hg e.symm;simp[hg,this]
theorem qX {P:Program}{T:List (List Nat)}(f:Nat)(L:List Nat)(hT:P.funcs.toList.map P.leadsTo=T)(h:IW T (1+(T.map λl=>l.length+1).sum) [f] [] 0=L):P.closure f=L:=by
 unfold Program.closure;have e:(P.funcs.toList.map λg=>(P.leadsTo g).length+1)=T.map λl=>l.length+1:=by rw[<-hT,gZ];rfl
 rw[e,Fj hT,<-Fk T _ [f] [] 0 (λg=>by simp)];exact h
end Qv
namespace Go.Proofs.YtlbofhenpfnenaaGreatDoor.door
open Go Qv Go.ChangeShapes Go.WideShapes Go.ChangeAt Go.RowKit
def aha:List (List Nat):=[[],[],[1],[11,13,14,12,15],[11,15,16,15,20,19,18,17,15,20,21,15],[11,15,16,15,20,19,18,18,17,17,17,17,15,20,19,22,19,22,21,21,13,19,23,24,15],[11,15,20,26,25,21,27,28,29,15],[11,15,16,15,20,20,21,28,21,28,13,24,24,15],[15,30,31,15],[15,30,15,30,15],[15,30,15,15],[32,33],[34],[35,24,36,37,36,40,44,43],[45,46,47,48,49],[17,18,17,18,17,20,13,21,50,21],[51],[52],[],[53],[55,56,54],[20,57,39],[],[],[58,59,60],[61],[45,46,47],[26],[20,62,42],[26],[63],[],[64],[65,66,67,69,68,70,71],[23],[59],[72],[38,39],[76,75],[],[41,42],[77,75],[],[],[43],[67,78],[79],[22],[],[45,80,81,82],[66],[65,83,84,84,84,84,84,53],[65,85,86,67,69,68,71,87],[50],[88],[89,90,91,54],[],[],[92,93,94,88],[90,89],[95],[23],[],[96],[97],[98,99],[],[],[100],[101,102,103,102],[100,69,68,66],[104],[55,73,74,54],[],[],[88],[],[],[85,51],[45,105,106],[],[46,22],[79,107,108,109],[110,111,112],[103],[],[113,114],[66],[],[115,90],[93,116,117],[],[120,119],[121],[],[122,123,125,124],[],[127],[83,128],[129,130],[],[98],[66],[],[131,132,133,131,132,134,135,135,131,132,137,136],[70,78,22],[22,53],[138,105,106],[80],[139,67,100,100],[],[103,66],[140,141,142],[],[143,23],[144],[145],[118],[146,147],[],[],[148,149,150,152,118],[58,115,152,118],[153],[154],[126],[155,156],[],[157,158,161,161,161,162,160,160,160,159],[163],[164,165,166,166,166,166,166,166],[],[85,51],[167],[],[131,132,137,168],[169,169],[],[45],[67,68,102,85,69,102],[171,170,110,172,173],[175,133,174,176,175,174,167,175,168,174,175,136,174,167],[],[],[177],[181,181,182,182],[183],[184,184],[185,186,187,188,189],[190,191],[151],[],[193,192],[],[],[194,195],[196],[103,161,197,161],[162,198,162,198,161,162,161,198,198,161,160,199,160],[200,201],[],[],[202],[],[166,166,166,166],[],[],[],[],[],[203,203,203,203],[203,203,203,203,203,203],[204],[50],[205,103],[103],[],[179,178,92,93,180],[206],[194,207,119],[210],[],[211,182,182],[],[],[212,213],[214,212,215,118],[216,151,151],[217],[219,219,220,221,222,219,220,220,220,222,219,223],[148],[224,225,226],[227,228,229,230,231,232,233,234,192,192],[235,236],[237],[238,239,213],[],[],[157,162,160],[198,160],[240,241],[242,201],[242],[],[243],[103],[],[209,208],[244],[],[],[245,245,245],[],[146],[246],[248,248],[249,250,251,252,176,253,254,255],[218],[],[],[],[257,258,261,262,263,265,266],[267],[268,269,270],[],[271],[272,273,274,274,274,274,274,274],[],[275,275],[276,277],[278,278,278,279],[],[],[],[],[],[],[280,281,216,151,239,213,282],[],[193,283],[240],[241],[242,242],[],[],[],[247],[284],[285],[],[],[],[],[],[],[256],[],[222],[259,259,220,260],[151,220,222,219,220,222,219],[219,259],[259,222,260],[259,220,260],[259,259,259,264],[219,220],[259,259,259,260],[260],[286],[287,288],[286,289,290,289,290,269,290],[],[],[274,274,274,274],[],[291],[],[193],[],[279],[292,292,292],[148],[],[],[293,294,295,296,297,298,299,300,283,283],[],[301],[302],[287],[288],[303],[303],[],[],[],[304,304],[276,277],[305,305,305,306],[],[],[],[],[],[307],[308],[],[306],[309,309,309],[310,311,312,313],[],[],[],[236,314,315],[],[316,317],[],[],[],[318,319],[],[],[],[],[],[],[],[],[],[],[],[],[],[],[],[],[],[],[],[],[],[],[],[],[],[]]
theorem tQ:Tryz.prog.funcs.toList.map Tryz.prog.leadsTo=aha:=by kernel_rfl
theorem bJ {a b:Bool}(ha:a=true)(hb:b=true):(a&&b)=true:=by rw[ha,hb];rfl
theorem Fl:mapsRowed Tryz.prog=true:=by kernel_rfl
theorem AK:Tryz.prog.stopsHeard=true:=by kernel_rfl
theorem AL:Tryz.prog.mayEnter=true:=by kernel_rfl
theorem own:ownKnob Tryz.prog.godebug=none:=by kernel_rfl
theorem g3:Tryz.prog.globalNamed "math/bits.deBruijn64tab" =some 3:=by kernel_rfl
def three:List (String×DataW Unit):=[("math/bits.deBruijn32tab",Rows.laid_math_bits_deBruijn32tab),("math/bits.deBruijn64tab",Rows.laid_math_bits_deBruijn64tab),("internal/strconv.uint64pow10",Rows.laid_internal_strconv_uint64pow10)]
theorem listed {W:World}(h:laidMetH Tryz.prog three W):(aaN W/\pz (λb _=>b<W.heap.size) W)/\4<=W.heap.size:=by have h':laidMet Tryz.prog three W:=h;exact⟨⟨aeh IM (t:=322) (by kernel_rfl) Tryz.underlying322 (by kernel_rfl) (by kernel_rfl) (by kernel_rfl) h' (.tail _ (.tail _ (.head _))),λg xs hg=>by cases hg⟩,aei g3 h' (.tail _ (.head _))⟩
def agp:DataW Unit->List Value|.lit (.int k n)=>[Value.int k n]|_=>[undef]
def HT:DataW Unit->List Value|.agg l=>l.flatMap agp|d=>agp d
def IX:DataW Unit->Array Value|.agg l=>(l.flatMap HT).toArray|_=>#[]
def lay (c:Array Value):Obj->Obj|.cells _ t frozen=>.cells c t frozen|o=>o
noncomputable def fS (os:Os):World:={World.holding Tryz.prog os ⟨#[],#[],[]⟩with heap:=(((World.holding Tryz.prog os ⟨#[],#[],[]⟩).heap.modify 1 (lay (IX Rows.laid_internal_strconv_uint64pow10))).modify 2 (lay (IX Rows.laid_math_bits_deBruijn32tab))).modify 3 (lay (IX Rows.laid_math_bits_deBruijn64tab))}
theorem tR (os:Os)(args:Array Value):laidMet Tryz.prog three ((fS os).forCall (λ_ _=>0) ⟨#[],args,[]⟩).memory:=laidMet_of_run' 8 (by kernel_rfl) (by kernel_rfl)
theorem Oa:(qW.all λt=>!Tryz.pinned.checked.prog.wantsStandIn t)=true:=by kernel_rfl
theorem wm (t:TypeId)(h:t∈qW):Tryz.pinned.checked.prog.wantsStandIn t=false:=by have :=List.all_eq_true.1 Oa t h;simpa using this
theorem mR {l:Array TypeId}{j:Nat}{t:TypeId}(hl:(l.toList.all λt=>qW.contains t)=true)(h:l[j]?=some t):t∈qW:=by have :=List.all_eq_true.1 hl t (by simpa using Array.mem_of_getElem? h);simpa using this
end Go.Proofs.YtlbofhenpfnenaaGreatDoor.door
open Go Go.RowKit
namespace Qv
def tB (a b:Nat):Nat:=(a+b)%4294967296
def TU (a k:Nat):Nat:=(a*2^k)%4294967296
def Hg (a k:Nat):Nat:=Nat.lor (a/2^k) (TU a (32-k))
def fce {α:Type}(n:Nat)(k:Nat->α):α:=match n with|0=>k 0|m+1=>k (m+1)
theorem Fm {α:Type}(n:Nat)(k:Nat->α):fce n k=k n:=by cases n<;>rfl
theorem wrap32 {n:Nat}(h:n<4294967296):IntKind.u32.wrap (n:Int)=n:=by simp[IntKind.wrap,IntKind.bits,IntKind.signed];omega
theorem AM {n:Nat}:BitVec.ofInt 32 (n:Int)=BitVec.ofNat 32 n:=by simp
theorem yJ {a b:Nat}(ha:a<4294967296)(hb:b<4294967296):x32 a b=(Nat.xor a b:Nat):=by have h:Nat.xor a b<2^32:=Nat.xor_lt_two_pow oO oO;show IntKind.u32.wrap (((BitVec.ofInt 32 (a:Int)^^^BitVec.ofInt 32 (b:Int)).toNat:Nat):Int)=_;rw[AM,AM,BitVec.toNat_xor,qi,qi,lZ oO,lZ oO];exact wrap32 oO
theorem Rq {a b:Nat}(ha:a<4294967296)(hb:b<4294967296):a32 a b=(Nat.land a b:Nat):=by have h:Nat.land a b<2^32:=Nat.and_lt_two_pow a oO;show IntKind.u32.wrap (((BitVec.ofInt 32 (a:Int)&&&BitVec.ofInt 32 (b:Int)).toNat:Nat):Int)=_;rw[AM,AM,BitVec.toNat_and,qi,qi,lZ oO,lZ oO];exact wrap32 oO
theorem Wh {a b:Nat}(ha:a<4294967296)(hb:b<4294967296):BO a b=(Nat.lor a b:Nat):=by have h:Nat.lor a b<2^32:=DG oO oO;show IntKind.u32.wrap (((BitVec.ofInt 32 (a:Int)|||BitVec.ofInt 32 (b:Int)).toNat:Nat):Int)=_;rw[AM,AM,BitVec.toNat_or,qi,qi,lZ oO,lZ oO];exact wrap32 oO
theorem ajb {a:Nat}(ha:a<4294967296):n32 a=(Nat.xor 4294967295 a:Nat):=yJ (a:=4294967295) dD ha
theorem jS (a b:Nat):oL a b=(tB a b:Nat):=by show IntKind.u32.wrap ((a:Int)+(b:Int))=_;simp[IntKind.wrap,IntKind.bits,IntKind.signed,tB]
theorem Hy {a k:Nat}(hk:k<=32):Br a (k:Int)=(a/2^k:Nat):=by show(a:Int).fdiv (2^(min (k:Int).toNat 32))=_;rw[gR,nY hk,DE _ (Int.le_of_lt (Int.pow_pos dD)),Int.natCast_ediv,Int.natCast_pow];rfl
theorem Hz {a k:Nat}(hk:k<=32):jq a (k:Int)=(TU a k:Nat):=by show IntKind.u32.wrap ((a:Int)*2^(min (k:Int).toNat 32))=_;rw[gR,nY hk];simp[IntKind.wrap,IntKind.bits,IntKind.signed,TU]
theorem qj (a b:Nat):tB a b<4294967296:=kr _ dD
theorem nZ (a k:Nat):TU a k<4294967296:=kr _ dD
theorem Fo {a b:Nat}(ha:a<4294967296)(hb:b<4294967296):Nat.xor a b<4294967296:=Nat.xor_lt_two_pow (n:=32) oO oO
theorem xP {a b:Nat}(hb:b<4294967296):Nat.land a b<4294967296:=Nat.and_lt_two_pow (n:=32) a oO
theorem BS {a b:Nat}(ha:a<4294967296)(hb:b<4294967296):Nat.lor a b<4294967296:=DG (n:=32) oO oO
theorem Ob {a:Nat}(k:Nat)(ha:a<4294967296):a/2^k<4294967296:=Nat.lt_of_le_of_lt (Nat.div_le_self _ _) ha
theorem jT {a:Nat}(k:Nat)(ha:a<4294967296):Hg a k<4294967296:=BS (Ob k ha) (nZ _ _)
theorem rO {a k:Nat}(ha:a<4294967296)(hk:k<=32):uU a (k:Int)=(Hg a k:Nat):=by
 show BO (Br a (k:Int)) (jq a (32-(k:Int)))=_;have e:(32:Int)-(k:Int)=((32-k:Nat):Int):=oO
 rw[e,Hy hk,Hz oO,Wh (Ob k ha) (nZ _ _)];rfl
def w1N (b:List Nat)(t:Nat):Nat:=Nat.lor (Nat.lor (Nat.lor (TU (b.getD (4*t) 0) 24) (TU (b.getD (4*t+1) 0) 16)) (TU (b.getD (4*t+2) 0) 8)) (b.getD (4*t+3) 0)
def w2N (x2 x7 x15 x16:Nat):Nat:=tB (tB (tB (Nat.xor (Nat.xor (Hg x2 17) (Hg x2 19)) (x2/2^10)) x7) (Nat.xor (Nat.xor (Hg x15 7) (Hg x15 18)) (x15/2^3))) x16
theorem HA (b:Bytes)(i:Nat):yH b i=((b.map UInt8.toNat).getD i 0:Nat):=by unfold yH;rw[oa,oa,aR];cases b[i]?<;>rfl
theorem Wi (b:Bytes)(i:Nat):(b.map UInt8.toNat).getD i 0<4294967296:=by
 rw[oa,aR];cases b[i]?with
 |none=>decide
 |some x=>have :=x.toNat_lt;show x.toNat<_;omega
theorem alo (b:Bytes)(t:Nat):w1F b t=(w1N (b.map UInt8.toNat) t:Nat):=by unfold w1F w1N;rw[HA,HA,HA,HA,show(24:Int)=((24:Nat):Int)from rfl,show(16:Int)=((16:Nat):Int)from rfl,show(8:Int)=((8:Nat):Int)from rfl,Hz dD,Hz dD,Hz dD,Wh (nZ _ _) (nZ _ _),Wh (BS (nZ _ _) (nZ _ _)) (nZ _ _),Wh (BS (BS (nZ _ _) (nZ _ _)) (nZ _ _)) (Wi _ _)]
theorem ajc (b:Bytes)(t:Nat):w1N (b.map UInt8.toNat) t<4294967296:=BS (BS (BS (nZ _ _) (nZ _ _)) (nZ _ _)) (Wi _ _)
theorem alp {f:Nat->Int}{t x2 x7 x15 x16:Nat}(h2:f (t-2)=(x2:Nat))(h7:f (t-7)=(x7:Nat))(h15:f (t-15)=(x15:Nat))(h16:f (t-16)=(x16:Nat))(l2:x2<4294967296)(l15:x15<4294967296):Zx f t=(w2N x2 x7 x15 x16:Nat):=by unfold Zx w2N;rw[h2,h7,h15,h16,show(17:Int)=((17:Nat):Int)from rfl,show(19:Int)=((19:Nat):Int)from rfl,show(10:Int)=((10:Nat):Int)from rfl,show(7:Int)=((7:Nat):Int)from rfl,show(18:Int)=((18:Nat):Int)from rfl,show(3:Int)=((3:Nat):Int)from rfl,rO l2 dD,rO l2 dD,Hy dD,rO l15 dD,rO l15 dD,Hy dD,yJ (jT _ l2) (jT _ l2),yJ (Fo (jT _ l2) (jT _ l2)) (Ob _ l2),yJ (jT _ l15) (jT _ l15),yJ (Fo (jT _ l15) (jT _ l15)) (Ob _ l15),jS,jS,jS]
def XT (b:List Nat):Nat->List Nat|0=>[]|t+1=>fce (w1N b t) λx=>x::XT b t
def XU:Nat->List Nat->List Nat|0,l=>l|n+1,l=>fce (w2N (l.getD 1 0) (l.getD 6 0) (l.getD 14 0) (l.getD 15 0)) λx=>XU n (x::l)
structure WOk (b:Bytes)(t:Nat)(l:List Nat):Prop where
 len:l.length=t
 at_:∀i,i<t->qJ b t i=((l.getD (t-1-i) 0:Nat):Int)
 lt:∀i,l.getD i 0<4294967296
theorem Rr {b:Bytes}{t:Nat}{l:List Nat}(h:WOk b t l){x:Nat}(hx:x<4294967296)(hv:(if t<16 then w1F b t else Zx (qJ b t) t)=(x:Int)):WOk b (t+1) (x::l):=by
 refine⟨by rw[aL,h.len],λi hi=>?_,λi=>?_⟩;show pW (qJ b t) t _ i=_;by_cases e:i=t;subst e;rw[qg,hv];simp;rw[tw _ _ _ i e,h.at_ i oO];have :t+1-1-i=(t-1-i)+1:=oO
 rw[this];rfl;cases i with
 |zero=>exact hx
 |succ i=>exact h.lt i
theorem Wj (b:Bytes):∀t,t<=16->WOk b t (XT (b.map UInt8.toNat) t)|0,_=>⟨rfl,λi hi=>absurd hi (ia _),λi=>by show([]:List Nat).getD i 0<_;simp⟩|t+1,ht=>by unfold XT;rw[Fm];refine Rr (Wj b t oO) (ajc b t) ?_;rw[af oO];exact alo b t
theorem Wk (b:Bytes):∀n t l,16<=t->WOk b t l->WOk b (t+n) (XU n l)
 |0,t,l,_,h=>h
 |n+1,t,l,ht,h=>by
  unfold XU;rw[Fm];have :=Wk b n (t+1) (w2N (l.getD 1 0) (l.getD 6 0) (l.getD 14 0) (l.getD 15 0)::l) oO ?_;rw[show t+(n+1)=t+1+n from oO];exact this;refine Rr h (qj _ _) ?_;rw[aa oO];have g:∀k,k<t->0<k->qJ b t (t-k)=((l.getD (k-1) 0:Nat):Int):=λk hk h0=>by rw[h.at_ (t-k) oO];congr 2;omega
  refine alp (g 2 oO dD) (g 7 oO dD) (g 15 oO dD) ?_ (h.lt 1) (h.lt 14);by_cases e:t=16;subst e;rw[h.at_ (16-16) dD];exact g 16 oO dD
theorem Wl {α:Type}{l:List α}{i:Nat}{d:α}(h:i<l.length):l.getD i d=l[i]:=by rw[oa,av h];rfl
def t1N (e f g h k w:Nat):Nat:=tB (tB (tB (tB h (Nat.xor (Nat.xor (Hg e 6) (Hg e 11)) (Hg e 25))) (Nat.xor (Nat.land e f) (Nat.land (Nat.xor 4294967295 e) g))) k) w
def t2N (a b c:Nat):Nat:=tB (Nat.xor (Nat.xor (Hg a 2) (Hg a 13)) (Hg a 22)) (Nat.xor (Nat.xor (Nat.land a b) (Nat.land a c)) (Nat.land b c))
def runN:List Nat->List Nat->Nat->Nat->Nat->Nat->Nat->Nat->Nat->Nat->List Nat|k::ks,w::ws,a,b,c,d,e,f,g,h=>fce (t1N e f g h k w) λt1=>fce (tB t1 (t2N a b c)) λa'=>fce (tB d t1) λe'=>runN ks ws a' a b c e' e f g|_,_,a,b,c,d,e,f,g,h=>[a,b,c,d,e,f,g,h]
theorem alr {v:Nat->Int}{e f g h k w:Nat}(h4:v 4=(e:Nat))(h5:v 5=(f:Nat))(h6:v 6=(g:Nat))(h7:v 7=(h:Nat))(le:e<4294967296)(lf:f<4294967296)(lg:g<4294967296):t1F v k w=(t1N e f g h k w:Nat):=by unfold t1F t1N;rw[h4,h5,h6,h7,show(6:Int)=((6:Nat):Int)from rfl,show(11:Int)=((11:Nat):Int)from rfl,show(25:Int)=((25:Nat):Int)from rfl,rO le dD,rO le dD,rO le dD,yJ (jT _ le) (jT _ le),yJ (Fo (jT _ le) (jT _ le)) (jT _ le),Rq le lf,ajb le,Rq (Fo dD le) lg,yJ (xP lf) (xP lg),jS,jS,jS,jS]
theorem als {v:Nat->Int}{a b c:Nat}(h0:v 0=(a:Nat))(h1:v 1=(b:Nat))(h2:v 2=(c:Nat))(la:a<4294967296)(lb:b<4294967296)(lc:c<4294967296):t2F v=(t2N a b c:Nat):=by unfold t2F t2N;rw[h0,h1,h2,show(2:Int)=((2:Nat):Int)from rfl,show(13:Int)=((13:Nat):Int)from rfl,show(22:Int)=((22:Nat):Int)from rfl,rO la dD,rO la dD,rO la dD,yJ (jT _ la) (jT _ la),yJ (Fo (jT _ la) (jT _ la)) (jT _ la),Rq la lb,Rq la lc,Rq lb lc,yJ (xP lb) (xP lc),yJ (Fo (xP lb) (xP lc)) (xP lc),jS]
structure EOk (v:Nat->Int)(a b c d e f g h:Nat):Prop where
 v0:v 0=(a:Nat)
 v1:v 1=(b:Nat)
 v2:v 2=(c:Nat)
 v3:v 3=(d:Nat)
 v4:v 4=(e:Nat)
 v5:v 5=(f:Nat)
 v6:v 6=(g:Nat)
 v7:v 7=(h:Nat)
 l0:a<4294967296
 l1:b<4294967296
 l2:c<4294967296
 l4:e<4294967296
 l5:f<4294967296
 l6:g<4294967296
 l3:d<4294967296
 l7:h<4294967296
theorem aeB {v:Nat->Int}{a b c d e f g h:Nat}(E:EOk v a b c d e f g h)(k w:Nat):EOk (ag6 v k w) (tB (t1N e f g h k w) (t2N a b c)) a b c (tB d (t1N e f g h k w)) e f g:=by have e1:=alr (k:=k) (w:=w) E.v4 E.v5 E.v6 E.v7 E.l4 E.l5 E.l6;have e2:=als E.v0 E.v1 E.v2 E.l0 E.l1 E.l2;refine⟨?_,E.v0,E.v1,E.v2,?_,E.v4,E.v5,E.v6,qj _ _,E.l0,E.l1,qj _ _,E.l4,E.l5,E.l2,E.l6⟩;show oL (t1F v k w) (t2F v)=_;rw[e1,e2,jS];show oL (v 3) (t1F v k w)=_;rw[e1,E.v3,jS]
def kN:List Nat:=kL.map Int.toNat
theorem alu:∀t,t<64->kF t=(kN.getD t 0:Nat):=dD
theorem Wm (h w:Nat->Int)(ws:List Nat)(hw:ws.length=64)(hws:∀i,i<64->w i=(ws.getD i 0:Nat)):∀n t a b c d e f g z,t+n=64->EOk (vS h w t) a b c d e f g z->∃a' b' c' d' e' f' g' z',runN (kN.drop t) (ws.drop t) a b c d e f g z=[a',b',c',d',e',f',g',z']/\EOk (vS h w 64) a' b' c' d' e' f' g' z'
 |0,t,a,b,c,d,e,f,g,z,ht,E=>by
  obtain rfl:t=64:=oO
  refine⟨a,b,c,d,e,f,g,z,?_,E⟩;rw[cU (by show kN.length<=64;decide)];rfl
 |n+1,t,a,b,c,d,e,f,g,z,ht,E=>by
  have hk:t<kN.length:=by show t<64;omega
  have hw':t<ws.length:=oO
  rw[bL hk,bL hw'];unfold runN;rw[Fm,Fm,Fm];refine Wm h w ws hw hws n (t+1) _ _ _ _ _ _ _ _ oO ?_;show EOk (ag6 (vS h w t) (kF t) (w t)) _ _ _ _ _ _ _ _;rw[alu t oO,hws t oO,Wl hk,Wl hw'];exact aeB E _ _
theorem abd (h v:Nat->Int):∀k i,hS h v k i=if i<k then oL (h i) (v i)else h i|0,i=>rfl|k+1,i=>by show pW (hS h v k) k (oL (hS h v k k) (v k)) i=_;by_cases e:i=k;subst e;rw[qg,abd h v i i,aa (tC _),af (DL _)];rw[tw _ _ _ i e,abd h v k i];by_cases h1:i<k;rw[af h1,af oO];rw[aa h1,aa oO]
def Wn:List Nat->List Nat->List Nat|x::xs,y::ys=>fce (tB x y) λz=>z::Wn xs ys|_,_=>[]
def abe:List Nat->List Nat->List Nat|[a,b,c,d,e,f,g,h],m=>Wn [a,b,c,d,e,f,g,h] (runN kN (XU 48 (XT m 16)).reverse a b c d e f g h)|_,_=>[]
theorem abf {v:Nat->Int}{a b c d e f g h:Nat}(E:EOk v a b c d e f g h)(m:Bytes):∃a' b' c' d' e' f' g' h',abe [a,b,c,d,e,f,g,h] (m.map UInt8.toNat)=[a',b',c',d',e',f',g',h']/\EOk (DC v m) a' b' c' d' e' f' g' h':=by
 have hW:=Wk m 48 16 _ dD (Wj m 16 dD);have hl:(XU 48 (XT (m.map UInt8.toNat) 16)).reverse.length=64:=by rw[List.length_reverse,hW.len]
 have hr:=Wm v (qJ m 64) (XU 48 (XT (m.map UInt8.toNat) 16)).reverse hl (λi hi=>by rw[hW.at_ i hi];congr 1;rw[oa,oa,List.getElem?_reverse (by rw[hW.len];exact hi),hW.len]) 64 0 a b c d e f g h rfl E;obtain⟨a',b',c',d',e',f',g',h',h1,h2⟩:=hr;refine⟨tB a a',tB b b',tB c c',tB d d',tB e e',tB f f',tB g g',tB h h',?_,?_⟩;show Wn _ (runN kN _ a b c d e f g h)=_;rw[xI,xI]at h1;rw[h1];simp only[Wn,Fm];have at_:∀i,i<8->DC v m i=oL (v i) (vS v (qJ m 64) 64 i):=λi hi=>by show hS v _ 8 i=_;rw[abd,af hi]
 exact⟨by rw[at_ 0 dD,E.v0,h2.v0,jS],by rw[at_ 1 dD,E.v1,h2.v1,jS],by rw[at_ 2 dD,E.v2,h2.v2,jS],by rw[at_ 3 dD,E.v3,h2.v3,jS],by rw[at_ 4 dD,E.v4,h2.v4,jS],by rw[at_ 5 dD,E.v5,h2.v5,jS],by rw[at_ 6 dD,E.v6,h2.v6,jS],by rw[at_ 7 dD,E.v7,h2.v7,jS],qj _ _,qj _ _,qj _ _,qj _ _,qj _ _,qj _ _,qj _ _,qj _ _⟩
def aeC (m:List Nat):Nat->List Nat|0=>[1779033703,3144134277,1013904242,2773480762,1359893119,2600822924,528734635,1541459225]|i+1=>abe (aeC m i) ((m.take (64*i+64)).drop (64*i))
theorem Wo (m:Bytes):∀n,∃a b c d e f g h,aeC (m.map UInt8.toNat) n=[a,b,c,d,e,f,g,h]/\EOk (wh m n) a b c d e f g h|0=>⟨_,_,_,_,_,_,_,_,rfl,rfl,rfl,rfl,rfl,rfl,rfl,rfl,rfl,dD,dD,dD,dD,dD,dD,dD,dD⟩|n+1=>by obtain⟨a,b,c,d,e,f,g,h,h1,h2⟩:=Wo m n;obtain⟨a',b',c',d',e',f',g',h',h3,h4⟩:=abf h2 ((m.take (64*n+64)).drop (64*n));refine⟨a',b',c',d',e',f',g',h',?_,h4⟩;show abe (aeC _ n) _=_;rw[h1,<-h3,nV,me]
def aeD (l:List Nat)(i:Nat):UInt8:=UInt8.ofNat (l.getD (i/4) 0/2^(24-8*(i%4))%256)
def ajf (s:Bytes):List UInt8:=(List.range 32).map (aeD (aeC ((uu s).map UInt8.toNat) ((uu s).length/64)))
theorem ahe {v:Nat->Int}{a b c d e f g h:Nat}(E:EOk v a b c d e f g h)(i:Nat)(hi:i<32):IS v i=aeD [a,b,c,d,e,f,g,h] i:=by
 have hv:∀j,j<8->v j=(([a,b,c,d,e,f,g,h]:List Nat).getD j 0:Nat):=λj hj=>by
  match j,hj with
   |0,_=>exact E.v0
   |1,_=>exact E.v1
   |2,_=>exact E.v2
   |3,_=>exact E.v3
   |4,_=>exact E.v4
   |5,_=>exact E.v5
   |6,_=>exact E.v6
   |7,_=>exact E.v7
 unfold IS aeD;rw[hv (i/4) oO];have e:(24:Int)-8*((i%4:Nat):Int)=((24-8*(i%4):Nat):Int):=oO
 rw[e,Hy oO];congr 1
theorem ajg (s:Bytes):(Ri s).1=ajf s:=by obtain⟨a,b,c,d,e,f,g,h,h1,h2⟩:=Wo (uu s) ((uu s).length/64);show(List.range 32).map (IS _)=(List.range 32).map (aeD _);rw[h1];refine fQ λi hi=>ahe h2 i (iR.1 hi)
end Qv
open Go Go.Proofs Go.RowKit
namespace Qv
def SzA (l:List bD):Prop:=l.length<=2^47/\∀a,a∈l->a.over.length<=2^47
theorem XV (a b:List bD)(ha:SzA a)(hb:SzA b):ak C 25 [.sl (eU a),.sl (eU b)] (λr=>r=.val (.bool (decide (a=b)))):=by
 have ha1:=ha.1;have IY:=hb.1;unfold eU;refine ag Tryz.func25 rfl rfl rfl ?_;refine cF (λh=>?_) (λh=>?_);have :a≠b:=λe=>h (by rw[e]);show cQ.val (.bool false)=_;simp[this];have hl:a.length=b.length:=by simp only[aj]at h;omega
 refine bu 27 (λk:Nat=>[(0,.p (.sl (a.map cA))),(1,.p (.sl (b.map cA))),(5,.p (.int .i64 k))]) (λ_=>[]) (λk=>k<=a.length/\a.take k=b.take k) (λk=>a.length-k) 0 ⟨zL,rfl⟩ rfl wS trivial ?_;rintro k ⟨hk,he⟩;refine bQ (λhlt=>?_) (λhge=>?_);have hlb:k<b.length:=oO
 refine cm 8 kK ?_;refine ix hlt ?_;refine ix hlb ?_;refine cl (aa8 a[k] b[k] (ha.2 _ (aK _)) (hb.2 _ (aK _))) ?_;refine bl ?_;by_cases h:a[k]=b[k];rw[an h];exact nx (k+1) (aO (k+1) ⟨hlt,wj hl hlt he h⟩ oO rfl wS trivial);rw[ah h];have :a≠b:=λe=>by subst e;exact h rfl
 show cQ.val (.bool false)=_;simp[this];have :a=b:=zR hl hge he;show cQ.val (.bool true)=_;simp[this]
theorem aeE {a b:ga}(h1:a.eW=b.eW)(h2:a.message=b.message)(h3:a.time=b.time)(h4:a.deps=b.deps)(h5:a.changes=b.changes):a=b:=by cases a;cases b;simp_all
theorem wo {a b:ga}(h:a≠b):cQ.val (.bool false)=cQ.val (.bool (decide (a=b))):=by simp[h]
theorem abg (a b:ga)(ha:SS a)(hb:SS b):ak C 86 [.agg (cP a),.agg (cP b)] (λr=>r=.val (.bool (decide (a=b)))):=by
 have ha1:=ha.len;have IY:=hb.len;refine ag Tryz.func86 rfl rfl rfl ?_;refine⟨none,?_⟩;refine uo (λh1=>wo λe=>h1 (by rw[e])) (λh1=>?_);refine uo (λh2=>wo λe=>h2 (by rw[e])) (λh2=>?_);refine cF (λh3=>wo λe=>h3 (by rw[e])) (λh3=>?_);refine cl (aa4 a.deps b.deps ha.deps hb.deps) ?_;refine bl ?_;by_cases h4:a.deps=b.deps;rotate_left;rw[ah h4];exact wo λe=>h4 (by rw[e]);rw[an h4];refine cF (λh5=>wo λe=>h5 (by rw[e])) (λh5=>?_);have hl:a.changes.length=b.changes.length:=by have :(((yR a.changes).length:Nat):Int)=((yR b.changes).length:Int):=h5;simp only[yR,aj]at this;omega
 refine bu 61 (λk:Nat=>[(2,.ptr 2 0),(3,.ptr 3 0),(5,.p (.int .i64 k))]) (λ_=>[(2,aH (cP a)),(3,aH (cP b))]) (λk=>k<=a.changes.length/\a.changes.take k=b.changes.take k) (λk=>a.changes.length-k) 0 ⟨zL,rfl⟩ rfl wS oS ?_;rintro k ⟨hk,he⟩;refine bQ (l:=a.changes) (f:=cC) (λhlt=>?_) (λhge=>?_);have hlb:k<b.changes.length:=oO
 refine cm 10 kK ?_;refine ix hlt ?_;refine ix hlb ?_;refine cl (aa7 a.changes[k] b.changes[k] (ha.each _ (aK _)) (hb.each _ (aK _))) ?_;refine bl ?_;by_cases h:a.changes[k]=b.changes[k];rw[an h];exact nx (k+1) (aO (k+1) ⟨hlt,wj hl hlt he h⟩ oO rfl wS oS);rw[ah h];exact wo λe=>by subst e;exact h rfl
 have :a=b:=aeE h1 h2 h3 h4 (zR hl hge he);show cQ.val (.bool true)=_;simp[this]
def zU (s:Bytes)(x y:UInt8):Bool:=s.all λc=>c !=x&&c !=y
theorem LV {s:Bytes}{x y:UInt8}{k:Nat}{c:UInt8}(h:s[k]?=some c)(h2:c=x\/c=y):zU s x y=false:=by unfold zU;rw[List.all_eq_false];refine⟨c,bz h,?_⟩;rcases h2 with rfl|rfl<;>simp
theorem abh {a b:UInt8}(h:(a.toNat:Int)=(b.toNat:Int)):a=b:=UInt8.toNat_inj.1 oO
theorem abi (s:Bytes)(x y:UInt8)(hs:s.length<=2^47):ak C 243 [.str s,.int .u8 x.toNat,.int .u8 y.toNat] (λr=>r=.val (.bool (zU s x y))):=by
 refine ag Tryz.func243 rfl rfl rfl ?_;refine bu 26 (λk:Nat=>[(0,.p (.str s)),(1,.p (.int .u8 x.toNat)),(2,.p (.int .u8 y.toNat)),(7,.p (.int .i64 k))]) (λ_=>[]) (λk=>k<=s.length/\∀i c,i<k->s[i]?=some c->c≠x/\c≠y) (λk=>s.length-k) 0 ⟨zL,λi c h=>absurd h (ia _)⟩ rfl wS trivial ?_;rintro k ⟨hk,hall⟩;refine az (λhlt=>?_) (λhge=>?_);have hlt:k<s.length:=by have :(k:Int)<(s.length:Int):=hlt;omega
 obtain⟨c,hc⟩:∃c,s[k]?=some c:=⟨_,av hlt⟩;refine⟨none,?_⟩;refine⟨oO,c,Hx rfl hc,?_⟩;refine aA (λh=>?_) (λh=>?_);rw[LV hc (.inl (abh h))];exact rfl;refine⟨oO,c,Hx rfl hc,?_⟩;refine aA (λh2=>?_) (λh2=>?_);rw[LV hc (.inr (abh h2))];exact rfl;refine nx (k+1) (aO (k+1) ⟨hlt,λi d hi hd=>?_⟩ oO rfl wS trivial);by_cases hik:i=k;subst hik;rw[hc]at hd;obtain rfl:=au hd;exact⟨λe=>h (by rw[e]),λe=>h2 (by rw[e])⟩;exact hall i d oO hd;have hge:¬k<s.length:=λh=>hge (show(k:Int)<(s.length:Int)by omega);have :zU s x y=true:=by unfold zU;rw[bY];intro c hc;obtain⟨i,hi⟩:=iP hc;have :=hall i c (by have :=(aG.1 hi).1;omega) hi;simp[this.1,this.2]
 rw[this];exact rfl
def qk (s:Bytes):Bool:=decide (s.length<=1000)&&zU s 10 0
theorem XW (s:Bytes)(hs:s.length<=2^47):ak C 204 [.str s] (λr=>r=.val (.bool (qk s))):=by
 refine ag Tryz.func204 rfl rfl rfl ?_;refine⟨none,?_⟩;refine az (λh=>?_) (λh=>?_);refine cl (abi s 10 0 hs) ?_;have :s.length<=1000:=by have :(s.length:Int)<=1000:=h;omega
 show cQ.val _=_;simp[qk,this];have :¬s.length<=1000:=by have :¬(s.length:Int)<=1000:=h;omega
 show cQ.val _=_;simp[qk,this]
def wq (l:List eG):Nat:=(l.map λc=>c.name.length+c.data.length).sum
def Fp (c:eG):Bool:=zS c.lines||decide (40<c.over.length)
def iI (p:ga):Bool:=p.changes.any Fp||decide (3000<p.eW.length+p.message.length+wq p.changes)||decide (20<p.deps.length)||decide (20<p.changes.length)
theorem TV (l:List eG)(k:Nat)(h:k<l.length):wq (l.take (k+1))=wq (l.take k)+(l[k].name.length+l[k].data.length):=by unfold wq;rw[<-dn h,aM,nW];simp
theorem Bs {α:Type}{f:α->Bool}{l:List α}{k:Nat}(hk:k<l.length)(h:(l.take k).any f=false)(h2:f l[k]=false):(l.take (k+1)).any f=false:=by rw[<-dn hk,qm,h];simp[h2]
theorem XX (p:ga)(hp:SS p):ak C 97 [.agg (cP p)] (λr=>r=.val (.bool (iI p))):=by
 have h1:=hp.len;refine ag Tryz.func97 rfl rfl rfl ?_;refine⟨IntKind.i64.wrap ((p.eW.length+p.message.length+wq (p.changes.take 0):Nat):Int),rfl,?_⟩;refine bu 57 (λk:Nat=>[(1,.ptr 1 0),(3,.p (.int .i64 (IntKind.i64.wrap ((p.eW.length+p.message.length+wq (p.changes.take k):Nat):Int)))),(4,.p (.int .i64 k))]) (λ_=>[(1,aH (cP p))]) (λk=>k<=p.changes.length/\(p.changes.take k).any Fp=false) (λk=>p.changes.length-k) 0 ⟨zL,rfl⟩ rfl wS oS ?_;rintro k ⟨hk,hn⟩;refine bQ (l:=p.changes) (f:=cC) (λhlt=>?_) (λhge=>?_);have hc:=hp.each p.changes[k] (aK _);have bad:Fp p.changes[k]=true->cQ.val (.bool true)=cQ.val (.bool (iI p)):=λh=>by have :p.changes.any Fp=true:=fR.2 ⟨_,aK hlt,h⟩;simp[iI,this]
 refine ix hlt ?_;refine⟨none,?_⟩;refine cl (XS p.changes[k].lines hc.lines) ?_;cases hg:zS p.changes[k].lines with
 |true=>exact bad (by simp[Fp,hg])
 |false=>
  refine az (λh=>?_) (λh=>?_);have :40<p.changes[k].over.length:=by have :(((iq p.changes[k].over).length:Nat):Int)>40:=h;simp only[iq,aj]at this;omega
  exact bad (by simp[Fp,this]);have h40:¬40<p.changes[k].over.length:=by have :¬(((iq p.changes[k].over).length:Nat):Int)>40:=h;simp only[iq,aj]at this;omega
  refine⟨IntKind.i64.wrap ((p.eW.length+p.message.length+wq (p.changes.take k)+p.changes[k].name.length:Nat):Int),by rw[wrap_add];rfl,?_⟩;refine⟨IntKind.i64.wrap ((p.eW.length+p.message.length+wq (p.changes.take (k+1)):Nat):Int),by rw[wrap_add,TV _ _ hlt];congr 1;omega,?_⟩;exact nx (k+1) (aO (k+1) ⟨hlt,Bs hlt hn (by simp[Fp,hg,h40])⟩ oO rfl wS oS)
 obtain rfl:k=p.changes.length:=oO
 rw[aJ]at hn⊢;have hx:¬20<p.changes.length->IntKind.i64.wrap ((p.eW.length+p.message.length+wq p.changes:Nat):Int)=((p.eW.length+p.message.length+wq p.changes:Nat):Int):=λh=>by
  have h1:=zT (λc:eG=>c.name.length+c.data.length) (2^48) p.changes λc hc=>by have :=(hp.each c hc).name;have :=(hp.each c hc).data;omega
  have h2:p.changes.length*2^48<=20*2^48:=dO _ oO;have h3:=hp.eW;have h4:=hp.message;unfold wq;exact wrap64 oO oO
 refine⟨none,?_⟩;have jH:(((yR p.changes).length:Nat):Int)=(p.changes.length:Int):=by simp only[yR,aj]
 have hdl:(((jo p.deps).length:Nat):Int)=(p.deps.length:Int):=by simp only[jo,aj]
 refine az (λh=>?_) (λh=>az (λh2=>?_) (λh2=>az (λh3=>?_) (λh3=>?_)));show cQ.val (.bool true)=_;by_cases h20:20<p.changes.length;simp[iI,h20];rw[hx h20]at h;have :3000<p.eW.length+p.message.length+wq p.changes:=oO
 simp[iI,this];have :20<p.deps.length:=by have :(((jo p.deps).length:Nat):Int)>20:=h2;omega
 show cQ.val (.bool true)=_;simp[iI,this];have :20<p.changes.length:=by have :(((yR p.changes).length:Nat):Int)>20:=h3;omega
 show cQ.val (.bool true)=_;simp[iI,this];have h20:¬20<p.changes.length:=by have :¬(((yR p.changes).length:Nat):Int)>20:=h3;omega
 have hd:¬20<p.deps.length:=by have :¬(((jo p.deps).length:Nat):Int)>20:=h2;omega
 rw[hx h20]at h;have hs:¬3000<p.eW.length+p.message.length+wq p.changes:=oO
 show cQ.val (.bool false)=_;simp only[iI,hn,h20,hd,hs,decide_false,Bool.or_self]
end Qv
