/- Part 8 of the proof: its lemmas. No condition. -/
import Derived.Test.YtiboombocnfngaaGreatDoorU1
import Derived.Test.YtiboombocnfngaaGreatDoorU6
import Derived.Shelf.Strings.Builder1
import Derived.Shelf.Small.Bits
import Derived.Shelf.Small.Strs
import Derived.Shelf.Small.Wraps
import Derived.Shelf.Strconv.Itoa0
import Derived.Shelf.Strconv.Itoa1
import Derived.Shelf.LaysM
import Derived.Shelf.Strconv.Itoa2
import Derived.Shelf.Strconv.Itoa3
import Derived.Shelf.Strings.Search1
import Derived.Test.YtiboombocnfngaaGreatDoorProg
import Derived.KernelRfl
import Derived.JoinedCond
set_option maxRecDepth 10000
set_option maxHeartbeats 80000000
set_option linter.all false
namespace Go.Proofs
open Go.Shelf
def Tryz.lays169_ren:Go.Shelf.Ren:=⟨λ|169=>339|n=>n,λ|70=>337|9=>9|0=>0|72=>339|37=>24|127=>356|3=>3|5=>5|n=>n,λ|n=>n⟩
theorem Tryz.lays169:Go.Proofs.Lays.n169 Tryz.prog Tryz.lays169_ren:={mixed:=by kernel_rfl,f169:=Tryz.func339.trans (congrArg some (by kernel_rfl)),t0:=Tryz.underlying0,a0:=Tryz.isAgg0,z0:=Tryz.sizeOf0,v0:=Tryz.zeroValue0,t3:=Tryz.underlying3,a3:=Tryz.isAgg3,z3:=Tryz.sizeOf3,v3:=Tryz.zeroValue3,t9:=Tryz.underlying9,a9:=Tryz.isAgg9,z9:=Tryz.sizeOf9,v9:=Tryz.zeroValue9,t37:=Tryz.underlying24,a37:=Tryz.isAgg24,z37:=Tryz.sizeOf24,v37:=Tryz.zeroValue24,t70:=Tryz.underlying337,a70:=Tryz.isAgg337,z70:=Tryz.sizeOf337,v70:=Tryz.zeroValue337,t72:=Tryz.underlying339,a72:=Tryz.isAgg339,z72:=Tryz.sizeOf339,v72:=Tryz.zeroValue339,t127:=Tryz.underlying356,a127:=Tryz.isAgg356,z127:=Tryz.sizeOf356,v127:=Tryz.zeroValue356}
theorem Tryz.Builder_Extra_169:Builder.Extra Tryz.prog Tryz.lays169_ren:={sizeBuilder:=by kernel_rfl,liesBuilder:=by kernel_rfl,t5:=Tryz.underlying5,a5:=Tryz.isAgg5,z5:=Tryz.sizeOf5,v5:=Tryz.zeroValue5,infoByte:=by kernel_rfl,cellsByte:=by kernel_rfl,sizeByte:=by kernel_rfl,neB5:=by decide}
def Tryz.lays125_ren:Go.Shelf.Ren:=⟨λ|125=>143|128=>210|129=>211|n=>n,λ|46=>194|3=>3|51=>209|53=>257|4=>4|5=>5|9=>9|n=>n,λ|n=>n⟩
theorem Tryz.lays125:Go.Proofs.Lays.n125 Tryz.prog Tryz.lays125_ren:={mixed:=by kernel_rfl,f125:=Tryz.func143.trans (congrArg some (by kernel_rfl)),f128:=Tryz.func210.trans (congrArg some (by kernel_rfl)),f129:=Tryz.func211.trans (congrArg some (by kernel_rfl)),t3:=Tryz.underlying3,a3:=Tryz.isAgg3,z3:=Tryz.sizeOf3,v3:=Tryz.zeroValue3,t4:=Tryz.underlying4,a4:=Tryz.isAgg4,z4:=Tryz.sizeOf4,v4:=Tryz.zeroValue4,t5:=Tryz.underlying5,a5:=Tryz.isAgg5,z5:=Tryz.sizeOf5,v5:=Tryz.zeroValue5,t9:=Tryz.underlying9,a9:=Tryz.isAgg9,z9:=Tryz.sizeOf9,v9:=Tryz.zeroValue9,t46:=Tryz.underlying194,a46:=Tryz.isAgg194,z46:=Tryz.sizeOf194,v46:=Tryz.zeroValue194,t51:=Tryz.underlying209,a51:=Tryz.isAgg209,z51:=Tryz.sizeOf209,v51:=Tryz.zeroValue209,t53:=Tryz.underlying257,a53:=Tryz.isAgg257,z53:=Tryz.sizeOf257,v53:=Tryz.zeroValue257}
theorem Tryz.bits_Len (x:Int)(w:World)(h0:0<=x)(h1:x<=18446744073709551615):Calls Tryz.prog 143 #[.int .u64 x] w λe w'=>e=.returned (.int .i64 (Lib.bitLen x.toNat))/\w'=w:=Any.bits_Len Tryz.lays125 x w h0 h1
def Tryz.lays137_ren:Go.Shelf.Ren:=⟨λ|137=>232|217=>286|266=>314|n=>n,λ|9=>9|5=>5|3=>3|n=>n,λ|n=>n⟩
theorem Tryz.lays137:Go.Proofs.Lays.n137 Tryz.prog Tryz.lays137_ren:={mixed:=by kernel_rfl,f137:=Tryz.func232.trans (congrArg some (by kernel_rfl)),f217:=Tryz.func286.trans (congrArg some (by kernel_rfl)),f266:=Tryz.func314.trans (congrArg some (by kernel_rfl)),t3:=Tryz.underlying3,a3:=Tryz.isAgg3,z3:=Tryz.sizeOf3,v3:=Tryz.zeroValue3,t5:=Tryz.underlying5,a5:=Tryz.isAgg5,z5:=Tryz.sizeOf5,v5:=Tryz.zeroValue5,t9:=Tryz.underlying9,a9:=Tryz.isAgg9,z9:=Tryz.sizeOf9,v9:=Tryz.zeroValue9}
open Go.RowKit in theorem Tryz.strings_IndexByte (s:ByteArray)(c:Int)(w:World):Calls Tryz.prog 232 #[.string s,.int .u8 c] w λe w'=>e=.returned (.int .i64 (Lib.indexByte s.data.toList c.toNat.toUInt8))/\w'=w:=Any.strings_IndexByte Tryz.lays137 s c w
def Tryz.lays215_ren:Go.Shelf.Ren:=⟨λ|215=>234|n=>n,λ|3=>3|4=>4|n=>n,λ|n=>n⟩
def Tryz.lays122_ren:Go.Shelf.Ren:=⟨λ|122=>170|215=>234|n=>n,λ|3=>3|4=>4|n=>n,λ|n=>n⟩
theorem Tryz.lays122:Go.Proofs.Lays.n122 Tryz.prog Tryz.lays122_ren:={mixed:=by kernel_rfl,f122:=Tryz.func170.trans (congrArg some (by kernel_rfl)),f215:=Tryz.func234.trans (congrArg some (by kernel_rfl)),t3:=Tryz.underlying3,a3:=Tryz.isAgg3,z3:=Tryz.sizeOf3,v3:=Tryz.zeroValue3,t4:=Tryz.underlying4,a4:=Tryz.isAgg4,z4:=Tryz.sizeOf4,v4:=Tryz.zeroValue4}
open Go.RowKit in theorem Tryz.cmp_Compare_int (x y:Int)(w:World):Calls Tryz.prog 170 #[.int .i64 x,.int .i64 y] w λe w'=>e=.returned (.int .i64 (Lib.compareInt x y))/\w'=w:=Any.cmp_Compare_int Tryz.lays122 x y w
def Tryz.laysM246_ren:Go.Shelf.Ren:=⟨λ|246=>355|283=>357|284=>358|285=>359|286=>360|129=>211|317=>361|318=>362|319=>363|320=>364|337=>365|338=>366|n=>n,λ|2=>2|3=>3|9=>9|4=>4|171=>361|0=>0|53=>257|37=>24|5=>5|173=>363|212=>366|51=>209|20=>20|213=>367|46=>194|232=>32|233=>368|n=>n,λ|17=>1|18=>2|19=>3|n=>n⟩
def Tryz.laysM243_ren:Go.Shelf.Ren:=⟨λ|243=>353|246=>355|283=>357|284=>358|285=>359|286=>360|129=>211|317=>361|318=>362|319=>363|320=>364|337=>365|338=>366|n=>n,λ|3=>3|9=>9|2=>2|4=>4|171=>361|0=>0|53=>257|37=>24|5=>5|173=>363|212=>366|51=>209|20=>20|213=>367|46=>194|232=>32|233=>368|n=>n,λ|17=>1|18=>2|19=>3|n=>n⟩
def Tryz.laysM171_ren:Go.Shelf.Ren:=⟨λ|171=>347|243=>353|246=>355|283=>357|284=>358|285=>359|286=>360|129=>211|317=>361|318=>362|319=>363|320=>364|337=>365|338=>366|n=>n,λ|3=>3|9=>9|2=>2|4=>4|171=>361|0=>0|53=>257|37=>24|5=>5|173=>363|212=>366|51=>209|20=>20|213=>367|46=>194|232=>32|233=>368|n=>n,λ|17=>1|18=>2|19=>3|n=>n⟩
theorem Tryz.laysM171:Go.Proofs.LaysM.n171 Tryz.prog Tryz.laysM171_ren:={mixed:=by kernel_rfl,f129:=Tryz.func211.trans (congrArg some (by kernel_rfl)),f171:=Tryz.func347.trans (congrArg some (by kernel_rfl)),f243:=Tryz.func353.trans (congrArg some (by kernel_rfl)),f246:=Tryz.func355.trans (congrArg some (by kernel_rfl)),f283:=Tryz.func357.trans (congrArg some (by kernel_rfl)),f284:=Tryz.func358.trans (congrArg some (by kernel_rfl)),f285:=Tryz.func359.trans (congrArg some (by kernel_rfl)),f286:=Tryz.func360.trans (congrArg some (by kernel_rfl)),f317:=Tryz.func361.trans (congrArg some (by kernel_rfl)),f318:=Tryz.func362.trans (congrArg some (by kernel_rfl)),f319:=Tryz.func363.trans (congrArg some (by kernel_rfl)),f320:=Tryz.func364.trans (congrArg some (by kernel_rfl)),f337:=Tryz.func365.trans (congrArg some (by kernel_rfl)),f338:=Tryz.func366.trans (congrArg some (by kernel_rfl)),t0:=Tryz.underlying0,a0:=Tryz.isAgg0,z0:=Tryz.sizeOf0,v0:=Tryz.zeroValue0,t2:=Tryz.underlying2,a2:=Tryz.isAgg2,z2:=Tryz.sizeOf2,v2:=Tryz.zeroValue2,t3:=Tryz.underlying3,a3:=Tryz.isAgg3,z3:=Tryz.sizeOf3,v3:=Tryz.zeroValue3,t4:=Tryz.underlying4,a4:=Tryz.isAgg4,z4:=Tryz.sizeOf4,v4:=Tryz.zeroValue4,t5:=Tryz.underlying5,a5:=Tryz.isAgg5,z5:=Tryz.sizeOf5,v5:=Tryz.zeroValue5,t9:=Tryz.underlying9,a9:=Tryz.isAgg9,z9:=Tryz.sizeOf9,v9:=Tryz.zeroValue9,t20:=Tryz.underlying20,a20:=Tryz.isAgg20,z20:=Tryz.sizeOf20,v20:=Tryz.zeroValue20,t37:=Tryz.underlying24,a37:=Tryz.isAgg24,z37:=Tryz.sizeOf24,v37:=Tryz.zeroValue24,t46:=Tryz.underlying194,a46:=Tryz.isAgg194,z46:=Tryz.sizeOf194,v46:=Tryz.zeroValue194,t51:=Tryz.underlying209,a51:=Tryz.isAgg209,z51:=Tryz.sizeOf209,v51:=Tryz.zeroValue209,t53:=Tryz.underlying257,a53:=Tryz.isAgg257,z53:=Tryz.sizeOf257,v53:=Tryz.zeroValue257,t171:=Tryz.underlying361,a171:=Tryz.isAgg361,z171:=Tryz.sizeOf361,v171:=Tryz.zeroValue361,t173:=Tryz.underlying363,a173:=Tryz.isAgg363,z173:=Tryz.sizeOf363,v173:=Tryz.zeroValue363,t212:=Tryz.underlying366,a212:=Tryz.isAgg366,z212:=Tryz.sizeOf366,v212:=Tryz.zeroValue366,t213:=Tryz.underlying367,a213:=Tryz.isAgg367,z213:=Tryz.sizeOf367,t232:=Tryz.underlying32,a232:=Tryz.isAgg32,z232:=Tryz.sizeOf32,v232:=Tryz.zeroValue32,t233:=Tryz.underlying368,a233:=Tryz.isAgg368,z233:=Tryz.sizeOf368,v233:=Tryz.zeroValue368,g17:=by kernel_rfl,g18:=by kernel_rfl,g19:=by kernel_rfl,i0:=by kernel_rfl,i2:=by kernel_rfl,i3:=by kernel_rfl,i4:=by kernel_rfl,i5:=by kernel_rfl,i9:=by kernel_rfl,i20:=by kernel_rfl,i37:=by kernel_rfl,i46:=by kernel_rfl,i51:=by kernel_rfl,i53:=by kernel_rfl,i171:=by kernel_rfl,i173:=by kernel_rfl,i212:=by kernel_rfl,i232:=by kernel_rfl,i233:=by kernel_rfl,m17:=by kernel_rfl,m18:=by kernel_rfl,m19:=by kernel_rfl}
open Go.RowKit Go.Sort Go.Lib in theorem Tryz.strconv_Itoa (n:Int)(h0:-9223372036854775808<=n)(h1:n<=9223372036854775807)(w:World)(htab:Lib.TabIs Tryz.prog w "internal/strconv.uint64pow10" .u64 Lib.pow10Tab):Calls Tryz.prog 347 #[.int .i64 n] w λe w'=>e=.returned (.string ⟨(Lib.itoa n).toArray⟩)/\∃k os,w'=grow (w.drewN k) os:=Any.strconv_Itoa Tryz.laysM171 n h0 h1 w htab
end Go.Proofs
namespace Go.Proofs
open Go.Shelf
def Ls:Go.Shelf.Ren:=⟨λ|166=>350|240=>354|276=>356|n=>n,λ|0=>0|3=>3|4=>4|5=>5|9=>9|20=>20|37=>24|70=>337|72=>339|75=>352|80=>341|164=>359|n=>n,λ|n=>n⟩
theorem aij:Go.Proofs.Lays.n166 Tryz.prog Ls:={mixed:=by kernel_rfl,f166:=Tryz.func350.trans (congrArg some (by kernel_rfl)),f240:=Tryz.func354.trans (congrArg some (by kernel_rfl)),f276:=Tryz.func356.trans (congrArg some (by kernel_rfl)),t0:=Tryz.underlying0,a0:=Tryz.isAgg0,z0:=Tryz.sizeOf0,v0:=Tryz.zeroValue0,t3:=Tryz.underlying3,a3:=Tryz.isAgg3,z3:=Tryz.sizeOf3,v3:=Tryz.zeroValue3,t4:=Tryz.underlying4,a4:=Tryz.isAgg4,z4:=Tryz.sizeOf4,v4:=Tryz.zeroValue4,t9:=Tryz.underlying9,a9:=Tryz.isAgg9,z9:=Tryz.sizeOf9,v9:=Tryz.zeroValue9,t20:=Tryz.underlying20,a20:=Tryz.isAgg20,z20:=Tryz.sizeOf20,v20:=Tryz.zeroValue20,t37:=Tryz.underlying24,a37:=Tryz.isAgg24,z37:=Tryz.sizeOf24,v37:=Tryz.zeroValue24,t70:=Tryz.underlying337,a70:=Tryz.isAgg337,z70:=Tryz.sizeOf337,v70:=Tryz.zeroValue337,t72:=Tryz.underlying339,a72:=Tryz.isAgg339,z72:=Tryz.sizeOf339,v72:=Tryz.zeroValue339,t75:=Tryz.underlying352,a75:=Tryz.isAgg352,z75:=Tryz.sizeOf352,v75:=Tryz.zeroValue352,t164:=Tryz.underlying359,a164:=Tryz.isAgg359,z164:=Tryz.sizeOf359,v164:=Tryz.zeroValue359}
theorem Qu:Builder.Extra Tryz.prog Ls:={sizeBuilder:=by kernel_rfl,liesBuilder:=by kernel_rfl,t5:=Tryz.underlying5,a5:=Tryz.isAgg5,z5:=Tryz.sizeOf5,v5:=Tryz.zeroValue5,infoByte:=by kernel_rfl,cellsByte:=by kernel_rfl,sizeByte:=by kernel_rfl,neB5:=by decide}
def Lt:Go.Shelf.Ren:=⟨λ|167=>351|240=>354|276=>356|n=>n,λ|0=>0|3=>3|4=>4|5=>5|9=>9|20=>20|37=>24|70=>337|72=>339|75=>352|80=>341|164=>359|n=>n,λ|n=>n⟩
theorem aik:Go.Proofs.Lays.n167 Tryz.prog Lt:={mixed:=by kernel_rfl,f167:=Tryz.func351.trans (congrArg some (by kernel_rfl)),f240:=Tryz.func354.trans (congrArg some (by kernel_rfl)),f276:=Tryz.func356.trans (congrArg some (by kernel_rfl)),t0:=Tryz.underlying0,a0:=Tryz.isAgg0,z0:=Tryz.sizeOf0,v0:=Tryz.zeroValue0,t4:=Tryz.underlying4,a4:=Tryz.isAgg4,z4:=Tryz.sizeOf4,v4:=Tryz.zeroValue4,t5:=Tryz.underlying5,a5:=Tryz.isAgg5,z5:=Tryz.sizeOf5,v5:=Tryz.zeroValue5,t9:=Tryz.underlying9,a9:=Tryz.isAgg9,z9:=Tryz.sizeOf9,v9:=Tryz.zeroValue9,t20:=Tryz.underlying20,a20:=Tryz.isAgg20,z20:=Tryz.sizeOf20,v20:=Tryz.zeroValue20,t37:=Tryz.underlying24,a37:=Tryz.isAgg24,z37:=Tryz.sizeOf24,v37:=Tryz.zeroValue24,t70:=Tryz.underlying337,a70:=Tryz.isAgg337,z70:=Tryz.sizeOf337,v70:=Tryz.zeroValue337,t72:=Tryz.underlying339,a72:=Tryz.isAgg339,z72:=Tryz.sizeOf339,v72:=Tryz.zeroValue339,t75:=Tryz.underlying352,a75:=Tryz.isAgg352,z75:=Tryz.sizeOf352,v75:=Tryz.zeroValue352,t164:=Tryz.underlying359,a164:=Tryz.isAgg359,z164:=Tryz.sizeOf359,v164:=Tryz.zeroValue359}
theorem Qw:Builder.Extra Tryz.prog Lt:={sizeBuilder:=by kernel_rfl,liesBuilder:=by kernel_rfl,t5:=Tryz.underlying5,a5:=Tryz.isAgg5,z5:=Tryz.sizeOf5,v5:=Tryz.zeroValue5,infoByte:=by kernel_rfl,cellsByte:=by kernel_rfl,sizeByte:=by kernel_rfl,neB5:=by decide}
end Go.Proofs
open Go Go.Proofs Go.RowKit
namespace Qv
def aiS:List (TypeId×jF):=(87,⟨1,8,.map 33 34,[.map none]⟩)::iZ
theorem aeE:∀t i,(t,i)∈aiS->fN Tryz.prog t i:=by intro t i h;rcases aK.1 h with h|h;injection h with h1 h2;subst h1;subst h2;exact⟨kK,kK,rfl⟩;exact Zx t i h
noncomputable def CX:Ctx:={C with iZ:=aiS,aeT:=aeE}
theorem qz (e:Extra)(l:List Nat){f:FuncId}{fn:Func}{args:List AV}{R:dx->Prop}(hf:C.P.funcs[f]?=some fn)(hb:fn.body.isSome=true)(hname:(fn.name== "runtime.NumGoroutine")=false)(hlen:Nat.ble args.length fn.ntmps=true)(h:ev ((CX.cut l).open e) (match fn.body with|some c=>c|none=>.skip) (uB ((CX.cut l).open e) fn.results.toList R) (AF fn.ntmps args)):aq C f args R:=aY (C:=CX) e l hf hb hname hlen h
theorem aq.Xq {e:Extra}{l:List Nat}{f:FuncId}{args:List AV}{R:dx->Prop}(h:aq C f args R):aq ((CX.cut l).open e) f args R:=h
end Qv
namespace Qv
open Go
def BT (T:List (List Nat)):Nat->List Nat->List Nat->List Nat|0,_,seen=>seen.reverse|_,[],seen=>seen.reverse|n+1,f::todo,seen=>if seen.contains f then BT T n todo seen else BT T n ((T[f]?).getD []++todo) (f::seen)
theorem abk {P:Program}{T:List (List Nat)}(hT:P.funcs.toList.map P.leadsTo=T)(f:Nat):(P.funcs[f]?).elim [] P.leadsTo=(T[f]?).getD []:=by subst hT;rw[aN,<-sH];cases P.funcs.toList[f]?<;>rfl
theorem EZ {P:Program}{T:List (List Nat)}(hT:P.funcs.toList.map P.leadsTo=T):∀(n:Nat)(todo seen:List Nat),P.closureVia n todo seen=BT T n todo seen
 |0,todo,seen=>by cases todo<;>rfl
 |n+1,[],seen=>rfl
 |n+1,f::todo,seen=>by show(if seen.contains f then P.closureVia n todo seen else P.closureVia n ((P.funcs[f]?).elim [] P.leadsTo++todo) (f::seen))=if seen.contains f then BT T n todo seen else BT T n ((T[f]?).getD []++todo) (f::seen);rw[EZ hT n,EZ hT n,abk hT]
def Jr (T:List (List Nat)):Nat->List Nat->List Nat->Nat->List Nat|0,_,seen,_=>seen.reverse|_+1,[],seen,_=>seen.reverse|n+1,f::todo,seen,m=>match Nat.testBit m f with|true=>Jr T n todo seen m|false=>Jr T n ((T[f]?).getD []++todo) (f::seen) (m|||2^f)
theorem Fa (T:List (List Nat)):∀(n:Nat)(todo seen:List Nat)(m:Nat),(∀f,Nat.testBit m f=seen.contains f)->Jr T n todo seen m=BT T n todo seen
 |0,todo,seen,m,_=>by cases todo<;>rfl
 |n+1,[],seen,m,_=>rfl
 |n+1,f::todo,seen,m,h=>by
  have hf:=h f;unfold Jr BT;cases hb:Nat.testBit m f with
  |true=>rw[hb]at hf;rw[ag hf.symm];exact Fa T n todo seen m h
  |false=>rw[hb]at hf;rw[af (by rw[<-hf];simp)];refine Fa T n _ (f::seen) _ λg=>?_;rw[Nat.testBit_or,Nat.testBit_two_pow,h g,List.contains_cons];by_cases hg:f=g;subst hg;simp;have :¬g=f:=λe=>hg e.symm;simp[hg,this]
theorem Js {P:Program}{T:List (List Nat)}(f:Nat)(L:List Nat)(hT:P.funcs.toList.map P.leadsTo=T)(h:Jr T (1+(T.map λl=>l.length+1).sum) [f] [] 0=L):P.closure f=L:=by
 unfold Program.closure;have e:(P.funcs.toList.map λg=>(P.leadsTo g).length+1)=T.map λl=>l.length+1:=by rw[<-hT,fL];rfl
 rw[e,EZ hT,<-Fa T _ [f] [] 0 (λg=>by simp)];exact h
end Qv
