/- Part 9 of the proof: its lemmas. No condition. -/
import Derived.Test.YtlbofhenpfnenaaGreatDoorW1
import Derived.Shelf.Strings.Builder1
import Derived.Shelf.Small.Bits
import Derived.Shelf.Small.Strs
import Derived.Shelf.Small.Wraps
import Derived.Shelf.Strconv.Itoa0
import Derived.Shelf.Strconv.Itoa1
import Derived.Shelf.LaysM
import Derived.Shelf.Strconv.Itoa2
import Derived.Shelf.Strconv.Itoa3
import Derived.Shelf.Strings.Search1
import Derived.Shelf.Strings.Prefix
import Derived.Test.YtlbofhenpfnenaaGreatDoorProg
import Derived.KernelRfl
import Derived.JoinedCond
set_option maxRecDepth 10000
set_option maxHeartbeats 80000000
set_option linter.all false
namespace Go.Proofs
open Go.Shelf
def Tryz.lays169_ren:Go.Shelf.Ren:=⟨λ|169=>270|n=>n,λ|70=>277|9=>9|0=>0|72=>279|37=>183|127=>302|3=>3|5=>5|n=>n,λ|n=>n⟩
theorem Tryz.lays169:Go.Proofs.Lays.n169 Tryz.prog Tryz.lays169_ren:={mixed:=by kernel_rfl,f169:=Tryz.func270.trans (congrArg some (by kernel_rfl)),t0:=Tryz.underlying0,a0:=Tryz.isAgg0,z0:=Tryz.sizeOf0,v0:=Tryz.zeroValue0,t3:=Tryz.underlying3,a3:=Tryz.isAgg3,z3:=Tryz.sizeOf3,v3:=Tryz.zeroValue3,t9:=Tryz.underlying9,a9:=Tryz.isAgg9,z9:=Tryz.sizeOf9,v9:=Tryz.zeroValue9,t37:=Tryz.underlying183,a37:=Tryz.isAgg183,z37:=Tryz.sizeOf183,v37:=Tryz.zeroValue183,t70:=Tryz.underlying277,a70:=Tryz.isAgg277,z70:=Tryz.sizeOf277,v70:=Tryz.zeroValue277,t72:=Tryz.underlying279,a72:=Tryz.isAgg279,z72:=Tryz.sizeOf279,v72:=Tryz.zeroValue279,t127:=Tryz.underlying302,a127:=Tryz.isAgg302,z127:=Tryz.sizeOf302,v127:=Tryz.zeroValue302}
theorem Tryz.Builder_Extra_169:Builder.Extra Tryz.prog Tryz.lays169_ren:={sizeBuilder:=by kernel_rfl,liesBuilder:=by kernel_rfl,t5:=Tryz.underlying5,a5:=Tryz.isAgg5,z5:=Tryz.sizeOf5,v5:=Tryz.zeroValue5,infoByte:=by kernel_rfl,cellsByte:=by kernel_rfl,sizeByte:=by kernel_rfl,neB5:=by decide}
def Tryz.lays125_ren:Go.Shelf.Ren:=⟨λ|125=>193|128=>235|129=>236|n=>n,λ|46=>168|3=>3|51=>164|53=>200|4=>4|5=>5|9=>9|n=>n,λ|n=>n⟩
theorem Tryz.lays125:Go.Proofs.Lays.n125 Tryz.prog Tryz.lays125_ren:={mixed:=by kernel_rfl,f125:=Tryz.func193.trans (congrArg some (by kernel_rfl)),f128:=Tryz.func235.trans (congrArg some (by kernel_rfl)),f129:=Tryz.func236.trans (congrArg some (by kernel_rfl)),t3:=Tryz.underlying3,a3:=Tryz.isAgg3,z3:=Tryz.sizeOf3,v3:=Tryz.zeroValue3,t4:=Tryz.underlying4,a4:=Tryz.isAgg4,z4:=Tryz.sizeOf4,v4:=Tryz.zeroValue4,t5:=Tryz.underlying5,a5:=Tryz.isAgg5,z5:=Tryz.sizeOf5,v5:=Tryz.zeroValue5,t9:=Tryz.underlying9,a9:=Tryz.isAgg9,z9:=Tryz.sizeOf9,v9:=Tryz.zeroValue9,t46:=Tryz.underlying168,a46:=Tryz.isAgg168,z46:=Tryz.sizeOf168,v46:=Tryz.zeroValue168,t51:=Tryz.underlying164,a51:=Tryz.isAgg164,z51:=Tryz.sizeOf164,v51:=Tryz.zeroValue164,t53:=Tryz.underlying200,a53:=Tryz.isAgg200,z53:=Tryz.sizeOf200,v53:=Tryz.zeroValue200}
theorem Tryz.bits_Len (x:Int)(w:World)(h0:0<=x)(h1:x<=18446744073709551615):Calls Tryz.prog 193 #[.int .u64 x] w λe w'=>e=.returned (.int .i64 (Lib.bitLen x.toNat))/\w'=w:=Any.bits_Len Tryz.lays125 x w h0 h1
def Tryz.lays137_ren:Go.Shelf.Ren:=⟨λ|137=>248|217=>285|266=>301|n=>n,λ|9=>9|5=>5|3=>3|n=>n,λ|n=>n⟩
theorem Tryz.lays137:Go.Proofs.Lays.n137 Tryz.prog Tryz.lays137_ren:={mixed:=by kernel_rfl,f137:=Tryz.func248.trans (congrArg some (by kernel_rfl)),f217:=Tryz.func285.trans (congrArg some (by kernel_rfl)),f266:=Tryz.func301.trans (congrArg some (by kernel_rfl)),t3:=Tryz.underlying3,a3:=Tryz.isAgg3,z3:=Tryz.sizeOf3,v3:=Tryz.zeroValue3,t5:=Tryz.underlying5,a5:=Tryz.isAgg5,z5:=Tryz.sizeOf5,v5:=Tryz.zeroValue5,t9:=Tryz.underlying9,a9:=Tryz.isAgg9,z9:=Tryz.sizeOf9,v9:=Tryz.zeroValue9}
open Go.RowKit in theorem Tryz.strings_IndexByte (s:ByteArray)(c:Int)(w:World):Calls Tryz.prog 248 #[.string s,.int .u8 c] w λe w'=>e=.returned (.int .i64 (Lib.indexByte s.data.toList c.toNat.toUInt8))/\w'=w:=Any.strings_IndexByte Tryz.lays137 s c w
def Tryz.lays215_ren:Go.Shelf.Ren:=⟨λ|215=>184|n=>n,λ|3=>3|4=>4|n=>n,λ|n=>n⟩
def Tryz.lays122_ren:Go.Shelf.Ren:=⟨λ|122=>147|215=>184|n=>n,λ|3=>3|4=>4|n=>n,λ|n=>n⟩
theorem Tryz.lays122:Go.Proofs.Lays.n122 Tryz.prog Tryz.lays122_ren:={mixed:=by kernel_rfl,f122:=Tryz.func147.trans (congrArg some (by kernel_rfl)),f215:=Tryz.func184.trans (congrArg some (by kernel_rfl)),t3:=Tryz.underlying3,a3:=Tryz.isAgg3,z3:=Tryz.sizeOf3,v3:=Tryz.zeroValue3,t4:=Tryz.underlying4,a4:=Tryz.isAgg4,z4:=Tryz.sizeOf4,v4:=Tryz.zeroValue4}
open Go.RowKit in theorem Tryz.cmp_Compare_int (x y:Int)(w:World):Calls Tryz.prog 147 #[.int .i64 x,.int .i64 y] w λe w'=>e=.returned (.int .i64 (Lib.compareInt x y))/\w'=w:=Any.cmp_Compare_int Tryz.lays122 x y w
def Tryz.laysM246_ren:Go.Shelf.Ren:=⟨λ|246=>307|283=>310|284=>311|285=>312|286=>313|129=>236|317=>314|318=>315|319=>316|320=>317|337=>318|338=>319|n=>n,λ|2=>2|3=>3|9=>9|4=>4|171=>317|0=>0|53=>200|37=>183|5=>5|173=>319|212=>322|51=>164|20=>20|213=>323|46=>168|232=>30|233=>324|n=>n,λ|17=>1|18=>2|19=>3|n=>n⟩
def Tryz.laysM243_ren:Go.Shelf.Ren:=⟨λ|243=>302|246=>307|283=>310|284=>311|285=>312|286=>313|129=>236|317=>314|318=>315|319=>316|320=>317|337=>318|338=>319|n=>n,λ|3=>3|9=>9|2=>2|4=>4|171=>317|0=>0|53=>200|37=>183|5=>5|173=>319|212=>322|51=>164|20=>20|213=>323|46=>168|232=>30|233=>324|n=>n,λ|17=>1|18=>2|19=>3|n=>n⟩
def Tryz.laysM171_ren:Go.Shelf.Ren:=⟨λ|171=>286|243=>302|246=>307|283=>310|284=>311|285=>312|286=>313|129=>236|317=>314|318=>315|319=>316|320=>317|337=>318|338=>319|n=>n,λ|3=>3|9=>9|2=>2|4=>4|171=>317|0=>0|53=>200|37=>183|5=>5|173=>319|212=>322|51=>164|20=>20|213=>323|46=>168|232=>30|233=>324|n=>n,λ|17=>1|18=>2|19=>3|n=>n⟩
theorem Tryz.laysM171:Go.Proofs.LaysM.n171 Tryz.prog Tryz.laysM171_ren:={mixed:=by kernel_rfl,f129:=Tryz.func236.trans (congrArg some (by kernel_rfl)),f171:=Tryz.func286.trans (congrArg some (by kernel_rfl)),f243:=Tryz.func302.trans (congrArg some (by kernel_rfl)),f246:=Tryz.func307.trans (congrArg some (by kernel_rfl)),f283:=Tryz.func310.trans (congrArg some (by kernel_rfl)),f284:=Tryz.func311.trans (congrArg some (by kernel_rfl)),f285:=Tryz.func312.trans (congrArg some (by kernel_rfl)),f286:=Tryz.func313.trans (congrArg some (by kernel_rfl)),f317:=Tryz.func314.trans (congrArg some (by kernel_rfl)),f318:=Tryz.func315.trans (congrArg some (by kernel_rfl)),f319:=Tryz.func316.trans (congrArg some (by kernel_rfl)),f320:=Tryz.func317.trans (congrArg some (by kernel_rfl)),f337:=Tryz.func318.trans (congrArg some (by kernel_rfl)),f338:=Tryz.func319.trans (congrArg some (by kernel_rfl)),t0:=Tryz.underlying0,a0:=Tryz.isAgg0,z0:=Tryz.sizeOf0,v0:=Tryz.zeroValue0,t2:=Tryz.underlying2,a2:=Tryz.isAgg2,z2:=Tryz.sizeOf2,v2:=Tryz.zeroValue2,t3:=Tryz.underlying3,a3:=Tryz.isAgg3,z3:=Tryz.sizeOf3,v3:=Tryz.zeroValue3,t4:=Tryz.underlying4,a4:=Tryz.isAgg4,z4:=Tryz.sizeOf4,v4:=Tryz.zeroValue4,t5:=Tryz.underlying5,a5:=Tryz.isAgg5,z5:=Tryz.sizeOf5,v5:=Tryz.zeroValue5,t9:=Tryz.underlying9,a9:=Tryz.isAgg9,z9:=Tryz.sizeOf9,v9:=Tryz.zeroValue9,t20:=Tryz.underlying20,a20:=Tryz.isAgg20,z20:=Tryz.sizeOf20,v20:=Tryz.zeroValue20,t37:=Tryz.underlying183,a37:=Tryz.isAgg183,z37:=Tryz.sizeOf183,v37:=Tryz.zeroValue183,t46:=Tryz.underlying168,a46:=Tryz.isAgg168,z46:=Tryz.sizeOf168,v46:=Tryz.zeroValue168,t51:=Tryz.underlying164,a51:=Tryz.isAgg164,z51:=Tryz.sizeOf164,v51:=Tryz.zeroValue164,t53:=Tryz.underlying200,a53:=Tryz.isAgg200,z53:=Tryz.sizeOf200,v53:=Tryz.zeroValue200,t171:=Tryz.underlying317,a171:=Tryz.isAgg317,z171:=Tryz.sizeOf317,v171:=Tryz.zeroValue317,t173:=Tryz.underlying319,a173:=Tryz.isAgg319,z173:=Tryz.sizeOf319,v173:=Tryz.zeroValue319,t212:=Tryz.underlying322,a212:=Tryz.isAgg322,z212:=Tryz.sizeOf322,v212:=Tryz.zeroValue322,t213:=Tryz.underlying323,a213:=Tryz.isAgg323,z213:=Tryz.sizeOf323,t232:=Tryz.underlying30,a232:=Tryz.isAgg30,z232:=Tryz.sizeOf30,v232:=Tryz.zeroValue30,t233:=Tryz.underlying324,a233:=Tryz.isAgg324,z233:=Tryz.sizeOf324,v233:=Tryz.zeroValue324,g17:=by kernel_rfl,g18:=by kernel_rfl,g19:=by kernel_rfl,i0:=by kernel_rfl,i2:=by kernel_rfl,i3:=by kernel_rfl,i4:=by kernel_rfl,i5:=by kernel_rfl,i9:=by kernel_rfl,i20:=by kernel_rfl,i37:=by kernel_rfl,i46:=by kernel_rfl,i51:=by kernel_rfl,i53:=by kernel_rfl,i171:=by kernel_rfl,i173:=by kernel_rfl,i212:=by kernel_rfl,i232:=by kernel_rfl,i233:=by kernel_rfl,m17:=by kernel_rfl,m18:=by kernel_rfl,m19:=by kernel_rfl}
open Go.RowKit Go.Sort Go.Lib in theorem Tryz.strconv_Itoa (n:Int)(h0:-9223372036854775808<=n)(h1:n<=9223372036854775807)(w:World)(htab:Lib.TabIs Tryz.prog w "internal/strconv.uint64pow10" .u64 Lib.pow10Tab):Calls Tryz.prog 286 #[.int .i64 n] w λe w'=>e=.returned (.string ⟨(Lib.itoa n).toArray⟩)/\∃k os,w'=grow (w.drewN k) os:=Any.strconv_Itoa Tryz.laysM171 n h0 h1 w htab
end Go.Proofs
namespace Go.Proofs
open Go.Shelf
def LG:Go.Shelf.Ren:=⟨λ|166=>289|240=>303|276=>308|n=>n,λ|0=>0|3=>3|4=>4|5=>5|9=>9|20=>20|37=>183|70=>277|72=>279|75=>298|80=>281|164=>314|n=>n,λ|n=>n⟩
theorem ai9:Go.Proofs.Lays.n166 Tryz.prog LG:={mixed:=by kernel_rfl,f166:=Tryz.func289.trans (congrArg some (by kernel_rfl)),f240:=Tryz.func303.trans (congrArg some (by kernel_rfl)),f276:=Tryz.func308.trans (congrArg some (by kernel_rfl)),t0:=Tryz.underlying0,a0:=Tryz.isAgg0,z0:=Tryz.sizeOf0,v0:=Tryz.zeroValue0,t3:=Tryz.underlying3,a3:=Tryz.isAgg3,z3:=Tryz.sizeOf3,v3:=Tryz.zeroValue3,t4:=Tryz.underlying4,a4:=Tryz.isAgg4,z4:=Tryz.sizeOf4,v4:=Tryz.zeroValue4,t9:=Tryz.underlying9,a9:=Tryz.isAgg9,z9:=Tryz.sizeOf9,v9:=Tryz.zeroValue9,t20:=Tryz.underlying20,a20:=Tryz.isAgg20,z20:=Tryz.sizeOf20,v20:=Tryz.zeroValue20,t37:=Tryz.underlying183,a37:=Tryz.isAgg183,z37:=Tryz.sizeOf183,v37:=Tryz.zeroValue183,t70:=Tryz.underlying277,a70:=Tryz.isAgg277,z70:=Tryz.sizeOf277,v70:=Tryz.zeroValue277,t72:=Tryz.underlying279,a72:=Tryz.isAgg279,z72:=Tryz.sizeOf279,v72:=Tryz.zeroValue279,t75:=Tryz.underlying298,a75:=Tryz.isAgg298,z75:=Tryz.sizeOf298,v75:=Tryz.zeroValue298,t164:=Tryz.underlying314,a164:=Tryz.isAgg314,z164:=Tryz.sizeOf314,v164:=Tryz.zeroValue314}
theorem Rn:Builder.Extra Tryz.prog LG:={sizeBuilder:=by kernel_rfl,liesBuilder:=by kernel_rfl,t5:=Tryz.underlying5,a5:=Tryz.isAgg5,z5:=Tryz.sizeOf5,v5:=Tryz.zeroValue5,infoByte:=by kernel_rfl,cellsByte:=by kernel_rfl,sizeByte:=by kernel_rfl,neB5:=by decide}
def LH:Go.Shelf.Ren:=⟨λ|167=>290|240=>303|276=>308|n=>n,λ|0=>0|3=>3|4=>4|5=>5|9=>9|20=>20|37=>183|70=>277|72=>279|75=>298|80=>281|164=>314|n=>n,λ|n=>n⟩
theorem aja:Go.Proofs.Lays.n167 Tryz.prog LH:={mixed:=by kernel_rfl,f167:=Tryz.func290.trans (congrArg some (by kernel_rfl)),f240:=Tryz.func303.trans (congrArg some (by kernel_rfl)),f276:=Tryz.func308.trans (congrArg some (by kernel_rfl)),t0:=Tryz.underlying0,a0:=Tryz.isAgg0,z0:=Tryz.sizeOf0,v0:=Tryz.zeroValue0,t4:=Tryz.underlying4,a4:=Tryz.isAgg4,z4:=Tryz.sizeOf4,v4:=Tryz.zeroValue4,t5:=Tryz.underlying5,a5:=Tryz.isAgg5,z5:=Tryz.sizeOf5,v5:=Tryz.zeroValue5,t9:=Tryz.underlying9,a9:=Tryz.isAgg9,z9:=Tryz.sizeOf9,v9:=Tryz.zeroValue9,t20:=Tryz.underlying20,a20:=Tryz.isAgg20,z20:=Tryz.sizeOf20,v20:=Tryz.zeroValue20,t37:=Tryz.underlying183,a37:=Tryz.isAgg183,z37:=Tryz.sizeOf183,v37:=Tryz.zeroValue183,t70:=Tryz.underlying277,a70:=Tryz.isAgg277,z70:=Tryz.sizeOf277,v70:=Tryz.zeroValue277,t72:=Tryz.underlying279,a72:=Tryz.isAgg279,z72:=Tryz.sizeOf279,v72:=Tryz.zeroValue279,t75:=Tryz.underlying298,a75:=Tryz.isAgg298,z75:=Tryz.sizeOf298,v75:=Tryz.zeroValue298,t164:=Tryz.underlying314,a164:=Tryz.isAgg314,z164:=Tryz.sizeOf314,v164:=Tryz.zeroValue314}
theorem Ro:Builder.Extra Tryz.prog LH:={sizeBuilder:=by kernel_rfl,liesBuilder:=by kernel_rfl,t5:=Tryz.underlying5,a5:=Tryz.isAgg5,z5:=Tryz.sizeOf5,v5:=Tryz.zeroValue5,infoByte:=by kernel_rfl,cellsByte:=by kernel_rfl,sizeByte:=by kernel_rfl,neB5:=by decide}
end Go.Proofs
namespace Qv
open Go
def Bt (T:List (List Nat)):Nat->List Nat->List Nat->List Nat|0,_,seen=>seen.reverse|_,[],seen=>seen.reverse|n+1,f::todo,seen=>if seen.contains f then Bt T n todo seen else Bt T n ((T[f]?).getD []++todo) (f::seen)
theorem aaN {P:Program}{T:List (List Nat)}(hT:P.funcs.toList.map P.leadsTo=T)(f:Nat):(P.funcs[f]?).elim [] P.leadsTo=(T[f]?).getD []:=by subst hT;rw[aM,<-sD];cases P.funcs.toList[f]?<;>rfl
theorem Ex {P:Program}{T:List (List Nat)}(hT:P.funcs.toList.map P.leadsTo=T):∀(n:Nat)(todo seen:List Nat),P.closureVia n todo seen=Bt T n todo seen
 |0,todo,seen=>by cases todo<;>rfl
 |n+1,[],seen=>rfl
 |n+1,f::todo,seen=>by show(if seen.contains f then P.closureVia n todo seen else P.closureVia n ((P.funcs[f]?).elim [] P.leadsTo++todo) (f::seen))=if seen.contains f then Bt T n todo seen else Bt T n ((T[f]?).getD []++todo) (f::seen);rw[Ex hT n,Ex hT n,aaN hT]
def Ii (T:List (List Nat)):Nat->List Nat->List Nat->Nat->List Nat|0,_,seen,_=>seen.reverse|_+1,[],seen,_=>seen.reverse|n+1,f::todo,seen,m=>match Nat.testBit m f with|true=>Ii T n todo seen m|false=>Ii T n ((T[f]?).getD []++todo) (f::seen) (m|||2^f)
theorem Ey (T:List (List Nat)):∀(n:Nat)(todo seen:List Nat)(m:Nat),(∀f,Nat.testBit m f=seen.contains f)->Ii T n todo seen m=Bt T n todo seen
 |0,todo,seen,m,_=>by cases todo<;>rfl
 |n+1,[],seen,m,_=>rfl
 |n+1,f::todo,seen,m,h=>by
  have hf:=h f;unfold Ii Bt;cases hb:Nat.testBit m f with
  |true=>rw[hb]at hf;rw[af hf.symm];exact Ey T n todo seen m h
  |false=>rw[hb]at hf;rw[aa (by rw[<-hf];simp)];refine Ey T n _ (f::seen) _ λg=>?_;rw[Nat.testBit_or,Nat.testBit_two_pow,h g,List.contains_cons];by_cases hg:f=g;subst hg;simp;have :¬g=f:=λe=>hg e.symm;simp[hg,this]
theorem Ij {P:Program}{T:List (List Nat)}(f:Nat)(L:List Nat)(hT:P.funcs.toList.map P.leadsTo=T)(h:Ii T (1+(T.map λl=>l.length+1).sum) [f] [] 0=L):P.closure f=L:=by
 unfold Program.closure;have e:(P.funcs.toList.map λg=>(P.leadsTo g).length+1)=T.map λl=>l.length+1:=by rw[<-hT,gY];rfl
 rw[e,Ex hT,<-Ey T _ [f] [] 0 (λg=>by simp)];exact h
end Qv
