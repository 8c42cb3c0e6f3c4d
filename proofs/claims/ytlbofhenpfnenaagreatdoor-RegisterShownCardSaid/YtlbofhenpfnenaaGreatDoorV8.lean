/- Part 33 of the proof: its lemmas. No condition. -/
import Derived.Test.YtlbofhenpfnenaaGreatDoorU22
import Derived.Test.YtlbofhenpfnenaaGreatDoorU25
import Derived.Test.YtlbofhenpfnenaaGreatDoorV2
import Derived.Test.YtlbofhenpfnenaaGreatDoorV3
import Derived.Test.YtlbofhenpfnenaaGreatDoorV5
import Derived.Test.YtlbofhenpfnenaaGreatDoorV7
set_option maxRecDepth 10000
set_option maxHeartbeats 80000000
set_option linter.all false
open Go Go.Proofs Go.RowKit
namespace Qv
def yU (mq:List bg)(file:bg)(kind:Int)(a:bD):Bool:=decide (a.kind=kind)&&(decide (a.file=file)&&decide (a.id∈mq))
def pH (all:List bD)(mq:List bg)(file:bg)(kind:Int):List bD:=all.filter (yU mq file kind)
theorem ab1 (l:List bD)(mq:List bg)(file:bg)(kind:Int)(hl:l.length<=2^32)(hv:mq.length<=2^47):ak C 47 [.sl (eU l),.sl (iq mq),.agg (cI file),.int .i64 kind] (λr=>r=.val (.sl (eU (pH l mq file kind)))):=by
 unfold eU pH;refine ag Tryz.func47 rfl rfl rfl ?_;refine bu 51 (λk:Nat=>[(0,.p (.sl (l.map cA))),(1,.p (.sl (iq mq))),(3,.p (.int .i64 kind)),(6,.ptr 6 0),(9,.eH 11 48 172 (((l.take k).filter (yU mq file kind)).map cA)),(10,.p (.int .i64 k))]) (λ_=>[(6,aH (cI file))]) (λk=>k<=l.length) (λk=>l.length-k) 0 (zL) rfl wS oS ?_;intro k hk;refine bQ (λhlt=>?_) (λhge=>?_);rotate_left;obtain rfl:k=l.length:=oO
 rw[aJ];exact .inr rfl;have hf:=iJ (f:=yU mq file kind) hlt;have hfl:((l.take k).filter (yU mq file kind)).length<=l.length:=bH (di _ _) (xZ _ _);have no:yU mq file kind l[k]=false->((l.take (k+1)).filter (yU mq file kind))=(l.take k).filter (yU mq file kind):=λh=>by rw[hf,h];simp
 refine cm 23 kK ?_;refine ix hlt ?_;refine aA (λh1=>?_) (λh1=>?_);rotate_left;have h1:¬l[k].kind=kind:=h1;have :=no (by simp[yU,h1]);exact nx (k+1) (aO (k+1) hlt oO rfl ⟨aF.refl _,aF.refl _,aF.refl _,aF.refl _,aF.eq (by rw[this];rfl),aF.refl _,trivial⟩ oS);have h1:l[k].kind=kind:=h1;refine ix hlt ?_;refine ou ?_;refine iu (a:=l[k].file) (b:=file) ?_;by_cases h2:l[k].file=file;rotate_left;rw[ah h2];have :=no (by simp[yU,h2]);exact nx (k+1) (aO (k+1) hlt oO rfl ⟨aF.refl _,aF.refl _,aF.refl _,aF.refl _,aF.eq (by rw[this];rfl),aF.refl _,trivial⟩ oS);rw[an h2];refine ix hlt ?_;refine cl (NY mq l[k].id hv) ?_;by_cases h3:l[k].id∈mq;rotate_left;rw[ah h3];have :=no (by simp[yU,h3]);exact nx (k+1) (aO (k+1) hlt oO rfl ⟨aF.refl _,aF.refl _,aF.refl _,aF.refl _,aF.eq (by rw[this];rfl),aF.refl _,trivial⟩ oS);rw[an h3];have hy:yU mq file kind l[k]=true:=by simp[yU,h1,h2,h3]
 rw[hy,af rfl]at hf;refine ix hlt ?_;refine⟨jk,jk (l:=[l[k]]),by show((((l.take k).filter (yU mq file kind)).map cA).length+1)*296<=_;rw[aj];omega,((l.take (k+1)).filter (yU mq file kind)).map cA,by rw[hf,aM];rfl,?_⟩;exact nx (k+1) (aO (k+1) hlt oO rfl wS oS)
def fH (s:List bO)(file:bg)(kind:Int):List bD:=if kind≠3/\kind≠4 then[]else pH (cz s) (gL s) file kind
theorem Ae {s:List bO}(hl:s.length<=400)(file:bg)(kind:Int):(fH s file kind).length<=2^22*400:=by unfold fH;split;exact zL;exact bH (di _ _) (jb hl)
theorem Fw (s:List bO)(file:bg)(kind:Int)(hs:qH s)(hl:s.length<=400)(hE:(oT s).length<=2^20):ak C 26 [.sl (cn s),.agg (cI file),.int .i64 kind] (λr=>r=.val (.sl (eU (fH s file kind)))):=by
 have h1:=jb hl;have h2:=uw hl;refine dM [3] Tryz.func26 rfl rfl rfl ?_;refine⟨none,?_⟩;unfold fH;refine share (T:=?T1) (λH=>?m1) ?r1;case m1=>refine cF (λh3=>cF (λh4=>?_) (λh4=>?_)) (λh3=>?_);rw[af ⟨h3,h4⟩];exact .inr rfl;rw[aa λg=>g.2 h4];refine dL 21 [(0,.p (.sl (cn s))),(2,.p (.int .i64 kind)),(4,.ptr 4 0)] [(4,aH (cI file))] rfl wS oS ?_;exact H.out;rw[aa λg=>g.1 h3];refine dL 21 [(0,.p (.sl (cn s))),(2,.p (.int .i64 kind)),(4,.ptr 4 0)] [(4,aH (cI file))] rfl wS oS ?_;exact H.out
 case r1=>refine cm 6 kK ?_;refine⟨_,(DW s hs hl).cut,?_⟩;refine⟨_,(OA s hs hl hE).cut,?_⟩;refine cl (ab1 (cz s) (gL s) file kind oO (by unfold gL;rw[aj];omega)).cut ?_;exact rfl
def Bt (s:List bO)(file:bg):Int:=match fH s file 3 with|[]=>0|a::_=>a.mode
def Mc (s:List bO)(file:bg):Bytes:=match fH s file 4 with|[]=>[]|a::_=>a.data
theorem ae3 (s:List bO)(file:bg)(hs:qH s)(hl:s.length<=400)(hE:(oT s).length<=2^20):ak C 27 [.sl (cn s),.agg (cI file)] (λr=>r=.val (.int .i64 (Bt s file))):=by
 refine ag Tryz.func27 rfl rfl rfl ?_;refine cl (Fw s file 3 hs hl hE) ?_;unfold Bt;cases fH s file 3 with
 |nil=>refine aA (λ_=>?_) (λh=>absurd rfl h);exact rfl
 |cons a l=>refine aA (λh=>absurd (show(((eU l).length+1:Nat):Int)=0 from h) oO) (λ_=>?_);refine⟨dD,_,rfl,rfl,?_⟩;exact rfl
theorem ae4 (s:List bO)(file:bg)(hs:qH s)(hl:s.length<=400)(hE:(oT s).length<=2^20):ak C 29 [.sl (cn s),.agg (cI file)] (λr=>r=.val (.str (Mc s file))):=by
 refine ag Tryz.func29 rfl rfl rfl ?_;refine cl (Fw s file 4 hs hl hE) ?_;unfold Mc;cases fH s file 4 with
 |nil=>refine aA (λ_=>?_) (λh=>absurd rfl h);exact rfl
 |cons a l=>refine aA (λh=>absurd (show(((eU l).length+1:Nat):Int)=0 from h) oO) (λ_=>?_);refine⟨dD,_,rfl,rfl,?_⟩;exact rfl
def jU (data:Bytes)(offset:Int)(old new:Bytes):Bytes×Int:=if offset<0\/(data.length:Int)<offset then([],2)else if¬(old.length<=(data.drop offset.toNat).length/\(data.drop offset.toNat).take old.length=old)then([],15)else if 65536<data.length-old.length+new.length then([],4)else(data.take offset.toNat++new++(data.drop offset.toNat).drop old.length,0)
theorem Ul (data:Bytes)(offset:Int)(old new:Bytes)(hd:data.length<=3000)(ho:old.length<=3000)(hn:new.length<=3000):ak C 31 [.str data,.int .i64 offset,.str old,.str new] (λr=>r=.val (abL (jU data offset old new))):=by
 obtain⟨E,hE⟩:∃E,jU data offset old new=E:=⟨_,rfl⟩;rw[hE];have hE:E=jU data offset old new:=hE.symm;unfold jU at hE;refine ag Tryz.func31 rfl rfl rfl ?_;refine⟨none,?_⟩;refine az (λh=>?_) (λh=>az (λh2=>?_) (λh2=>?_));rw[af (.inl h)]at hE;rw[hE];exact rfl;rw[af (.inr h2)]at hE;rw[hE];exact rfl;have h:¬offset<0:=h;have h2:¬offset>(data.length:Int):=h2;rw[aa (show¬(offset<0\/(data.length:Int)<offset)by omega)]at hE;obtain⟨n,rfl⟩:=gu (show 0<=offset by omega);have hnl:n<=data.length:=oO
 rw[gR]at hE;refine⟨n,rfl,hnl,ay _,data.drop n,by rw[aJ],?_⟩;have hrl:(data.drop n).length=data.length-n:=bV;refine⟨none,?_⟩;refine az (λh3=>?_) (λh3=>?_);have h3:((data.drop n).length:Int)<(old.length:Int):=h3;rw[af (show¬(old.length<=(data.drop n).length/\(data.drop n).take old.length=old)fromλg=>oO)]at hE;rw[hE];exact rfl;have h3:¬((data.drop n).length:Int)<(old.length:Int):=h3;refine⟨old.length,rfl,zL,oO,(data.drop n).take old.length,rfl,?_⟩;refine uo (λh4=>?_) (λh4=>?_);rw[af (show¬(old.length<=(data.drop n).length/\(data.drop n).take old.length=old)fromλg=>h4 g.2)]at hE;rw[hE];exact rfl;rw[aa (show¬¬(old.length<=(data.drop n).length/\(data.drop n).take old.length=old)fromλg=>g ⟨oO,h4⟩)]at hE;refine nx (data.length-old.length) ?_;refine nx (data.length-old.length+new.length) ?_;refine az (λh5=>?_) (λh5=>?_);rw[af (show 65536<data.length-old.length+new.length by have :((data.length-old.length+new.length:Nat):Int)>65536:=h5;omega)]at hE;rw[hE];exact rfl;rw[aa (show¬65536<data.length-old.length+new.length by have :¬((data.length-old.length+new.length:Nat):Int)>65536:=h5;omega)]at hE;refine cm 12 kK ?_;refine⟨.p (.str (data.take n)),⟨n,rfl,zL,hnl,data.take n,rfl,rfl⟩,?_⟩;refine⟨by rw[aD];omega,?_⟩;refine⟨.p (.str ((data.drop n).drop old.length)),⟨old.length,rfl,oO,ay _,(data.drop n).drop old.length,by rw[aJ],rfl⟩,?_⟩;refine⟨by rw[aq,aD,bV];omega,?_⟩;rw[hE];exact rfl
theorem OB (s p:Bytes):ak C 63 [.str s,.str p] (λr=>r=.val (.bool (Lib.hasPrefix s p))):=by
 refine⟨⟨_,Tryz.func63,rfl,rfl⟩,λaZ w vs hJ hn hi hl hr=>?_⟩;match vs,hl with
  |[v0,v1],_=>
   have h:=hr 0 v0 _ rfl rfl;have h':=hr 1 v1 _ rfl rfl;obtain rfl:v0=.string ⟨s.toArray⟩:=by cases h;rfl
   obtain rfl:v1=.string ⟨p.toArray⟩:=by cases h';rfl
   refine(Tryz.strings_HasPrefix ⟨s.toArray⟩ ⟨p.toArray⟩ w).mono ?_;rintro e w' ⟨rfl,rfl⟩;exact⟨_,_,rfl,rfl,.bool _,Below.refl _ _⟩
theorem OC (s p:Bytes):Lib.hasPrefix s p=decide (p.length<=s.length/\s.take p.length=p):=by
 have h:Lib.hasPrefix s p=true↔p.length<=s.length/\s.take p.length=p:=by unfold Lib.hasPrefix;rw[List.isPrefixOf_iff_prefix,List.prefix_iff_eq_take];constructor;intro e;refine⟨?_,e.symm⟩;have :=aB List.length e;rw[aD]at this;omega;rintro⟨-,e⟩;exact e.symm
 by_cases g:p.length<=s.length/\s.take p.length=p;rw[an g];exact h.2 g;rw[ah g];cases hq:Lib.hasPrefix s p with
 |false=>rfl
 |true=>exact absurd (h.1 hq) g
theorem ya (data:Bytes)(offset:Int)(old new:Bytes)(hd:data.length<=2^20)(ho:old.length<=3000)(hn:new.length<=3000):ak C 30 [.str data,.int .i64 offset,.str old,.str new] (λr=>r=.val (abL (jU data offset old new))):=by
 obtain⟨E,hE⟩:∃E,jU data offset old new=E:=⟨_,rfl⟩;rw[hE];have hE:E=jU data offset old new:=hE.symm;unfold jU at hE;refine ag Tryz.func30 rfl rfl rfl ?_;refine⟨none,?_⟩;refine az (λh=>?_) (λh=>az (λh2=>?_) (λh2=>?_));rw[af (.inl h)]at hE;rw[hE];exact rfl;rw[af (.inr h2)]at hE;rw[hE];exact rfl;have h:¬offset<0:=h;have h2:¬offset>(data.length:Int):=h2;rw[aa (show¬(offset<0\/(data.length:Int)<offset)by omega)]at hE;obtain⟨n,rfl⟩:=gu (show 0<=offset by omega);have hnl:n<=data.length:=oO
 rw[gR]at hE;refine⟨n,rfl,hnl,ay _,data.drop n,by rw[aJ],?_⟩;have hrl:(data.drop n).length=data.length-n:=bV;refine cl (OB (data.drop n) old) ?_;refine bl ?_;rw[OC];by_cases hp:old.length<=(data.drop n).length/\(data.drop n).take old.length=old;rotate_left;rw[ah hp];rw[af hp]at hE;rw[hE];exact rfl;rw[an hp];rw[aa λg=>g hp]at hE;refine nx (data.length-old.length) ?_;refine nx (data.length-old.length+new.length) ?_;refine az (λh5=>?_) (λh5=>?_);rw[af (show 65536<data.length-old.length+new.length by have :((data.length-old.length+new.length:Nat):Int)>65536:=h5;omega)]at hE;rw[hE];exact rfl;rw[aa (show¬65536<data.length-old.length+new.length by have :¬((data.length-old.length+new.length:Nat):Int)>65536:=h5;omega)]at hE;refine cm 14 kK ?_;refine⟨.p (.str (data.take n)),⟨n,rfl,zL,hnl,data.take n,rfl,rfl⟩,?_⟩;refine⟨by rw[aD];omega,?_⟩;refine nx (n+old.length) ?_;refine⟨.p (.str ((data.drop n).drop old.length)),⟨n+old.length,rfl,oO,ay _,(data.drop n).drop old.length,by rw[aJ,sY],rfl⟩,?_⟩;refine⟨by rw[aq,aD,bV];omega,?_⟩;rw[hE];exact rfl
theorem fA (x:bg):ak C 151 [.agg (cI x)] (λr=>r=.val (.bool (decide (x.p=bF)))):=by refine ag Tryz.func151 rfl rfl rfl ?_;refine⟨yX,dQ,lq,rfl,rfl,?_⟩;refine IQ (a:=x.p) (b:=bF) ?_;exact rfl
theorem Jt (l:List Sx):ak C 219 [.sl (mE l)] (λr=>r=.val (.agg (cX (.list l)))):=by refine ag Tryz.func219 rfl rfl rfl ?_;exact rfl
theorem qu (s:Bytes):ak C 220 [.str s] (λr=>r=.val (.agg (cX (.atom s)))):=by refine ag Tryz.func220 rfl rfl rfl ?_;exact rfl
abbrev vu:Extra:={opens:=[],BB:=[],full:=false}
theorem OD (w:World)(k:Nat)(os:Array Obj):RowKit.Below w.heap.size w (Sort.grow (w.drewN k) os):=⟨rfl,rfl,rfl,by simp[Sort.grow],λi hi=>by show(w.heap++os)[i]?=w.heap[i]?;rw[tc hi]⟩
theorem RD (n:Int)(h0:-9223372036854775808<=n)(h1:n<=9223372036854775807):ak C 286 [.int .i64 n] (λr=>r=.val (.str (Lib.itoa n))):=by
 refine⟨⟨_,Tryz.func286,rfl,rfl⟩,λaZ w vs hJ hn hi hl hr=>?_⟩;match vs,hl with
  |[v0],_=>
   have h:=hr 0 v0 _ rfl rfl;obtain rfl:v0=.int .i64 n:=by cases h;rfl
   refine(Tryz.strconv_Itoa n h0 h1 w hJ.1).mono ?_;rintro e w' ⟨rfl,k,os,rfl⟩;exact⟨_,_,rfl,rfl,.str _,OD w k os⟩
theorem AP (n:Int):ak C 222 [.int .i64 n] (λr=>r=.val (.agg (cX (cG n)))):=by
 have key:ak C 267 [.int .i64 n] (λr=>r=.val (.eV [.agg (cX (cG n)),.int .i64 (if-1099511627776<=n/\n<=1099511627776 then 0 else 2)])):=by refine ag Tryz.func267 rfl rfl rfl ?_;refine⟨none,?_⟩;unfold cG Rt;refine az (λh=>?_) (λh=>az (λh2=>?_) (λh2=>?_));have h:n< -1099511627776:=h;rw[aa (show¬(-1099511627776<=n/\n<=1099511627776)by omega),aa (show¬(-1099511627776<=n/\n<=1099511627776)by omega)];exact rfl;have h2:n>1099511627776:=h2;rw[aa (show¬(-1099511627776<=n/\n<=1099511627776)by omega),aa (show¬(-1099511627776<=n/\n<=1099511627776)by omega)];exact rfl;have h:¬n< -1099511627776:=h;have h2:¬n>1099511627776:=h2;rw[af (show-1099511627776<=n/\n<=1099511627776 by omega),af (show-1099511627776<=n/\n<=1099511627776 by omega)];refine cl (RD n oO oO) ?_;exact rfl
 refine ag Tryz.func222 rfl rfl rfl ?_;refine cl key ?_;exact rfl
theorem ae5 (x:bD):ak C 250 [.agg (cA x)] (λr=>r=.val (.bool (decide (x.kind=1)))):=by refine ag Tryz.func250 rfl rfl rfl ?_;refine aA (λh=>?_) (λh=>?_);show cQ.val (.bool true)=_;rw[an (show x.kind=1 from h)];show cQ.val (.bool false)=_;rw[ah (show¬x.kind=1 from h)]
theorem ae6 (x:bD):ak C 251 [.agg (cA x)] (λr=>r=.val (.bool (decide (x.kind=1)&&(decide (x.type=2)||decide (x.type=3))))):=by refine ag Tryz.func251 rfl rfl rfl ?_;refine⟨none,?_⟩;refine aA (λh=>aA (λh2=>?_) (λh2=>aA (λh3=>?_) (λh3=>?_))) (λh=>?_);show cQ.val (.bool true)=_;rw[an (show x.kind=1 from h),an (show x.type=2 from h2)];rfl;show cQ.val (.bool true)=_;rw[an (show x.kind=1 from h),ah (show¬x.type=2 from h2),an (show x.type=3 from h3)];rfl;show cQ.val (.bool false)=_;rw[an (show x.kind=1 from h),ah (show¬x.type=2 from h2),ah (show¬x.type=3 from h3)];rfl;show cQ.val (.bool false)=_;rw[ah (show¬x.kind=1 from h)];rfl
theorem ae7 (x:bD):ak C 252 [.agg (cA x)] (λr=>r=.val (.bool (decide (x.kind=1)&&decide (x.type=1)))):=by refine ag Tryz.func252 rfl rfl rfl ?_;refine⟨none,?_⟩;refine aA (λh=>aA (λh2=>?_) (λh2=>?_)) (λh=>?_);show cQ.val (.bool true)=_;rw[an (show x.kind=1 from h),an (show x.type=1 from h2)];rfl;show cQ.val (.bool false)=_;rw[an (show x.kind=1 from h),ah (show¬x.type=1 from h2)];rfl;show cQ.val (.bool false)=_;rw[ah (show¬x.kind=1 from h)];rfl
theorem ae8 (x:bD):ak C 253 [.agg (cA x)] (λr=>r=.val (.bool (decide (x.kind=1)&&decide (x.type=4)))):=by refine ag Tryz.func253 rfl rfl rfl ?_;refine⟨none,?_⟩;refine aA (λh=>aA (λh2=>?_) (λh2=>?_)) (λh=>?_);show cQ.val (.bool true)=_;rw[an (show x.kind=1 from h),an (show x.type=4 from h2)];rfl;show cQ.val (.bool false)=_;rw[an (show x.kind=1 from h),ah (show¬x.type=4 from h2)];rfl;show cQ.val (.bool false)=_;rw[ah (show¬x.kind=1 from h)];rfl
theorem ae9 (x:bD)(c:eG):ak C 254 [.agg (cA x),.imp (cC c)] (λr=>r=.val (.bool (decide (x.id=c.file)||(decide (x.kind=5)&&decide (x.file=c.file))))):=by refine ag Tryz.func254 rfl rfl rfl ?_;refine⟨none,?_⟩;refine ou ?_;refine iu (a:=x.id) (b:=c.file) ?_;by_cases h:x.id=c.file;rw[an h];exact rfl;rw[ah h];refine aA (λh2=>?_) (λh2=>?_);refine ou ?_;refine iu (a:=x.file) (b:=c.file) ?_;show cQ.val _=_;rw[an (show x.kind=5 from h2)];rfl;show cQ.val (.bool false)=_;rw[ah (show¬x.kind=5 from h2)];rfl
theorem acg (k:Int)(hk:k=2\/k=3\/k=4\/k=6):ak C 256 [.int .i64 k] (λr=>r=.val (.int .i64 k)):=by
 have wA:eM Tryz.prog 40 3=some [.int .i64]:=kK
 have jV:∀{L:List gI}{l:List (AV×FV)},(l.all λp=>gB false L p.1)=true->∀p,p∈l->gB false L p.1=true:=λh p hp=>bY.1 h p hp;refine ag Tryz.func256 rfl rfl rfl ?_;refine⟨[.int .i64],wA,rfl,(λp hp=>nomatch hp),_,rfl,?_⟩;refine⟨[.int .i64],wA,rfl,jV rfl,_,rfl,?_⟩;refine⟨[.int .i64],wA,rfl,jV rfl,_,rfl,?_⟩;refine⟨[.int .i64],wA,rfl,jV rfl,_,rfl,?_⟩;rcases hk with rfl|rfl|rfl|rfl;all_goals exact⟨[.int .i64],wA,rfl,jV rfl,_,rfl,rfl⟩
theorem afa (x:bD)(c:eG)(hk:c.kind=2\/c.kind=3\/c.kind=4\/c.kind=6\/c.kind=7):ak C 255 [.agg (cA x),.imp (cC c)] (λr=>r=.val (.bool (fG c.kind c.file x))):=by
 refine ag Tryz.func255 rfl rfl rfl ?_;refine cm 19 kK ?_;refine aA (λh=>?_) (λh=>?_);have h:c.kind=7:=h;show cQ.val (.bool true)=_;simp[fG,IZ,h];have h:c.kind≠7:=h;refine⟨_,acg c.kind oO,?_⟩;have hw:IZ c.kind=c.kind:=aa h;have h0:¬c.kind=0:=oO
 refine aA (λh2=>?_) (λh2=>?_);have h2:x.kind=c.kind:=h2;refine ou ?_;refine iu (a:=x.file) (b:=c.file) ?_;show cQ.val _=_;rw[fG,hw,ah h0,an h2];rfl;have h2:¬x.kind=c.kind:=h2;show cQ.val (.bool false)=_;rw[fG,hw,ah h0,ah h2];rfl
theorem Ju (s:Bytes)(hs:s.length<=2^50):ak C 212 [.str s] (λr=>r=.val (.bool (iC s))):=by
 refine ag Tryz.func212 rfl rfl rfl ?_;refine bu 63 (λk:Nat=>[(0,.p (.str s)),(6,.p (.int .i64 (s.length:Int))),(7,.p (.int .i64 k))]) (λ_=>[]) (λk=>k<=s.length/\∀i c,i<k->s[i]?=some c->oN c.toNat) (λk=>s.length-k) 0 ⟨zL,λi c h=>absurd h (ia _)⟩ rfl wS trivial ?_;rintro k ⟨hk,hall⟩;have hw:IntKind.i64.wrap ((k:Int)+1)=((k+1:Nat):Int):=by rw[wrap64 oO oO];omega
 refine az (λhlt=>?_) (λhge=>?_)
 ·have hlt:k<s.length:=by have :(k:Int)<(s.length:Int):=hlt;omega
  obtain⟨c,hc⟩:∃c,s[k]?=some c:=⟨_,av hlt⟩;refine⟨oO,c,Hx rfl hc,?_⟩;have bad:¬oN c.toNat->iC s=false:=λh=>jF (.inr (.inr (.inr (.inr ⟨c,bz hc,h⟩))));have good:oN c.toNat->k+1<=s.length/\∀i d,i<k+1->s[i]?=some d->oN d.toNat:=λh=>⟨hlt,λi d hi hd=>by by_cases hik:i=k;subst hik;rw[hc]at hd;obtain rfl:=au hd;exact h;exact hall i d oO hd⟩;refine⟨none,?_⟩;have aa2:¬oN c.toNat->cQ.val (.bool false)=cQ.val (.bool (iC s)):=λh=>by rw[bad h]
  repeat' (first|refine az (λh=>?_) (λh=>?_)|refine cF (λh=>?_) (λh=>?_)|refine bl ?_)
  all_goals first|exact aa2 (by unfold oN;omega)|exact⟨_,hw,aO (k+1) (good (by unfold oN;omega)) oO rfl wS trivial⟩
 have hge:¬k<s.length:=by intro h;exact hge (show(k:Int)<(s.length:Int)by omega)
 have hn:∀c,c∈s->oN c.toNat:=λc hc=>by obtain⟨i,hi⟩:=iP hc;exact hall i c (by have :=(aG.1 hi).1;omega) hi
 refine⟨none,?_⟩;refine uo (λhne=>?_) (λhne=>?_);refine az (λh2=>?_) (λh2=>?_);refine uo (λh3=>?_) (λh3=>?_);refine uo (λh4=>?_) (λh4=>?_);rw[IT hne h3 h4 oO hn];exact rfl;rw[jF (.inr (.inr (.inl h4)))];exact rfl;rw[jF (.inr (.inl h3))];exact rfl;rw[jF (.inr (.inr (.inr (.inl oO))))];exact rfl;rw[jF (.inl hne)];exact rfl
theorem ux (c:UInt8):∀l:Bytes,(Lib.indexByte l c<0)↔c∉l
 |[]=>by simp[Lib.indexByte]
 |b::l=>by
  have ih:=ux c l;have hge:=Lib.indexByte_ge l c;unfold Lib.indexByte;by_cases hb:b=c;subst hb;simp;have hb':(b==c)=false:=by simpa using hb
  rw[hb'];simp only[sS,if_false,aQ,not_or];by_cases h1:Lib.indexByte l c=-1;rw[h1];simp only[beq_self_eq_true,if_true];refine⟨λ_=>⟨λe=>hb e.symm,ih.1 oO⟩,λ_=>dD⟩;have :(Lib.indexByte l c==-1)=false:=by simpa using h1
  rw[this];simp only[sS,if_false];refine⟨λh=>oO,λh=>?_⟩;have :=ih.2 h.2;omega
theorem DX (s:Bytes)(c:UInt8):ak C 248 [.str s,.int .u8 (c.toNat:Int)] (λr=>r=.val (.int .i64 (Lib.indexByte s c))):=by
 refine⟨⟨_,Tryz.func248,rfl,rfl⟩,λaZ w vs hJ hn hi hl hr=>?_⟩;match vs,hl with
  |[v0,v1],_=>
   have h0:=hr 0 v0 _ rfl rfl;have h1:=hr 1 v1 _ rfl rfl;obtain rfl:v0=.string ⟨s.toArray⟩:=by cases h0;rfl
   obtain rfl:v1=.int .u8 (c.toNat:Int):=by cases h1;rfl
   refine(Tryz.strings_IndexByte ⟨s.toArray⟩ (c.toNat:Int) w).mono ?_;rintro e w' ⟨rfl,rfl⟩;have hc:((c.toNat:Int)).toNat.toUInt8=c:=by simp
   exact⟨_,_,rfl,rfl,by rw[hc];exact .int _ _,RowKit.Below.refl _ _⟩
theorem Yn (s:Bytes)(hs:s.length<=2^47):ak C 215 [.str s] (λr=>r=.val (.bool (qk s))):=by
 have key:∀x:UInt8,x∉s↔(s.all λc=>c !=x)=true:=λx=>by rw[bY];exact⟨λh c hc=>by simp only[bne_iff_ne,ne_eq];exactλe=>h (e▸hc),λh hm=>by simpa using h x hm⟩
 have jH:zU s 10 0=((s.all λc=>c !=10)&&(s.all λc=>c !=0)):=by unfold zU;rw[mj];simp only[bY,aW];exact⟨λh=>⟨λc hc=>(h c hc).1,λc hc=>(h c hc).2⟩,λh c hc=>⟨h.1 c hc,h.2 c hc⟩⟩
 refine ag Tryz.func215 rfl rfl rfl ?_;refine⟨none,?_⟩;unfold qk;rw[jH];refine az (λh=>?_) (λh=>?_);have h:s.length<=1000:=by have :(s.length:Int)<=1000:=h;omega
 refine cl (DX s 10) ?_;refine az (λh2=>?_) (λh2=>?_);have h2:=(key 10).1 ((ux 10 s).1 h2);refine cl (DX s 0) ?_;refine az (λh3=>?_) (λh3=>?_);have h3:=(key 0).1 ((ux 0 s).1 h3);show cQ.val _=_;simp only[h,h2,h3,decide_true,Bool.and_self];have h3:(s.all λc=>c !=0)=false:=by
  cases hq:s.all λc=>c !=0 with
  |false=>rfl
  |true=>exact absurd ((ux 0 s).2 ((key 0).2 hq)) h3
 show cQ.val _=_;simp only[h3,xY];have h2:(s.all λc=>c !=10)=false:=by
  cases hq:s.all λc=>c !=10 with
  |false=>rfl
  |true=>exact absurd ((ux 10 s).2 ((key 10).2 hq)) h2
 show cQ.val _=_;simp only[h2,xY,jy];have h:¬s.length<=1000:=by have :¬(s.length:Int)<=1000:=h;omega
 show cQ.val _=_;simp only[h,decide_false,jy]
def yK (p:ga):Int:=if iC p.eW=false then 5 else if 1000<p.message.length then 4 else if p.time<0\/1099511627776<p.time then 2 else if mZ p.deps≠0 then mZ p.deps else if p.changes.length=0 then 1 else if 400<p.changes.length then 4 else 0
theorem Um (p:ga):dw p=if yK p≠0 then([],yK p)else ic p.changes []:=by unfold dw yK;by_cases h1:iC p.eW=false;simp only[af h1];rfl;simp only[aa h1];by_cases h2:1000<p.message.length;simp only[af h2];rfl;simp only[aa h2];by_cases h3:p.time<0\/1099511627776<p.time;simp only[af h3];rfl;simp only[aa h3];by_cases h4:mZ p.deps≠0;simp only[af h4];simp only[aa h4];by_cases h5:p.changes.length=0;simp only[af h5];rfl;simp only[aa h5];by_cases h6:400<p.changes.length;simp only[af h6];rfl;simp only[aa h6];rfl
theorem ab2 (p:ga)(hz:SS p):ak C 185 [.agg (cP p)] (λr=>r=.val (.int .i64 (yK p))):=by
 obtain⟨eW,message,time,deps,changes⟩:=p;have hza:=hz.eW;have hzd:=hz.deps;have Hv:=hz.len;obtain⟨E,hE⟩:∃E,yK ⟨eW,message,time,deps,changes⟩=E:=⟨_,rfl⟩;rw[hE];unfold yK at hE;simp only at hE hza hzd Hv;refine ag Tryz.func185 rfl rfl rfl ?_;refine cl (Ju eW oO) ?_;refine bl ?_;cases hn:iC eW with
 |false=>rw[af hn]at hE;subst hE;exact rfl
 |true=>
  rw[aa (by rw[hn];decide)]at hE;refine az (λh=>?_) (λh=>?_);rw[af (show 1000<message.length by have :(message.length:Int)>1000:=h;omega)]at hE;subst hE;exact rfl;rw[aa (show¬1000<message.length by have :¬(message.length:Int)>1000:=h;omega)]at hE;refine⟨none,?_⟩;refine az (λh=>?_) (λh3=>?_);rw[af (show time<0\/1099511627776<time from .inl h)]at hE;subst hE;exact rfl;refine az (λh=>?_) (λh4=>?_);rw[af (show time<0\/1099511627776<time from .inr h)]at hE;subst hE;exact rfl;rw[aa (show¬(time<0\/1099511627776<time)fromλg=>g.elim h3 h4)]at hE;have he:(((deps.map cD).length:Nat):Int)=(deps.length:Int):=by rw[aj]
  refine az (λh=>?_) (λh=>?_);have h1:100<deps.length:=by have :(((deps.map cD).length:Nat):Int)>100:=h;omega
  have hd:mZ deps=4:=by rw[mZ,af h1]
  rw[af (by rw[hd];decide),hd]at hE;subst hE;exact rfl;have h1:¬100<deps.length:=by have :¬(((deps.map cD).length:Nat):Int)>100:=h;omega
  refine bu 64 (λk:Nat=>[(1,.ptr 1 0),(31,.p (.sl (deps.map cD))),(32,.p (.int .i64 ((deps.map cD).length:Int))),(33,.p (.int .i64 k))]) (λ_=>[(1,aH (cP ⟨eW,message,time,deps,changes⟩))]) (λk=>k<=deps.length/\∀i,i<k->zY deps i=0) (λk=>deps.length-k) 0 ⟨zL,λi h=>absurd h (ia _)⟩ rfl wS oS ?_;rintro k ⟨hk,hall⟩;refine bQ (λhlt=>?_) (λhge=>?_)
  ·have hb:=Om hlt;have bad:zY deps k≠0->cQ.val (.int .i64 (zY deps k))=cQ.val (.int .i64 E):=λh=>by
    have hd:mZ deps=zY deps k:=by rw[mZ,aa h1,xS (zY deps) deps.length k hlt hall h]
    rw[af (by rw[hd];exact h),hd]at hE;rw[hE]
   have next:zY deps k=0->k+1<=deps.length/\∀i,i<k+1->zY deps i=0:=λh=>⟨hlt,λi hi=>by by_cases hik:i=k;rw[hik];exact h;exact hall i oO⟩;refine ix hlt ?_;refine⟨yX,dQ,lq,rfl,rfl,?_⟩;refine IQ (a:=deps[k]) (b:=bF) ?_;by_cases hz:deps[k]=bF;rw[an hz];rw[af hz]at hb;have :=bad (by rw[hb];decide);rw[hb]at this;exact this;rw[ah hz];rw[aa hz]at hb;refine cm 13 kK ?_;refine az (λh0=>?_) (λh0=>?_)
   ·have h0:0<k:=by have :(k:Int)>0:=h0;omega
    have hlt':k-1<deps.length:=oO
    have hg:deps.getD (k-1) bF=deps[k-1]:=by simp[List.getD,hlt']
    rw[hg]at hb;refine nx (k-1) ?_;refine ix hlt' ?_;refine⟨_,aaX deps[k-1] deps[k],?_⟩;refine az (λh2=>?_) (λh2=>?_);rw[af ⟨h0,h2⟩]at hb;have :=bad (by rw[hb];decide);rw[hb]at this;exact this;rw[aa λh=>h2 h.2]at hb;exact nx (k+1) (aO (k+1) (next hb) oO rfl wS oS)
   have h0:¬0<k:=by have :¬(k:Int)>0:=h0;omega
   rw[aa λh=>h0 h.1]at hb;exact nx (k+1) (aO (k+1) (next hb) oO rfl wS oS)
  have hd:mZ deps=0:=by rw[mZ,aa h1];exact vq _ _ λi hi=>hall i oO
  rw[aa (by rw[hd];decide)]at hE;have hec:(((changes.map cC).length:Nat):Int)=(changes.length:Int):=by rw[aj]
  refine aA (λh=>?_) (λh=>?_);rw[af (by have :(((changes.map cC).length:Nat):Int)=0:=h;omega)]at hE;subst hE;exact rfl;rw[aa (by have :¬(((changes.map cC).length:Nat):Int)=0:=h;omega)]at hE;refine az (λh=>?_) (λh=>?_);rw[af (by have :(((changes.map cC).length:Nat):Int)>400:=h;omega)]at hE;subst hE;exact rfl;rw[aa (by have :¬(((changes.map cC).length:Nat):Int)>400:=h;omega)]at hE;subst hE;exact rfl
def ab3 (l:List Int):List (List AV):=l.map λn=>[.int .i64 n]
def pI (x:Int):List Int->Int|[]=>-1|y::l=>if x=y then 0 else if pI x l<0 then-1 else pI x l+1
theorem Fx (x:Int):∀l,-1<=pI x l|[]=>Int.le_refl _|y::l=>by have :=Fx x l;unfold pI;split;omega;split<;>omega
theorem Jv (x:Int):∀(a b:List Int),x∉a->pI x (a++b)=if pI x b<0 then-1 else pI x b+a.length
 |[],b,h=>by have :=Fx x b;simp only[nN,br];split<;>omega
 |y::a,b,h=>by have hx:x≠y:=λe=>h (by rw[e];simp);have ih:=Jv x a b (λhm=>h (by simp[hm]));rw[eB,pI,aa hx,ih];have :=Fx x b;simp only[aL];split;rename_i h1;rw[af oO];rename_i h1;rw[aa oO];omega
theorem Af (x:Int):∀(a:List Int),x∉a->pI x a=-1|[],h=>rfl|y::a,h=>by have hx:x≠y:=λe=>h (by rw[e];simp);rw[pI,aa hx,Af x a (λhm=>h (by simp[hm]))];rfl
theorem Jw (x:Int)(l:List Int):(0<=pI x l)↔x∈l:=by
 constructor;intro h;refine iU λhn=>?_;rw[Af x l hn]at h;omega;intro h;induction l with
 |nil=>cases h
 |cons y l ih=>unfold pI;split;omega;rename_i hne;rcases aQ.1 h with rfl|h;exact absurd rfl hne;have :=ih h;rw[aa oO];omega
theorem ab4 (l:List Int)(x:Int)(hl:l.length<=2^40):ak C 284 [.sl (ab3 l),.int .i64 x] (λr=>r=.val (.int .i64 (pI x l))):=by
 unfold ab3;refine ag Tryz.func284 rfl rfl rfl ?_;refine bu 19 (λk:Nat=>[(0,.p (.sl (l.map λn=>[.int .i64 n]))),(1,.p (.int .i64 x)),(7,.p (.int .i64 ((l.map λn=>[AV.int .i64 n]).length:Int))),(8,.p (.int .i64 k))]) (λ_=>[]) (λk=>k<=l.length/\x∉l.take k) (λk=>l.length-k) 0 ⟨zL,by simp⟩ rfl wS trivial ?_;rintro k ⟨hk,hx⟩;refine bQ (λhlt=>?_) (λhge=>?_);refine ix hlt ?_;refine aA (λh=>?_) (λh=>?_);have h:x=l[k]:=h;have e:l=l.take k++l[k]::l.drop (k+1):=by rw[List.getElem_cons_drop,cT]
 have :pI x l=k:=by
  conv=>lhs;rw[e]
  rw[Jv x _ _ hx,pI,af h,aa oO,aD];omega
 rw[this];exact rfl;exact nx (k+1) (aO (k+1) ⟨hlt,xO hlt hx (λe=>h e.symm)⟩ oO rfl wS trivial);obtain rfl:k=l.length:=oO
 rw[aJ]at hx;rw[Af x l hx];exact rfl
theorem OE (l:List Int)(x:Int)(hl:l.length<=2^40):ak C 247 [.sl (ab3 l),.int .i64 x] (λr=>r=.val (.bool (decide (x∈l)))):=by refine ag Tryz.func247 rfl rfl rfl ?_;refine cl (ab4 l x hl) ?_;refine az (λh=>?_) (λh=>?_);rw[an ((Jw x l).1 h)];exact rfl;rw[ah λhm=>h ((Jw x l).2 hm)];exact rfl
theorem Yo (l:List Int)(x:Int)(hl:l.length<=2^40):ak C 246 [.sl (ab3 l),.imp [.int .i64 x]] (λr=>r=.val (.bool (decide (x∈l)))):=by refine ag Tryz.func246 rfl rfl rfl ?_;refine cl (OE l x hl) ?_;exact rfl
theorem iD (l:List Int)(x:Int)(b:Bool)(hl:l.length<=2^40)(h:decide (x∈l)=b):ak C 246 [.sl (ab3 l),.imp [.int .i64 x]] (λr=>r=.val (.bool b)):=by subst h;exact Yo l x hl
theorem vK.dN {C:Ctx}{e:Extra}{l:List Nat}{f:FuncId}{args:List AV}{bs:List UInt8}{out:Option (List UInt8)}{r:AV}(h:vK C f args bs out r):vK ((C.cut l).open e) f args bs out r:=h
theorem Mk {bs s:Bytes}(hlen:bs.length+s.length<=140737488355328):vK C 289 [.str s] bs (some (bs++s)) (.eV [.int .i64 s.length,.sE]):=RN aju RO rfl rfl rfl Tryz.func289 rfl rfl hlen
theorem Fy {bs:Bytes}{c:UInt8}(hlen:bs.length+1<=140737488355328):vK C 290 [.int .u8 c.toNat] bs (some (bs++[c])) .sE:=Hi ajv RP rfl rfl rfl Tryz.func290 rfl rfl hlen
theorem afj {bs:Bytes}:vK C 270 [] bs none (.str bs):=OI Tryz.lays169 Tryz.Builder_Extra_169 rfl rfl rfl Tryz.func270 rfl rfl
theorem ahz (x:Sx):∀n d:Nat,n+nX x<=20000->d+dX x<=13->HO C 287 [.int .i64 (n:Int),.bool false] [.agg (cX x),.int .i64 (d:Int)] (λr ys=>r=.eV []/\ys=[.int .i64 ((n+nX x:Nat):Int),.bool false]):=by
 induction x using Sx.ind with
 |h1 s=>intro n d h1 h2;have h1:n+1<=20000:=h1;have h2:d+1<=13:=h2;refine Du vu [] Tryz.func287 rfl rfl rfl ?_;refine nx (n+1) ?_;refine⟨none,?_⟩;refine az (λh=>absurd h oO) (λ_=>?_);refine az (λh=>absurd h oO) (λ_=>?_);refine bl ?_;exact⟨rfl,rfl,rfl⟩
 |h2 l ih=>
  intro n d h1 h2;have h1:n+(1+tD l)<=20000:=h1;have h2:d+(1+Wp l)<=13:=h2;have hlen:=xQ l;refine Du vu [] Tryz.func287 rfl rfl rfl ?_;refine nx (n+1) ?_;refine⟨none,?_⟩;refine az (λh=>absurd h oO) (λ_=>?_);refine az (λh=>absurd h oO) (λ_=>?_);refine bl ?_;refine bu 47 (λk:Nat=>[(0,.ptr 999999 0),(2,.p (.int .i64 (d:Int))),(31,.p (.sl (mE l))),(32,.p (.int .i64 ((mE l).length:Int))),(33,.p (.int .i64 k))]) (λk=>[(999999,aH [.int .i64 ((n+1+tD (l.take k):Nat):Int),.bool false])]) (λk=>k<=l.length) (λk=>l.length-k) 0 (zL) rfl wS oS ?_;intro k hk;refine Fq (λhlt=>?_) (λhge=>?_)
  ·have hm:=aK hlt;have hs:=wv hlt;have ht2:=nC l (k+1);have hi:=ih l[k] hm (n+1+tD (l.take k)) (d+1) oO (by have :=Oc hm;omega);have iX:=XZ hlt;have he:n+1+tD (l.take k)+nX l[k]=n+1+tD (l.take (k+1)):=oO
   rw[he]at hi;generalize l[k]=y at hi iX;cases y;all_goals refine⟨oO,_,iX,rfl,?_⟩;refine nx (d+1) ?_;refine .inr (.inr ⟨_,hi.dN,λr ys hr=>?_⟩);obtain⟨rfl,rfl⟩:=hr;exact nx (k+1) (aO (k+1) hlt oO rfl wS oS)
  have :k=l.length:=oO
  subst this;rw[aJ];exact⟨rfl,rfl,by rw[show nX (.list l)=1+tD l from rfl,gj]⟩
theorem aco (x:Sx):aX x<=65536->nX x<=2^20->ak C 288 [.agg (cX x)] (λr=>r=.val (.int .i64 0)):=by
 induction x using Sx.ind with
 |h1 s=>intro h1 _;have h1:s.length<=65536:=h1;refine ag Tryz.func288 rfl rfl rfl ?_;refine⟨none,?_⟩;refine bl ?_;refine az (λh=>absurd h dD) (λ_=>?_);refine az (λh=>absurd h oO) (λ_=>?_);refine bu 43 (λk:Nat=>[(31,.p (.sl [])),(32,.p (.int .i64 0)),(33,.p (.int .i64 k))]) (λ_=>[]) (λk=>k=0) (λk=>k) 0 rfl rfl wS trivial ?_;intro k hk;subst hk;refine az (λh=>absurd h dD) (λ_=>?_);exact rfl
 |h2 l ih=>
  intro h1 h2;have h1:aXs l<=65536:=h1;have h2:1+tD l<=2^20:=h2;have hlen:=xQ l;refine ag Tryz.func288 rfl rfl rfl ?_;refine⟨none,?_⟩;refine uo (λh=>absurd rfl h) (λ_=>?_);refine bl ?_;refine az (λh=>absurd h dD) (λ_=>?_);refine bu 43 (λk:Nat=>[(31,.p (.sl (mE l))),(32,.p (.int .i64 ((mE l).length:Int))),(33,.p (.int .i64 k))]) (λ_=>[]) (λk=>k<=l.length) (λk=>l.length-k) 0 (zL) rfl wS trivial ?_;intro k hk;refine Fq (λhlt=>?_) (λhge=>?_)
  ·have hm:=aK hlt;have hs:=wv hlt;have ht2:=nC l (k+1);have hi:=ih l[k] hm (by have :=HB hm;omega) oO;have iX:=XZ hlt;generalize l[k]=y at hi iX hs;cases y;all_goals refine⟨oO,_,iX,rfl,?_⟩;refine cl hi ?_;refine cF (λh=>absurd rfl h) (λ_=>?_);exact nx (k+1) (aO (k+1) hlt oO rfl wS trivial)
  exact rfl
theorem Yv (x:Sx)(h1:nX x<=20000)(h2:dX x<=12)(h3:aX x<=65536):ak C 268 [.agg (cX x)] (λr=>r=.val (.int .i64 0)):=by have ha:=ahz x 0 1 oO oO;have hk:=aco x h3 oO;cases x;all_goals refine ag Tryz.func268 rfl rfl rfl ?_;refine .inr (.inr ⟨_,ha,λr ys hr=>?_⟩);obtain⟨rfl,rfl⟩:=hr;refine cl hk ?_;exact rfl
theorem afk (x:Sx):∀bs:Bytes,bs.length+(eX x).length<=2^46->nX x<=2^20->vK C 269 [.agg (cX x)] bs (some (bs++eX x)) (.eV []):=by
 induction x using Sx.ind with
 |h1 s=>intro bs h1 _;have h1:bs.length+(Lib.itoa (s.length:Int)++[58]++s).length<=2^46:=h1;simp only[aq,aL,br]at h1;refine Bw vu [] Tryz.func269 rfl rfl rfl ?_;refine bl ?_;refine cl (RD (s.length:Int) oO oO).dN ?_;refine⟨_,_,(Mk oO).dN,?_⟩;refine⟨_,_,(Fy (c:=58) (by simp only[aq];omega)).dN,?_⟩;refine⟨_,_,(Mk (by simp only[aq,aL,br];omega)).dN,?_⟩;exact⟨rfl,by show some _=some _;rw[show eX (.atom s)=Lib.itoa (s.length:Int)++[58]++s from rfl];simp only[bf]⟩
 |h2 l ih=>
  intro bs h1 h2;have h1:bs.length+([40]++KA l++[41]).length<=2^46:=h1;have h2:1+tD l<=2^20:=h2;simp only[aq,aL,br]at h1;have hlen:=xQ l;refine Bw vu [] Tryz.func269 rfl rfl rfl ?_;refine bl ?_;refine⟨_,_,(Fy (c:=40) oO).dN,?_⟩;refine agd 36 (λk:Nat=>[(0,.ptr 999999 0),(24,.p (.sl (mE l))),(25,.p (.int .i64 ((mE l).length:Int))),(26,.p (.int .i64 k))]) (λ_=>[]) (λk=>[(999999,bs++([40]++KA (l.take k)))]) (λk=>k<=l.length) (λk=>l.length-k) 0 (zL) rfl wS trivial ⟨rfl,trivial⟩ ?_;intro k hk;refine Fq (λhlt=>?_) (λhge=>?_)
  ·have hm:=aK hlt;have hs:=wv hlt;have he:=Rs hlt;have hel:=aB List.length he;rw[aq]at hel;have ht2:=nC l (k+1);have hb:=Gw l (k+1);have hi:=ih l[k] hm (bs++([40]++KA (l.take k))) (by simp only[aq,aL,br];omega) oO;rw[show bs++([40]++KA (l.take k))++eX l[k]=bs++([40]++KA (l.take (k+1)))from by rw[he];simp only[bf]]at hi;have iX:=XZ hlt;generalize l[k]=y at hi iX;cases y;all_goals refine⟨oO,_,iX,rfl,?_⟩;refine⟨_,_,hi.dN,?_⟩;exact nx (k+1) (aiW (k+1) hlt oO rfl wS trivial ⟨rfl,trivial⟩)
  have :k=l.length:=oO
  subst this;rw[aJ];refine⟨_,_,(Fy (c:=41) (by simp only[aq,aL,br];omega)).dN,?_⟩;exact⟨rfl,by show some _=some _;rw[show eX (.list l)=[40]++KA l++[41]from rfl];simp only[bf]⟩
theorem Uq (x:Sx)(h:OkX x):ak C 223 [.agg (cX x)] (λr=>r=.val (.eV [.str (eX x),.int .i64 0])):=by have hc:=Yv x h.nodes h.depth h.atoms;have hk:=afk x [] (by have :=h.len;simp only[br];omega) (by have :=h.nodes;omega);rw[nN]at hk;clear h;cases x;all_goals refine ag Tryz.func223 rfl rfl rfl ?_;refine cl hc ?_;refine cF (λh=>absurd rfl h) (λ_=>?_);refine⟨_,_,hk,?_⟩;refine⟨_,_,afj,?_⟩;exact rfl
theorem alK (x:bg):(((cI x).take 32).drop 0).map (λx=>[x])=lG x.p.1:=TP x.p
theorem lM (x:bg):ak C 259 [.agg (cI x)] (λr=>r=.val (.agg (cX (bR x)))):=by refine bn {vu with fzo:=[3]} [] Tryz.func259 rfl rfl rfl ?_;refine cl (fA x).dN ?_;unfold bR nj;by_cases h:x.p=bF;rw[an h,show dgB x.p=[]from af h];refine cm 3 kK ?_;refine⟨_,(qu []).dN,?_⟩;refine cl (AP x.n).dN ?_;refine cl (Jt [.atom [],cG x.n]).dN ?_;exact rfl;rw[ah h,show dgB x.p=x.p.1 from aa h];refine⟨[1],cu (cells:=aH (cI x)) (ys:=cI x) rfl (bk _) rfl ?_⟩;refine cm 6 kK ?_;refine⟨.p (.sl (lG x.p.1)),⟨dD,dD,rfl,(by show 32<=33;decide),_,alK x,rfl⟩,?_⟩;refine⟨.p (.str x.p.1),⟨x.p.1,rfl,rfl⟩,?_⟩;refine⟨_,(qu x.p.1).dN,?_⟩;refine cl (AP x.n).dN ?_;refine cl (Jt [.atom x.p.1,cG x.n]).dN ?_;exact rfl
abbrev gX (t:Nat)(l:List Sx):List FV:=[.p (.bool true),.p (.str []),.eH t 192 3 (mE l)]
theorem afl {aN:List (Nat×List FV)}{o t:Nat}(h:Qv.getObj aN o=some [.p (.bool true),.p (.str []),.full []]):∃ys,Qv.getObj aN o=some ys/\ys.length=(gX t []).length/\∀(i:Nat)(x y:FV),ys[i]?=some x->(gX t [])[i]?=some y->aF x y:=⟨_,h,rfl,λi x y h1 h2=>by
 match i,h1,h2 with
  |0,h1,h2=>cases h1;cases h2;exact aF.refl _
  |1,h1,h2=>cases h1;cases h2;exact aF.refl _
  |2,h1,h2=>cases h1;cases h2;exact aF.mI _ _ _
  |n+3,h1,h2=>simp at h1⟩
theorem Ai (l:List bg)(hl:l.length<=2^40):ak C 260 [.sl (iq l)] (λr=>r=.val (.agg (cX (si l)))):=by
 unfold iq;refine bn {vu with inl:=[219]} [] Tryz.func260 rfl rfl rfl ?_;refine .inl ⟨_,Tryz.func219,rfl,rfl,rfl,?_⟩;refine bu 22 (λk:Nat=>[(2,.ptr 2 0),(3,.ptr 3 0),(7,.p (.sl (l.map cI))),(8,.p (.int .i64 ((l.map cI).length:Int))),(9,.p (.int .i64 k))]) (λk=>[(2,zX),(3,gX 18 ((l.take k).map bR))]) (λk=>k<=l.length) (λk=>l.length-k) 0 (zL) rfl wS ⟨aC rfl,afl rfl,trivial⟩ ?_;intro k hk;refine bQ (λhlt=>?_) (λhge=>?_);refine ix hlt ?_;refine cm 5 kK ?_;refine⟨_,(lM l[k]).dN,?_⟩;refine⟨.full [cX (bR l[k])],rfl,?_⟩;refine⟨gv _,gv [bR l[k]],by show((mE ((l.take k).map bR)).length+1)*48<=_;rw[rP,aj,aD];omega,mE ((l.take (k+1)).map bR),by rw[cq hlt,<-uZ];rfl,?_⟩;exact nx (k+1) (aO (k+1) hlt oO rfl wS oS);obtain rfl:k=l.length:=oO
 rw[aJ];exact rfl
theorem Yw (l:List Bytes)(hl:l.length<=2^40):ak C 264 [Hf l] (λr=>r=.val (.agg (cX (SU l)))):=by
 unfold Hf;refine bn {vu with inl:=[219]} [] Tryz.func264 rfl rfl rfl ?_;refine .inl ⟨_,Tryz.func219,rfl,rfl,rfl,?_⟩;refine bu 22 (λk:Nat=>[(2,.ptr 2 0),(3,.ptr 3 0),(7,.p (.sl (l.map oA))),(8,.p (.int .i64 ((l.map oA).length:Int))),(9,.p (.int .i64 k))]) (λk=>[(2,zX),(3,gX 18 ((l.take k).map Sx.atom))]) (λk=>k<=l.length) (λk=>l.length-k) 0 (zL) rfl wS ⟨aC rfl,afl rfl,trivial⟩ ?_;intro k hk;refine bQ (λhlt=>?_) (λhge=>?_);refine ix hlt ?_;refine cm 5 kK ?_;refine⟨_,(qu l[k]).dN,?_⟩;refine⟨.full [cX (Sx.atom l[k])],rfl,?_⟩;refine⟨gv _,gv [Sx.atom l[k]],by show((mE ((l.take k).map Sx.atom)).length+1)*48<=_;rw[rP,aj,aD];omega,mE ((l.take (k+1)).map Sx.atom),by rw[cq hlt,<-uZ];rfl,?_⟩;exact nx (k+1) (aO (k+1) hlt oO rfl wS oS);obtain rfl:k=l.length:=oO
 rw[aJ];exact rfl
theorem afm (c:eG)(ho:c.over.length<=2^40)(hl:c.lines.length<=2^40):ak C 257 [.agg (cC c)] (λr=>r=.val (.sl (mE [cG c.type]))):=by refine ag Tryz.func257 rfl rfl rfl ?_;refine cl (AP c.type) ?_;exact .inr rfl
theorem afn (c:eG)(ho:c.over.length<=2^40)(hl:c.lines.length<=2^40):ak C 258 [.agg (cC c)] (λr=>r=.val (.sl (mE [bR c.file,bR c.parent,.atom c.name,si c.over]))):=by refine ag Tryz.func258 rfl rfl rfl ?_;refine cm 12 kK ?_;refine⟨_,lM c.file,?_⟩;refine⟨_,lM c.parent,?_⟩;refine⟨_,qu c.name,?_⟩;refine⟨_,Ai c.over ho,?_⟩;exact .inr rfl
theorem afo (c:eG)(ho:c.over.length<=2^40)(hl:c.lines.length<=2^40):ak C 261 [.agg (cC c)] (λr=>r=.val (.sl (mE [bR c.file,cG c.mode,si c.over]))):=by refine ag Tryz.func261 rfl rfl rfl ?_;refine cm 9 kK ?_;refine⟨_,lM c.file,?_⟩;refine⟨_,AP c.mode,?_⟩;refine⟨_,Ai c.over ho,?_⟩;exact .inr rfl
theorem afp (c:eG)(ho:c.over.length<=2^40)(hl:c.lines.length<=2^40):ak C 262 [.agg (cC c)] (λr=>r=.val (.sl (mE [bR c.file,.atom c.data,si c.over]))):=by refine ag Tryz.func262 rfl rfl rfl ?_;refine cm 9 kK ?_;refine⟨_,lM c.file,?_⟩;refine⟨_,qu c.data,?_⟩;refine⟨_,Ai c.over ho,?_⟩;exact .inr rfl
theorem afq (c:eG)(ho:c.over.length<=2^40)(hl:c.lines.length<=2^40):ak C 263 [.agg (cC c)] (λr=>r=.val (.sl (mE [bR c.file,bR c.dm,bR c.dG,SU c.lines]))):=by refine ag Tryz.func263 rfl rfl rfl ?_;refine cm 12 kK ?_;refine⟨_,lM c.file,?_⟩;refine⟨_,lM c.dm,?_⟩;refine⟨_,lM c.dG,?_⟩;refine⟨_,Yw c.lines hl,?_⟩;exact .inr rfl
theorem afr (c:eG)(ho:c.over.length<=2^40)(hl:c.lines.length<=2^40):ak C 265 [.agg (cC c)] (λr=>r=.val (.sl (mE [bR c.file,bR c.dm,bR c.dG,si c.over]))):=by refine ag Tryz.func265 rfl rfl rfl ?_;refine cm 12 kK ?_;refine⟨_,lM c.file,?_⟩;refine⟨_,lM c.dm,?_⟩;refine⟨_,lM c.dG,?_⟩;refine⟨_,Ai c.over ho,?_⟩;exact .inr rfl
theorem afs (c:eG)(ho:c.over.length<=2^40)(hl:c.lines.length<=2^40):ak C 266 [.agg (cC c)] (λr=>r=.val (.sl (mE [si c.over]))):=by refine ag Tryz.func266 rfl rfl rfl ?_;refine cl (Ai c.over ho) ?_;exact .inr rfl
def Ll:List AV:=[.int .i64 1,.int .i64 2,.int .i64 3,.int .i64 4,.int .i64 5,.int .i64 6,.int .i64 7]
def Lm:List AV:=[.fn (.func 257) [] [],.fn (.func 258) [] [],.fn (.func 261) [] [],.fn (.func 262) [] [],.fn (.func 263) [] [],.fn (.func 265) [] [],.fn (.func 266) [] []]
theorem wA:eM Tryz.prog 40 3=some [.int .i64]:=kK
theorem jV {L:List gI}{l:List (AV×FV)}(h:(l.all λp=>gB false L p.1)=true):∀p,p∈l->gB false L p.1=true:=λp hp=>bY.1 h p hp
theorem Ur:ak C 221 [] (λr=>r=.val (.mp Ll Lm)):=by refine ag Tryz.func221 rfl rfl rfl ?_;refine⟨[.int .i64],wA,rfl,(λp hp=>nomatch hp),_,rfl,?_⟩;refine⟨[.int .i64],wA,rfl,jV rfl,_,rfl,?_⟩;refine⟨[.int .i64],wA,rfl,jV rfl,_,rfl,?_⟩;refine⟨[.int .i64],wA,rfl,jV rfl,_,rfl,?_⟩;refine⟨[.int .i64],wA,rfl,jV rfl,_,rfl,?_⟩;refine⟨[.int .i64],wA,rfl,jV rfl,_,rfl,?_⟩;refine⟨[.int .i64],wA,rfl,jV rfl,_,rfl,?_⟩;exact⟨_,_,⟨_,rfl,rfl,rfl⟩,rfl⟩
end Qv
