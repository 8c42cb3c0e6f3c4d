/- Part 11 of the proof: its lemmas. No condition. -/
import Derived.Test.YtlbofhenpfnenaaGreatDoorW5
import Derived.Sort.LoopGhostIn
import Derived.Shelf.Strings.Builder1
import Derived.Shelf.Small.Bits
import Derived.Shelf.Small.Strs
import Derived.Shelf.Small.Wraps
import Derived.Shelf.Strconv.Itoa0
import Derived.Shelf.Strconv.Itoa1
import Derived.Shelf.LaysM
import Derived.Shelf.Strconv.Itoa2
import Derived.Shelf.Strconv.Itoa3
import Derived.Shelf.Strings.Search1
import Derived.Shelf.Strings.Prefix
import Derived.Test.YtlbofhenpfnenaaGreatDoorProg
import Derived.Shelf.SlLaysF0
import Derived.Ground.SlsfProg
set_option maxRecDepth 10000
set_option maxHeartbeats 80000000
set_option linter.all false
namespace Qv
open Go Go.RowKit
theorem bp.weaken {E:Env}{G:aV}{S S':ah}{a:Act}{w:World}(h:bp E G S a w)(hw:bL S S'):bp E G S' a w:=by
 refine⟨h.kept,h.size.trans hw.n.symm,⟨⟨λo l' hl=>?_,h.ext'.mps.loc,h.ext'.mps.inj,λq x hx=>h.ext'.mps.iF q x (hw.iF q x hx),h.ext'.mps.yH,h.ext'.mps.yI,h.ext'.mps.apart,λo T z k l' b fZ es q1 q2 q3 q4 i e p q5 q6 q7=>?_⟩,hw.bF.1.trans h.ext'.kM,λi vals fr h1 h2=>?_,by rw[hw.bV];exact h.ext'.jS,λi k r st h1 h2=>h.ext'.loops i k r st h1 (hw.bV▸h2),h.ext'.kO,h.ext'.yl,h.ext'.mu,h.ext'.marks,h.ext'.AE⟩,⟨λo bs q=>⟨(hw.cw o bs q).2 (h.iZ.at_ o bs (hw.cw o bs q).1).1,(h.iZ.at_ o bs (hw.cw o bs q).1).2⟩,h.iZ.row,h.iZ.cM⟩,h.oh,h.fq,λi hi=>hw.tmps i _ _ _ (h.tmps i (hw.n▸hi)),λo ys ho=>?_,h.iu,h.fk,λo t b r h1 h2=>?_,h.fI,h.en⟩;obtain⟨l,h1,h2,h3⟩:=hw.maps o l' hl;obtain⟨b,fZ,es,h4,h5,h6,h7,h8⟩:=h.ext'.mps.at_ o l h1;refine⟨b,fZ,es,h4,h5,h6,h7.trans h2,λi e p he hp=>?_⟩;have zZ:i<l.length:=by rw[h2];exact(aC.1 hp).1
 obtain⟨h9,h10⟩:=h3 i _ p (aq zZ) hp;obtain⟨h11,h12⟩:=h8 i e _ he (aq zZ);exact⟨h9▸h11,h10 _ _ _ h12⟩;obtain⟨l,h1,h2,h3⟩:=hw.maps o l' q1;have zZ:i<l.length:=by rw[h2];exact(aC.1 q6).1
 obtain⟨h9,-⟩:=h3 i _ p (aq zZ) q6;exact h.ext'.mps.room o T z k l b fZ es h1 q2 q3 q4 i e _ q5 (aq zZ) (h9▸q7);have hl:i<S.bF.length:=by rw[<-hw.bF.1];exact(aC.1 h2).1
 obtain⟨h3,h4,h5⟩:=hw.bF.2 i _ fr (aq hl) h2;obtain⟨h6,h7⟩:=h.ext'.bF i vals _ h1 (aq hl);exact⟨h6.trans h3.symm,λj hj=>h5 j _ _ _ (h7 j (h3▸hj))⟩;obtain⟨xs,h1,h2,h3⟩:=hw.aJ o ys ho;obtain⟨b,h4,h5⟩:=h.aJ o xs h1;refine⟨b,h4,λi y hy=>?_⟩;have hl:i<xs.length:=by rw[h2];exact(aC.1 hy).1
 obtain⟨c,h6,h7⟩:=h5 i _ (aq hl);exact⟨c,h6,h3 i _ _ (aq hl) hy _ _ _ h7⟩;obtain⟨h3,h4,h5⟩:=h.ck o t b r h1 h2;refine⟨h3,?_,λys ho=>?_⟩;cases hb:lH S'.cw o with
 |none=>rfl
 |some bs=>rw[(hw.cw o bs hb).1]at h4;omega
 obtain⟨xs,h6,h7,-⟩:=hw.aJ o ys ho;simp_all
def wkY (Y:oN):oN:=λl args K S=>∃T,bL S T/\Y l args (λv S'=>∃T',bL S' T'/\K v T') T
def wkK (K:FV->ah->Prop):FV->ah->Prop:=λv S=>∃T,bL S T/\K v T
def iQ (C:Ctx):Nat->ig|0=>λ_ _ _ _ _=>False|k+1=>λY g args K S=>∃fn,C.P.funcs[g]?=some fn/\fn.body.isSome=true/\(fn.name== "runtime.NumGoroutine")=false/\Nat.ble args.length fn.ntmps=true/\∃T,bL S T/\ud C (iQ C k) (wkY Y) (match fn.body with|some c=>c|none=>.skip) (Pp C fn.results.toList (wkK K)) (T.enter fn.ntmps (wu args))
theorem eN.wk {E:Env}{Y:oN}(h:eN E Y):eN E (wkY Y):=by intro mu xs ls fixed G S a w l k args K vals hs hk ⟨T,hw,hY⟩ hlen om;refine YieldAt.mono (h mu xs ls fixed G T a w l k args _ vals (hs.weaken hw) hk hY hlen om) ?_;rintro e w' ⟨v,x,G',S',he,⟨T',hw',hK⟩,hs',hr⟩;exact⟨v,x,G',T',he,hK,hs'.weaken hw',hr⟩
theorem Dv (C:Ctx):∀k,lZ C (iQ C k)
 |0=>λE hC Y g args K G S a w vals hs hY h=>h.elim
 |k+1=>by
  intro E hC Y g args K G S a w vals hs hY h hlen hr;subst hC;obtain⟨fn,hf,hb,hname,hn,T0,hw0,h⟩:=h;replace hs:=hs.weaken hw0;obtain⟨c,hc⟩:=me.1 hb;rw[hc]at h;refine⟨⟨fn,hf,by simp_all,hname⟩,?_⟩;obtain⟨hsz,ht⟩:=zf (n:=fn.ntmps) hlen (gQ hn) hr;have hs1:=hs.enter (mu:=none) hsz ht (λl h=>by grind);obtain⟨ms,AF,-,-⟩:=hs.ext'.marks;refine callsIn_of_wp_marks hf hc trivial ?_ rfl;have :=tc c (E:=E.push a) (Dv E.C k) hY.wk h ⟨_,hs1⟩;refine wpIn_mono this ?_;have fin:∀{S':ah}{a':Act}{w':World},rY E.C S' fn.results.toList (λvs=>S'.leave (wkK K (MS vs)))->pJ (E.push a) S' a' w'->LeavesInM Fence.wide 0 E.C.P fn a'.tmps (λe w'=>∃v x G' S',e=.returned v/\K x S'/\bp E G' S' a w'/\aQ G' w' v x) a'.defers .returning w':=λ{S' a' w'} hq ⟨G',hs'⟩=>by obtain⟨ms',hm',-,-⟩:=hs'.ext'.marks;rw[hm'];refine Ae (E:=E.push a) ms' rfl hs' rfl hm' λG2 a2 w2 hs2 ht2 hd2=>?_;obtain⟨vs,xs,r1,r2,r3,r4,r5⟩:=pY hs2 _ _ hq;obtain⟨f,r,hf',T,hw,hK⟩:=Et r2;have hlv:=bp.leave (E:=E) (a:=a) (mu:=none) (ms:=ms) hs2 hf' AF hs.ext'.mu;rw[<-ht2];exact⟨_,kC fn a2.tmps E.C.P w2 r1,_,_,G2,_,rfl,hK,hlv.weaken hw,CR r4 r5⟩
  rintro e a' w' ⟨S',hq,hs'⟩;cases e with
  |normal=>exact fin hq hs'
  |ret=>exact fin hq hs'
  |_=>exact hq.elim
theorem aR.trans {x y z:FV}(h1:aR x y)(h2:aR y z):aR x z:=λG w v h=>h2 G w v (h1 G w v h)
theorem bL.trans {S T U:ah}(h1:bL S T)(h2:bL T U):bL S U:=by
 refine⟨h2.n.trans h1.n,h2.off.trans h1.off,h2.bV.trans h1.bV,λo bs q=>?_,⟨h2.bF.1.trans h1.bF.1,λi f f' q1 q2=>?_⟩,λi=>(h1.tmps i).trans (h2.tmps i),λo zs q=>?_,λo l'' q=>?_,λq x h=>h1.iF q x (h2.iF q x h)⟩;obtain⟨a1,a2⟩:=h2.cw o bs q;obtain⟨b1,b2⟩:=h1.cw o bs a1;simp_all;have hl:i<T.bF.length:=by rw[h1.bF.1];exact(aC.1 q1).1
 obtain⟨a1,a2,a3⟩:=h1.bF.2 i f _ q1 (aq hl);obtain⟨b1,b2,b3⟩:=h2.bF.2 i _ f' (aq hl) q2;exact⟨b1.trans a1,b2.trans a2,λj=>(a3 j).trans (b3 j)⟩;obtain⟨ys,a1,a2,a3⟩:=h2.aJ o zs q;obtain⟨xs,b1,b2,b3⟩:=h1.aJ o ys a1;refine⟨xs,b1,b2.trans a2,λi x z c1 c2=>?_⟩;have hl:i<ys.length:=by rw[<-b2];exact(aC.1 c1).1
 exact(b3 i x _ c1 (aq hl)).trans (a3 i _ z (aq hl) c2);obtain⟨l',a1,a2,a3⟩:=h2.maps o l'' q;obtain⟨l,b1,b2,b3⟩:=h1.maps o l' a1;refine⟨l,b1,b2.trans a2,λi x z c1 c2=>?_⟩;have hl:i<l'.length:=by rw[<-b2];exact(aC.1 c1).1
 obtain⟨d1,d2⟩:=b3 i x _ c1 (aq hl);obtain⟨e1,e2⟩:=a3 i _ z (aq hl) c2;exact⟨e1.trans d1,d2.trans e2⟩
theorem kq {C:Ctx}{k:Nat}{Y:oN}{g:FuncId}{args:List FV}{K:FV->ah->Prop}{S T:ah}(hw:bL S T)(h:iQ C k Y g args K T):iQ C k Y g args K S:=by
 cases k with
 |zero=>exact h
 |succ k=>obtain⟨fn,h1,h2,h3,h4,U,h5,h6⟩:=h;exact⟨fn,h1,h2,h3,h4,U,hw.trans h5,h6⟩
theorem Gp {C:Ctx}{f:FuncId}{fn:Func}{c:Code}{args:List AV}{R:dh->Prop}(hf:C.P.funcs[f]?=some fn)(hb:fn.body=some c)(hname:(fn.name== "runtime.NumGoroutine")=false)(hlen:args.length<=fn.ntmps)(h:ud C (iQ C 6) jl c (ue C fn.results.toList R) (xT fn.ntmps args)):aj C f args R:=sg (Dv C 6) hf hb hname hlen h
theorem lz {C:Ctx}(e:Extra)(l:List Nat){f:FuncId}{fn:Func}{args:List AV}{R:dh->Prop}(hf:C.P.funcs[f]?=some fn)(hb:fn.body.isSome=true)(hname:(fn.name== "runtime.NumGoroutine")=false)(hlen:Nat.ble args.length fn.ntmps=true)(h:ud ((C.cut l).open e) (iQ ((C.cut l).open e) 6) jl (match fn.body with|some c=>c|none=>.skip) (ue ((C.cut l).open e) fn.results.toList R) (xT fn.ntmps args)):aj C f args R:=by obtain⟨c,hc⟩:=me.1 hb;rw[hc]at h;exact Gp (C:=(C.cut l).open e) hf hc hname (gQ hlen) h
end Qv
namespace Qv
open Go Go.RowKit
variable {E:Env}{G:aV}{S:ah}{a:Act}{w:World}
theorem cZ.unit {aZ qF:Nat->Nat->Prop}{w:World}{v:Value}(h:cZ aZ w v (.eY [])):cZ qF w v (.eY []):=by
 cases h with
 |eY cs xs hl hall=>exact .eY cs [] hl λi c x h1 h2=>by simp at h2
def Ao (C:Ctx)(rs:List ResultVar)(bs':List UInt8)(S:ah):Prop:=rY C S rs λvs=>(MS vs).fe=some (.eY [])/\lH S.cw 999999=some bs'
def Rp (C:Ctx)(rs:List ResultVar)(bs':List UInt8):Exit->ah->Prop|.normal,S=>Ao C rs bs' S|.ret,S=>Ao C rs bs' S|_,_=>False
theorem Oa {C:Ctx}{f:FuncId}{fn:Func}{c:Code}{args:List AV}{bs bs':List UInt8}(hf:C.P.funcs[f]?=some fn)(hb:fn.body=some c)(hname:(fn.name== "runtime.NumGoroutine")=false)(hlen:args.length+1<=fn.ntmps)(h:ev C c (Rp C fn.results.toList bs') (Vc fn.ntmps bs args)):uY C f args bs (some bs') (.eY []):=by
 refine⟨⟨fn,hf,by rw[hb];rfl,hname⟩,λaZ w b row vs hJ hn hi hbn hrn hbi hri uJ hl hr=>?_⟩;obtain⟨p0,v0,hp0,hbk,hrow⟩:=uJ;have uJ:yz C w b row bs:=⟨p0,v0,hp0,hbk,hrow⟩;have adV:=(bC.1 hbk).1;have abP:∀r,row=some r->b≠r/\r<w.heap.size/\∃cs T fr,w.heap[r]?=some (.cells cs T fr):=λr hr=>by subst hr;obtain⟨h1,cap,cur,h2,h3,-⟩:=hrow;exact⟨h1,(bC.1 h3).1,_,_,_,h3⟩
 have hown:∀k,k∈b::row.toList->C.ov<=k/\k<w.heap.size/\∀o,¬aZ k o:=λk hk=>by
  rcases aG.1 hk with rfl|hk;exact⟨hbn,adV,hbi⟩;have hk:row=some k:=by
   cases row with
   |none=>simp at hk
   |some r=>simp at hk;rw[hk]
  exact⟨hrn k hk,(abP k hk).2.1,λo=>hri k o hk⟩
 let E:Env:={C:=C,w0:=w,Bh:=aZ,hJ:=hJ.1,hn:=hn,mu:=none,bF:=[],loops:=[],fixed:=[],own:=b::row.toList,hown:=hown};let G0:aV:=⟨aZ,λo=>if o=999999 then some b else none,λ_=>none,λ_=>none,λo=>if o=999999 then row else none,λ_=>none,λ_=>none⟩;have om:∀(i:Nat)(v:Value)(x:FV),(Value.pointer (some ⟨b,0,none⟩)::vs)[i]?=some v->(FV.ptr 999999 0::aF args)[i]?=some x->aQ G0 w v x:=λi v x h1 h2=>by
  cases i with
  |zero=>simp at h1 h2;subst h1;subst h2;exact .ptr _ _ _ rfl
  |succ i=>
   simp only[lY,eO,aM]at h1 h2;cases hq:args[i]?with
   |none=>simp[hq]at h2
   |some y=>simp[hq]at h2;subst h2;exact .p _ _ (hr i v y h1 hq)
 obtain⟨hsz,ht⟩:=zf (n:=fn.ntmps) (vals:=Value.pointer (some ⟨b,0,none⟩)::vs) (args:=FV.ptr 999999 0::aF args) (by simp[eO,hl]) (by simp[eO];omega) om;have hG:∀o b2,G0.loc o=some b2->o=999999/\b2=b:=λo b2 h=>by simp only[G0]at h;split at h;rename_i e;exact⟨e,(an h).symm⟩;cases h
 have hR:∀o r,G0.row o=some r->o=999999/\row=some r:=λo r h=>by simp only[G0]at h;split at h;rename_i e;exact⟨e,h⟩;cases h
 have hs:bp E G0 (Vc fn.ntmps bs args) {tmps:=(Value.pointer (some ⟨b,0,none⟩)::vs).toArray++Array.replicate (fn.ntmps-(Value.pointer (some ⟨b,0,none⟩)::vs).toArray.size) undef,defers:=[]} w:=by refine⟨⟨rfl,rfl,rfl,ay _,λ_ _ _=>rfl,λk cs T fr _ q=>⟨cs,q,rfl⟩⟩,hsz,⟨⟨(λo l h=>by cases h),(λo b h=>by cases h),(λo o' b h=>by cases h),(λq x h=>by cases h),(λq r h=>by cases h),(λq q' r h=>by cases h),(λo o' b h=>by cases h),(λo T z k l b fZ es h=>by cases h)⟩,rfl,λi vs fr h=>by simp[E]at h,rfl,λi k r st h=>by simp[E]at h,λi j k r r' h=>by simp[E]at h,λi k r h=>by simp[E]at h,λl h=>by simp[E]at h,⟨[],rfl,by simp[E],by simp[E]⟩,hJ.2⟩,⟨λo bs2 h=>?_,λo r h=>?_,λo r h=>?_⟩,λb o h=>.inl h,hi,λi hi'=>ht i hi',(λo cs ho=>by cases ho),(λo b2 h=>?_),(λo o' b2 h h'=>?_),(λo t b r _ h=>by cases h),(λt b s e T h=>by cases h),(λt t' b r r' h=>by cases h)⟩;simp only[Vc,lH]at h;split at h;rename_i hq;obtain rfl:=aK hq;obtain rfl:=an h;exact⟨rfl,b,rfl,uJ⟩;cases h;obtain⟨rfl,h⟩:=hR o r h;obtain⟨h1,h2,h3⟩:=abP r h;refine⟨.inr ⟨rfl,bh _ (Option.mem_toList.2 h)⟩,h2,λi=>hri r i h,λo' h'=>h1 (hG o' r h').2.symm,λt q h'=>(by cases h'),λo' h'=>(hR o' r h').1⟩;obtain⟨rfl,h⟩:=hR o r h;exact(abP r h).2.2;obtain⟨rfl,rfl⟩:=hG o b2 h;exact⟨adV,.inr ⟨rfl,_,rfl⟩,λi=>⟨hbi i,by simp[World.frozen?,hbk]⟩⟩;exact(hG o b2 h).1.trans (hG o' b2 h').1.symm
 refine(callsIn_wide (n:=0)).1 (callsIn_of_wp_marks hf hb trivial ?_ rfl);refine wpIn_mono (tc c (E:=E) (CV C 6) (uk E) h ⟨_,hs⟩) ?_;have fin:∀{S':ah}{a':Act}{w':World},Ao C fn.results.toList bs' S'->pJ E S' a' w'->LeavesInM Fence.wide 0 C.P fn a'.tmps (λe w'=>∃v,e=.returned v/\cZ (λ_ _=>False) w' v (.eY [])/\(∃row',yz C w' b row' bs'/\(row'=row\/row'=none\/∃x,row'=some x/\w.heap.size<=x))/\w'.os=w.os/\w'.tape=w.tape/\w'.output=w.output/\w.heap.size<=w'.heap.size/\∀k,k<w.heap.size->k≠b->row≠some k->w'.heap[k]?=w.heap[k]?) a'.defers .returning w':=λ{S' a' w'} hq ⟨G',hs'⟩=>by
  obtain⟨ms',hm',-,-⟩:=hs'.ext'.marks;rw[hm'];refine Ae (E:=E) ms' rfl hs' rfl hm' λG2 a2 w2 hs2 ht2 hd2=>?_;unfold Ao at hq;obtain⟨vs,xs,r1,⟨r2,r7⟩,r3,r4,r5⟩:=pY hs2 _ _ hq;rw[<-ht2];obtain⟨-,b2,g1,g2⟩:=hs2.iZ.at_ 999999 bs' r7;obtain rfl:b2=b:=by rcases(hs2.iu _ _ g1).2.1 with h|h;have :=h.2 rfl;cases this;obtain⟨q,h⟩:=h.2;injection h with h1 _;exact h1.symm
  refine⟨_,kC fn a2.tmps E.C.P w2 r1,_,rfl,((CR r4 r5).fe r2).unit,⟨_,g2,?_⟩,hs2.kept.os,hs2.kept.tape,hs2.kept.output,hs2.kept.size,λk hk hkb hkr=>hs2.kept.block k hk (λhm=>?_)⟩;cases hq2:G2.row 999999 with
  |none=>exact .inr (.inl rfl)
  |some x=>
   rcases(hs2.iZ.row _ x hq2).1 with h|h;exact .inr (.inr ⟨x,rfl,h⟩);left;rcases aG.1 h.2 with rfl|hm;exact absurd g1 ((hs2.iZ.row _ x hq2).2.2.2.1 999999);cases row with
   |none=>simp at hm
   |some r=>simp at hm;rw[hm]
  rcases aG.1 hm with rfl|hm;exact hkb rfl;cases row with
  |none=>simp at hm
  |some r=>simp at hm;exact hkr (by rw[hm])
 rintro e a' w' ⟨S',hq,hs'⟩;cases e with
 |normal=>exact fin hq hs'
 |ret=>exact fin hq hs'
 |_=>exact hq.elim
theorem Ba {C:Ctx}(e:Extra)(l:List Nat){f:FuncId}{fn:Func}{args:List AV}{bs bs':List UInt8}(hf:C.P.funcs[f]?=some fn)(hb:fn.body.isSome=true)(hname:(fn.name== "runtime.NumGoroutine")=false)(hlen:Nat.ble (args.length+1) fn.ntmps=true)(h:ev ((C.cut l).open e) (match fn.body with|some c=>c|none=>.skip) (Rp ((C.cut l).open e) fn.results.toList bs') (Vc fn.ntmps bs args)):uY C f args bs (some bs') (.eY []):=by obtain⟨c,hc⟩:=me.1 hb;rw[hc]at h;exact Oa (C:=(C.cut l).open e) hf hc hname (gQ hlen) h
end Qv
namespace Go.Proofs
open Go.Shelf
def Tryz.sortI152_ren:Go.Shelf.Ren:=⟨λ|6=>152|15=>193|14=>192|28=>235|29=>236|20=>227|21=>228|22=>229|23=>230|24=>231|25=>232|26=>233|27=>234|46=>275|47=>276|48=>277|49=>278|50=>279|57=>292|n=>n,λ|22=>43|24=>33|25=>90|3=>3|39=>168|0=>0|53=>164|55=>200|4=>4|46=>258|45=>257|50=>262|5=>5|9=>9|66=>283|70=>287|76=>303|77=>304|n=>n,λ|n=>n⟩
theorem Tryz.sortI152:Go.Proofs.SlLaysF0.n6 Tryz.prog Tryz.sortI152_ren:={mixed:=by kernel_rfl,f6:=⟨Tryz.f152.name,by decide,Tryz.func152.trans (congrArg some (by kernel_rfl))⟩,f14:=⟨Tryz.f192.name,by decide,Tryz.func192.trans (congrArg some (by kernel_rfl))⟩,f15:=Tryz.func193.trans (congrArg some (by kernel_rfl)),f20:=⟨Tryz.f227.name,by decide,Tryz.func227.trans (congrArg some (by kernel_rfl))⟩,f21:=⟨Tryz.f228.name,by decide,Tryz.func228.trans (congrArg some (by kernel_rfl))⟩,f22:=⟨Tryz.f229.name,by decide,Tryz.func229.trans (congrArg some (by kernel_rfl))⟩,f23:=⟨Tryz.f230.name,by decide,Tryz.func230.trans (congrArg some (by kernel_rfl))⟩,f24:=⟨Tryz.f231.name,by decide,Tryz.func231.trans (congrArg some (by kernel_rfl))⟩,f25:=⟨Tryz.f232.name,by decide,Tryz.func232.trans (congrArg some (by kernel_rfl))⟩,f26:=⟨Tryz.f233.name,by decide,Tryz.func233.trans (congrArg some (by kernel_rfl))⟩,f27:=⟨Tryz.f234.name,by decide,Tryz.func234.trans (congrArg some (by kernel_rfl))⟩,f28:=Tryz.func235.trans (congrArg some (by kernel_rfl)),f29:=Tryz.func236.trans (congrArg some (by kernel_rfl)),f46:=⟨Tryz.f275.name,by decide,Tryz.func275.trans (congrArg some (by kernel_rfl))⟩,f47:=Tryz.func276.trans (congrArg some (by kernel_rfl)),f48:=Tryz.func277.trans (congrArg some (by kernel_rfl)),f49:=⟨Tryz.f278.name,by decide,Tryz.func278.trans (congrArg some (by kernel_rfl))⟩,f50:=⟨Tryz.f279.name,by decide,Tryz.func279.trans (congrArg some (by kernel_rfl))⟩,f57:=⟨Tryz.f292.name,by decide,Tryz.func292.trans (congrArg some (by kernel_rfl))⟩,t0:=Tryz.underlying0,a0:=Tryz.isAgg0,z0:=Tryz.sizeOf0,v0:=Tryz.zeroValue0,t3:=Tryz.underlying3,a3:=Tryz.isAgg3,z3:=Tryz.sizeOf3,v3:=Tryz.zeroValue3,t4:=Tryz.underlying4,a4:=Tryz.isAgg4,z4:=Tryz.sizeOf4,v4:=Tryz.zeroValue4,t5:=Tryz.underlying5,a5:=Tryz.isAgg5,z5:=Tryz.sizeOf5,v5:=Tryz.zeroValue5,t9:=Tryz.underlying9,a9:=Tryz.isAgg9,z9:=Tryz.sizeOf9,v9:=Tryz.zeroValue9,t22:=Tryz.underlying43,a22:=Tryz.isAgg43,z22:=Tryz.sizeOf43,v22:=Tryz.zeroValue43,t25:=Tryz.underlying90,a25:=Tryz.isAgg90,z25:=Tryz.sizeOf90,v25:=Tryz.zeroValue90,t39:=Tryz.underlying168,a39:=Tryz.isAgg168,z39:=Tryz.sizeOf168,v39:=Tryz.zeroValue168,t45:=Tryz.underlying257,a45:=Tryz.isAgg257,z45:=Tryz.sizeOf257,v45:=Tryz.zeroValue257,t46:=Tryz.underlying258,a46:=Tryz.isAgg258,z46:=Tryz.sizeOf258,v46:=Tryz.zeroValue258,t50:=Tryz.underlying262,a50:=Tryz.isAgg262,z50:=Tryz.sizeOf262,v50:=Tryz.zeroValue262,t53:=Tryz.underlying164,a53:=Tryz.isAgg164,z53:=Tryz.sizeOf164,v53:=Tryz.zeroValue164,t55:=Tryz.underlying200,a55:=Tryz.isAgg200,z55:=Tryz.sizeOf200,v55:=Tryz.zeroValue200,t66:=Tryz.underlying283,a66:=Tryz.isAgg283,z66:=Tryz.sizeOf283,v66:=Tryz.zeroValue283,t70:=Tryz.underlying287,a70:=Tryz.isAgg287,z70:=Tryz.sizeOf287,v70:=Tryz.zeroValue287,t76:=Tryz.underlying303,a76:=Tryz.isAgg303,z76:=Tryz.sizeOf303,v76:=Tryz.zeroValue303,t77:=Tryz.underlying304,a77:=Tryz.isAgg304,z77:=Tryz.sizeOf304,v77:=Tryz.zeroValue304}
def Tryz.sortD239_ren:Go.Shelf.Ren:=⟨λ|6=>239|15=>193|14=>283|28=>235|29=>236|20=>293|21=>294|22=>295|23=>296|24=>297|25=>298|26=>299|27=>300|46=>304|47=>276|48=>277|49=>305|50=>306|57=>309|n=>n,λ|22=>38|24=>31|25=>118|3=>3|39=>168|0=>0|53=>164|55=>200|4=>4|46=>258|45=>257|50=>262|5=>5|9=>9|66=>283|70=>287|76=>303|77=>304|n=>n,λ|n=>n⟩
theorem Tryz.sortD239:Go.Proofs.SlLaysF0.n6 Tryz.prog Tryz.sortD239_ren:={mixed:=by kernel_rfl,f6:=⟨Tryz.f239.name,by decide,Tryz.func239.trans (congrArg some (by kernel_rfl))⟩,f14:=⟨Tryz.f283.name,by decide,Tryz.func283.trans (congrArg some (by kernel_rfl))⟩,f15:=Tryz.func193.trans (congrArg some (by kernel_rfl)),f20:=⟨Tryz.f293.name,by decide,Tryz.func293.trans (congrArg some (by kernel_rfl))⟩,f21:=⟨Tryz.f294.name,by decide,Tryz.func294.trans (congrArg some (by kernel_rfl))⟩,f22:=⟨Tryz.f295.name,by decide,Tryz.func295.trans (congrArg some (by kernel_rfl))⟩,f23:=⟨Tryz.f296.name,by decide,Tryz.func296.trans (congrArg some (by kernel_rfl))⟩,f24:=⟨Tryz.f297.name,by decide,Tryz.func297.trans (congrArg some (by kernel_rfl))⟩,f25:=⟨Tryz.f298.name,by decide,Tryz.func298.trans (congrArg some (by kernel_rfl))⟩,f26:=⟨Tryz.f299.name,by decide,Tryz.func299.trans (congrArg some (by kernel_rfl))⟩,f27:=⟨Tryz.f300.name,by decide,Tryz.func300.trans (congrArg some (by kernel_rfl))⟩,f28:=Tryz.func235.trans (congrArg some (by kernel_rfl)),f29:=Tryz.func236.trans (congrArg some (by kernel_rfl)),f46:=⟨Tryz.f304.name,by decide,Tryz.func304.trans (congrArg some (by kernel_rfl))⟩,f47:=Tryz.func276.trans (congrArg some (by kernel_rfl)),f48:=Tryz.func277.trans (congrArg some (by kernel_rfl)),f49:=⟨Tryz.f305.name,by decide,Tryz.func305.trans (congrArg some (by kernel_rfl))⟩,f50:=⟨Tryz.f306.name,by decide,Tryz.func306.trans (congrArg some (by kernel_rfl))⟩,f57:=⟨Tryz.f309.name,by decide,Tryz.func309.trans (congrArg some (by kernel_rfl))⟩,t0:=Tryz.underlying0,a0:=Tryz.isAgg0,z0:=Tryz.sizeOf0,v0:=Tryz.zeroValue0,t3:=Tryz.underlying3,a3:=Tryz.isAgg3,z3:=Tryz.sizeOf3,v3:=Tryz.zeroValue3,t4:=Tryz.underlying4,a4:=Tryz.isAgg4,z4:=Tryz.sizeOf4,v4:=Tryz.zeroValue4,t5:=Tryz.underlying5,a5:=Tryz.isAgg5,z5:=Tryz.sizeOf5,v5:=Tryz.zeroValue5,t9:=Tryz.underlying9,a9:=Tryz.isAgg9,z9:=Tryz.sizeOf9,v9:=Tryz.zeroValue9,t22:=Tryz.underlying38,a22:=Tryz.isAgg38,z22:=Tryz.sizeOf38,v22:=Tryz.zeroValue38,t25:=Tryz.underlying118,a25:=Tryz.isAgg118,z25:=Tryz.sizeOf118,v25:=Tryz.zeroValue118,t39:=Tryz.underlying168,a39:=Tryz.isAgg168,z39:=Tryz.sizeOf168,v39:=Tryz.zeroValue168,t45:=Tryz.underlying257,a45:=Tryz.isAgg257,z45:=Tryz.sizeOf257,v45:=Tryz.zeroValue257,t46:=Tryz.underlying258,a46:=Tryz.isAgg258,z46:=Tryz.sizeOf258,v46:=Tryz.zeroValue258,t50:=Tryz.underlying262,a50:=Tryz.isAgg262,z50:=Tryz.sizeOf262,v50:=Tryz.zeroValue262,t53:=Tryz.underlying164,a53:=Tryz.isAgg164,z53:=Tryz.sizeOf164,v53:=Tryz.zeroValue164,t55:=Tryz.underlying200,a55:=Tryz.isAgg200,z55:=Tryz.sizeOf200,v55:=Tryz.zeroValue200,t66:=Tryz.underlying283,a66:=Tryz.isAgg283,z66:=Tryz.sizeOf283,v66:=Tryz.zeroValue283,t70:=Tryz.underlying287,a70:=Tryz.isAgg287,z70:=Tryz.sizeOf287,v70:=Tryz.zeroValue287,t76:=Tryz.underlying303,a76:=Tryz.isAgg303,z76:=Tryz.sizeOf303,v76:=Tryz.zeroValue303,t77:=Tryz.underlying304,a77:=Tryz.isAgg304,z77:=Tryz.sizeOf304,v77:=Tryz.zeroValue304}
end Go.Proofs
namespace Qv
open Go Go.RowKit
def Oy (B:Nat)(w':World)(T z:Nat)(v:Value)(xs:List (List AV)):Prop:=∃(a:Option Addr) (c:Nat),v=.slice a xs.length c/\xs.length<=c/\((xs=[]/\c=0)\/∃b cs,a=some ⟨b,0,none⟩/\B<=b/\b<w'.heap.size/\w'.heap[b]?=some (.cells cs T (0,0))/\∀i,xs.length*z<=i->i<c*z->∃u,w'.cell? ⟨b,i,none⟩=some u)
def Mp (C:Ctx)(f:FuncId)(args:List AV)(T z:Nat)(R:List (AV×List (List AV))->Prop):Prop:=(∃fn,C.P.funcs[f]?=some fn/\fn.body.isNone=false/\(fn.name== "runtime.NumGoroutine")=false)/\∀(aZ:Nat->Nat->Prop)(w:World)(vs:List Value),C.J w/\oM aZ w->C.ov<=w.heap.size->(∀b o,aZ b o->b<w.heap.size)->vs.length=args.length->(∀(i:Nat)(v:Value)(x:AV),vs[i]?=some v->args[i]?=some x->cZ aZ w v x)->Calls C.P f vs.toArray w λe w'=>∃(m fZ:Nat) (es:List MapEntry) (l:List (AV×List (List AV))),e=.returned (.map (some m))/\w.heap.size<=m/\R l/\w'.heap[m]?=some (.map es.toArray fZ)/\nG es fZ/\es.length=l.length/\(∀(i:Nat)(e:MapEntry)(p:AV×List (List AV)),es[i]?=some e->l[i]?=some p->cZ (mz aZ w.heap.size) w' e.key p.1/\cZ (mz aZ w.heap.size) w' e.val (.sl p.2)/\Oy w.heap.size w' T z e.val p.2)/\RowKit.Below w.heap.size w w'
def acn (C:Ctx)(rs:List ResultVar)(T z:Nat)(R:List (AV×List (List AV))->Prop)(S:ah):Prop:=match rs with
 |[.tmp t]=>match S.get t with
  |.fK o=>match getM C.ex.JU o with|some (T',z',none)=>T'=T/\z'=z/\∃(l:List (AV×FV)) (l':List (AV×List (List AV))),getM S.maps o=some l/\l=l'.map (λp=>(p.1,.p (.sl p.2)))/\R l'|_=>False
  |_=>False
 |_=>False
def RY (C:Ctx)(rs:List ResultVar)(T z:Nat)(R:List (AV×List (List AV))->Prop):Exit->ah->Prop|.normal,S=>acn C rs T z R S|.ret,S=>acn C rs T z R S|_,_=>False
theorem UD {E:Env}{G:aV}{S:ah}{a:Act}{w:World}(hs:bp E G S a w){fn:Func}{T z:Nat}{R:List (AV×List (List AV))->Prop}(h:acn E.C fn.results.toList T z R S):∃(m fZ:Nat) (es:List MapEntry) (l:List (AV×List (List AV))),(results fn a.tmps).run E.C.P w=.ok (.map (some m)) w/\E.w0.heap.size<=m/\R l/\w.heap[m]?=some (.map es.toArray fZ)/\nG es fZ/\es.length=l.length/\∀(i:Nat)(e:MapEntry)(p:AV×List (List AV)),es[i]?=some e->l[i]?=some p->cZ (mz E.Bh E.w0.heap.size) w e.key p.1/\cZ (mz E.Bh E.w0.heap.size) w e.val (.sl p.2)/\Oy E.w0.heap.size w T z e.val p.2:=by
 unfold acn at h;split at h;rename_i t hrs;have hrun:(results fn a.tmps).run E.C.P w=.ok (a.tmps.getD t undef) w:=by have :=kC fn a.tmps E.C.P w (vs:=[a.tmps.getD t undef]) (by rw[hrs];rfl);exact this
 have hr:=aQ.get hs t;generalize a.tmps.getD t undef=v at hrun hr;split at h;rename_i o hg;rw[hg]at hr;split at h;rename_i T' z' OT;obtain⟨rfl,rfl,l,l',h1,rfl,h2⟩:=h;cases hr with
 |fK _ m hm=>
  obtain⟨b,fZ,es,q1,q2,q3,q4,q5⟩:=hs.ext'.mps.at_ o _ h1;obtain rfl:b=m:=by simp_all
  refine⟨b,fZ,es,l',hrun,(hs.ext'.mps.loc o b q1).1,h2,q2,q3,by simp_all,λi e p he hp=>?_⟩;have hp':(l'.map λp=>(p.1,FV.p (.sl p.2)))[i]?=some (p.1,.p (.sl p.2)):=by rw[aM,hp];rfl
  obtain⟨g1,g2⟩:=q5 i e _ he hp';have hI:∀{u:Value}{x:AV},cZ G.aZ w u x->cZ (mz E.Bh E.w0.heap.size) w u x:=λh=>h.keep (λb' o' hi=>hs.oh b' o' hi) (λ_ _ _ _ h=>h) (.refl _ _);refine⟨hI g1,hI g2.plain,?_⟩;obtain⟨ad,n,c,k1,k2⟩:=hs.ext'.mps.room o T' z' none _ b fZ es h1 OT q1 q2 i e _ he hp' (λe=>nomatch e);obtain⟨_,_,hv,hle,-⟩:=g2.plain.kS;rw[k1]at hv;injection hv with e1 e2 e3;subst e2;subst e3;refine⟨ad,c,k1,hle,?_⟩;rcases k2 with⟨k2,k3⟩|⟨b2,off,⟨rfl,rfl⟩,k4⟩;simp_all;obtain⟨t1,t2,⟨cs,fr,t3,t4⟩,t5⟩:=hs.fI _ _ _ _ _ k4;have t4:fr=(0,0):=t4;grind
 simp_all;simp_all;simp_all
theorem KH {C:Ctx}{f:FuncId}{fn:Func}{c:Code}{args:List AV}{T z:Nat}{R:List (AV×List (List AV))->Prop}(hf:C.P.funcs[f]?=some fn)(hb:fn.body=some c)(hname:(fn.name== "runtime.NumGoroutine")=false)(hlen:args.length<=fn.ntmps)(h:ud C (iQ C 6) jl c (RY C fn.results.toList T z R) (xT fn.ntmps args)):Mp C f args T z R:=by
 refine⟨⟨fn,hf,by simp_all,hname⟩,λaZ w vs hJ hn hi hl hr=>?_⟩;have hs:=aiF (n:=fn.ntmps) hJ hn hi hlen hl hr;refine(callsIn_wide (n:=0)).1 (callsIn_of_wp_marks hf hb trivial ?_ rfl);refine wpIn_mono (tc c (E:=Tn hJ hn) (Dv C 6) (uk _) h ⟨_,hs⟩) ?_;have fin:∀{S':ah}{a':Act}{w':World},acn C fn.results.toList T z R S'->pJ (Tn hJ hn) S' a' w'->LeavesInM Fence.wide 0 C.P fn a'.tmps (λe w'=>∃(m fZ:Nat) (es:List MapEntry) (l:List (AV×List (List AV))),e=.returned (.map (some m))/\w.heap.size<=m/\R l/\w'.heap[m]?=some (.map es.toArray fZ)/\nG es fZ/\es.length=l.length/\(∀(i:Nat)(e:MapEntry)(p:AV×List (List AV)),es[i]?=some e->l[i]?=some p->cZ (mz aZ w.heap.size) w' e.key p.1/\cZ (mz aZ w.heap.size) w' e.val (.sl p.2)/\Oy w.heap.size w' T z e.val p.2)/\RowKit.Below w.heap.size w w') a'.defers .returning w':=λ{S' a' w'} hq ⟨G',hs'⟩=>by obtain⟨ms',hm',-,-⟩:=hs'.ext'.marks;rw[hm'];refine Ae (E:=Tn hJ hn) ms' rfl hs' rfl hm' λG2 a2 w2 hs2 ht2 hd2=>?_;obtain⟨m,fZ,es,l,h1,hm,h2,h3,h4,h5,h6⟩:=UD hs2 hq;rw[<-ht2];exact⟨_,h1,m,fZ,es,l,rfl,hm,h2,h3,h4,h5,h6,hs2.kept.os,hs2.kept.tape,hs2.kept.output,hs2.kept.size,λk hk=>hs2.kept.block k hk (by simp)⟩
 rintro e a' w' ⟨S',hq,hs'⟩;cases e with
 |normal=>exact fin hq hs'
 |ret=>exact fin hq hs'
 |_=>exact hq.elim
theorem Oz {C:Ctx}(e:Extra)(l:List Nat){f:FuncId}{fn:Func}{args:List AV}{T z:Nat}{R:List (AV×List (List AV))->Prop}(hf:C.P.funcs[f]?=some fn)(hb:fn.body.isSome=true)(hname:(fn.name== "runtime.NumGoroutine")=false)(hlen:Nat.ble args.length fn.ntmps=true)(h:ud ((C.cut l).open e) (iQ ((C.cut l).open e) 6) jl (match fn.body with|some c=>c|none=>.skip) (RY ((C.cut l).open e) fn.results.toList T z R) (xT fn.ntmps args)):Mp C f args T z R:=by obtain⟨c,hc⟩:=me.1 hb;rw[hc]at h;exact KH (C:=(C.cut l).open e) hf hc hname (gQ hlen) h
theorem Mp.plain {C:Ctx}{f:FuncId}{args:List AV}{T z:Nat}{R:List (AV×List (List AV))->Prop}(h:Mp C f args T z R):aj C f args λr=>∃l,R l/\r=.val (.mp (l.map (·.1)) (l.map λp=>.sl p.2)):=⟨h.1,λaZ w vs h1 h2 h3 h4 h5=>(h.2 aZ w vs h1 h2 h3 h4 h5).mono λe w' ⟨m,fZ,es,l,q1,hm,q2,q3,q4,q5,q6,q7⟩=>by refine⟨_,_,q1,⟨l,q2,rfl⟩,?_,q7⟩;refine cZ.mp m fZ es _ _ (by simp_all) (by simp_all) (.inr hm) q3 q4 (λi e x he hx=>?_) (λi e x he hx=>?_);grind;grind⟩
def AV.Jq:AV->Bool|.agg xs=>KN xs|x=>x.flat
theorem cZ.acu {aZ qF:Nat->Nat->Prop}{w w':World}{v:Value}{x:AV}(h:cZ aZ w v x)(hx:x.flat=true):cZ qF w' v x:=by
 cases h with
 |bool b=>exact .bool b
 |int k n=>exact .int k n
 |str s=>exact .str s
 |vX=>exact .vX
 |Bd=>exact .Bd
 |rW=>exact .rW
 |kQ=>exact .kQ
 |_=>simp[AV.flat]at hx
theorem cZ.Jq {aZ qF:Nat->Nat->Prop}{w w':World}{v:Value}{x:AV}(h:cZ aZ w v x)(hx:x.Jq=true):cZ qF w' v x:=by
 cases x with
 |agg xs=>
  cases h with
  |agg cs _ h1 h2 h3=>exact .agg cs xs h1 h2 λi c x q1 q2=>(h3 i c x q1 q2).acu (DY hx x (bA q2))
 |_=>exact cZ.acu h hx
def rj (key:AV)(o T z:Nat):List (AV×List (List AV))->List (AV×FV)|[]=>[]|p::l=>match jR key p.1 with|true=>(p.1,.fc o T z)::l.map λq=>(q.1,.dr)|false=>(p.1,.dr)::rj key o T z l
def oL (key:AV):List (AV×List (List AV))->Option (List (List AV))|[]=>none|p::l=>match jR key p.1 with|true=>some p.2|false=>oL key l
theorem BQ (key:AV)(o T z:Nat):∀(l:List (AV×List (List AV))),(rj key o T z l).length=l.length/\((oL key l=none/\∀(i:Nat)(q:AV×FV),(rj key o T z l)[i]?=some q->∃p,l[i]?=some p/\q=(p.1,.dr))\/∃(j:Nat) (p0:AV×List (List AV)),l[j]?=some p0/\oL key l=some p0.2/\∀(i:Nat)(q:AV×FV),(rj key o T z l)[i]?=some q->∃p,l[i]?=some p/\((i=j/\q=(p.1,.fc o T z))\/q=(p.1,.dr)))
 |[]=>⟨rfl,.inl ⟨rfl,λi q h=>by simp[rj]at h⟩⟩
 |p::l=>by
  unfold rj oL;cases hs:jR key p.1 with
  |true=>
   refine⟨by simp,.inr ⟨0,p,rfl,rfl,λi q h=>?_⟩⟩;cases i with
   |zero=>simp at h;subst h;exact⟨p,rfl,.inl ⟨rfl,rfl⟩⟩
   |succ i=>
    simp only[lY,aM]at h;cases hq:l[i]?with
    |none=>simp[hq]at h
    |some y=>simp[hq]at h;subst h;exact⟨y,by simpa using hq,.inr rfl⟩
  |false=>
   obtain⟨h1,h2⟩:=BQ key o T z l;refine⟨by simp[h1],?_⟩;rcases h2 with⟨h2,h3⟩|⟨j,p0,h2,h3,h4⟩;refine .inl ⟨h2,λi q h=>?_⟩;cases i with
   |zero=>simp at h;subst h;exact⟨p,rfl,rfl⟩
   |succ i=>obtain⟨y,g1,g2⟩:=h3 i q (by simpa using h);exact⟨y,by simpa using g1,g2⟩
   refine .inr ⟨j+1,p0,by simpa using h2,h3,λi q h=>?_⟩;cases i with
   |zero=>simp at h;subst h;exact⟨p,rfl,.inr rfl⟩
   |succ i=>obtain⟨y,g1,g2⟩:=h4 i q (by simpa using h);exact⟨y,by simpa using g1,g2.imp (λg=>⟨by rw[g.1],g.2⟩) id⟩
def acv (S:ah)(o:Nat):Option (List FV)->ah|some cells=>{S.kill o with aJ:=(o,cells)::eo o S.aJ}|none=>S.kill o
def ajz (S:ah)(nm o:Nat)(cs:Option (List FV))(alQ:List (AV×FV)):ah:={(acv S o cs).kill nm with maps:=(nm,alQ)::xR (FV.kill nm) (va nm (acv S o cs).maps),iF:=va nm (acv S o cs).iF}
def agm:Option (List (List AV))->Option (List FV)|some xss=>some (aF xss.flatten)|none=>none
section
variable {E:Env}{G:aV}{S:ah}{a:Act}{w:World}
theorem bp.acw (hs:bp E G S a w){d m fZ:Nat}{es:List MapEntry}{l:List (AV×FV)}(OT:getM E.C.ex.JU d=none)(hw:E.w0.heap.size<=m)(hm:w.heap[m]?=some (.map es.toArray fZ))(hf:nG es fZ)(hlen:es.length=l.length)(Cf:∀i,¬G.aZ m i)(hno:∀o,G.mp o≠some m)(gb:∀o,G.loc o≠some m)(hent:∀(i:Nat)(e:MapEntry)(p:AV×FV),es[i]?=some e->l[i]?=some p->cZ G.aZ w e.key p.1/\aQ G w e.val (p.2)/\∃y,p.2=.dr\/(p.2=y/\y.kill d=y)):∃G',bp E G' {S.kill d with maps:=(d,l)::xR (FV.kill d) (va d S.maps),iF:=va d S.iF} a w/\aQ G' w (.map (some m)) (.fK d):=by
 have h1:=hs.kill d;have hfree:∀o b,(G.free d).mp o=some b->o≠d/\G.mp o=some b:=λo b h=>by simp only[aV.free]at h;split at h;cases h;rename_i hne;exact⟨hne,h⟩
 have hlf:∀o b,(G.free d).loc o=some b->G.loc o=some b:=λo b h=>by simp only[aV.free]at h;split at h;cases h;exact h
 have upk:∀v x,aQ G w v x->aQ (G.free d) w v (x.kill d):=λv x hv=>hv.kill (G':=G.free d) d rfl (λo b h h'=>by simp only[aV.free];rw[aa h];exact h') (λt r h h'=>by simp only[aV.free];rw[aa (UT h)];exact h') (λo b h h'=>h') (hmp:=λo b h h'=>by simp only[aV.free];rw[aa h];exact h') (hit:=λo b h h'=>by simp only[aV.free];rw[aa h];exact h');let G2:aV:={G.free d with mp:=λo=>if o=d then some m else(G.free d).mp o};refine⟨G2,?_,.fK d m (by simp[G2])⟩;refine h1.Vl (G':=G2) rfl rfl rfl rfl rfl (λo b h=>?_) (λ_ _ h=>h) λkeep=>?_;simp only[G2];rw[aa (hfree o b h).1];exact h;have Vo:=h1.ext'.mps;refine⟨λo l' ho=>?_,λo b ho=>?_,λo o' b q1 q2=>?_,Vo.iF,Vo.yH,Vo.yI,λo o' b q1 q2=>?_,λo T z k l' b Ee es' g1 g2 g3 g4 i e p g5 g6 g7=>?_⟩;simp only[getM]at ho;split at ho;rename_i hq;obtain rfl:=aK hq;obtain rfl:=an ho;refine⟨m,fZ,es,by simp[G2],hm,hf,hlen,λi e p he hp=>?_⟩;obtain⟨k1,k2,y,k3⟩:=hent i e p he hp;refine⟨k1,?_⟩;rcases k3 with k3|⟨k3,k4⟩;rw[k3];exact .dr _;rw[k3]at k2⊢;have :=upk _ _ k2;rw[k4]at this;exact keep _ _ this;obtain⟨b,aiu,es2,q1,q2,q3,q4,q5⟩:=Vo.at_ o l' ho;refine⟨b,aiu,es2,?_,q2,q3,q4,λi e p h6 h7=>⟨(q5 i e p h6 h7).1,keep _ _ (q5 i e p h6 h7).2⟩⟩;simp only[G2];rw[aa (hfree o b q1).1];exact q1;simp only[G2]at ho;split at ho;obtain rfl:=an ho;exact⟨hw,Cf,_,_,hm⟩;exact Vo.loc o b ho;simp only[G2]at q1 q2;split at q1<;>split at q2;rename_i e1 e2;rw[e1,e2];obtain rfl:=an q1;exact absurd (hfree _ _ q2).2 (hno _);obtain rfl:=an q2;exact absurd (hfree _ _ q1).2 (hno _);exact Vo.inj o o' b q1 q2;simp only[G2]at q1;split at q1;obtain rfl:=an q1;exact absurd (hlf _ _ q2) (gb _);exact Vo.apart o o' b q1 q2;simp only[getM]at g1;split at g1;rename_i hq;obtain rfl:=aK hq;rw[OT]at g2;cases g2;simp only[G2]at g3;split at g3;rename_i hq e1;rw[e1,gT]at hq;cases hq;exact Vo.room o T z k l' b Ee es' g1 g2 g3 g4 i e p g5 g6 g7
theorem OB (hs:bp E G S a w){w':World}(hb:Below w.heap.size w w'){m fZ:Nat}{es:List MapEntry}{l:List (AV×List (List AV))}{T z nm o:Nat}{key:AV}(hm0:w.heap.size<=m)(hm:w'.heap[m]?=some (.map es.toArray fZ))(hf:nG es fZ)(hlen:es.length=l.length)(hent:∀(i:Nat)(e:MapEntry)(p:AV×List (List AV)),es[i]?=some e->l[i]?=some p->cZ (mz G.aZ w.heap.size) w' e.key p.1/\cZ (mz G.aZ w.heap.size) w' e.val (.sl p.2)/\Oy w.heap.size w' T z e.val p.2)(OT:getM E.C.ex.JU nm=none)(hne:nm≠o)(h9:o≠999999)(hz:0<z)(hfl:∀p,p∈l->p.1.Jq=true/\p.2≠[]/\∀ys,ys∈p.2->ys.length=z/\∀y,y∈ys->y.flat=true):∃G',bp E G' (ajz S nm o (agm (oL key l)) (rj key o T z l)) a w'/\aQ G' w' (.map (some m)) (.fK nm):=by
 have hg0:=(hs.MV hb λ_ _=>False).kill o;have hsz:E.w0.heap.size<=w.heap.size:=hs.kept.size;have him:∀b i,w.heap.size<=b->¬(aV.free {G with aZ:=λb o=>G.aZ b o\/(w.heap.size<=b/\b<w'.heap.size/\False)} o).aZ b i:=λb i vk h=>by rcases h with h|⟨-,-,h⟩;have :=hs.fq _ _ h;omega;exact h
 have hlo:∀q b,w.heap.size<=b->(aV.free {G with aZ:=λb o=>G.aZ b o\/(w.heap.size<=b/\b<w'.heap.size/\False)} o).loc q≠some b:=λq b vk h=>by simp only[aV.free]at h;split at h;cases h;have :=(hs.iu q _ h).1;omega
 have JL:∀t' b r,w.heap.size<=b->(aV.free {G with aZ:=λb o=>G.aZ b o\/(w.heap.size<=b/\b<w'.heap.size/\False)} o).tail t'≠some (b,r):=λt' b r vk h=>by simp only[aV.free]at h;split at h;cases h;have :=(hs.fI t' _ r.1 r.2.1 r.2.2 h).1;omega
 have hrw:∀q b,w.heap.size<=b->(aV.free {G with aZ:=λb o=>G.aZ b o\/(w.heap.size<=b/\b<w'.heap.size/\False)} o).row q≠some b:=λq b vk h=>by simp only[aV.free]at h;split at h;cases h;have :=(hs.iZ.row q _ h).2.1;omega
 have hmo:∀q b,w.heap.size<=b->(aV.free {G with aZ:=λb o=>G.aZ b o\/(w.heap.size<=b/\b<w'.heap.size/\False)} o).mp q≠some b:=λq b vk h=>by simp only[aV.free]at h;split at h;cases h;obtain⟨-,-,es2,k2,h3⟩:=hs.ext'.mps.loc q _ h;have :=(bC.1 h3).1;omega
 obtain⟨Kf,Fq⟩:=BQ key o T z l;rcases Fq with⟨h1,h2⟩|⟨j,p0,hj,h1,h2⟩;rw[h1];refine hg0.acw OT oO hm hf (by rw[Kf];exact hlen) (λi=>him m i hm0) (λq=>hmo q m hm0) (λq=>hlo q m hm0) λi e q he hq=>?_;obtain⟨p,hp,rfl⟩:=h2 i q hq;exact⟨(hent i e p he hp).1.Jq (hfl p (bA hp)).1,.dr _,.dr,.inl rfl⟩;rw[h1];have SQ:j<es.length:=by rw[hlen];exact(aC.1 hj).1
 obtain⟨g1,g2,ad,c,g3,g4,g5⟩:=hent j _ p0 (aq SQ) hj;obtain⟨f1,f2,f3⟩:=hfl p0 (bA hj);rcases g5 with⟨g5,-⟩|⟨b,cs,rfl,g6,g7,g8,g9⟩;exact absurd g5 f2;have hfz:∀i,w'.frozen? ⟨b,i,none⟩=false:=λi=>by simp[World.frozen?,g8]
 have ahw:p0.2.flatten.length=p0.2.length*z:=gF λzs hzs=>(f3 zs hzs).1;have hcell:∀(i:Nat)(y:AV),p0.2.flatten[i]?=some y->∃u,w'.cell? ⟨b,i,none⟩=some u/\∀(aZ:Nat->Nat->Prop),cZ aZ w' u y:=λi y hy=>by
  have hi:i<p0.2.length*z:=by rw[<-ahw];exact(aC.1 hy).1
  have hd:i/z<p0.2.length:=(Nat.div_lt_iff_lt_mul hz).2 hi;have Vo:i%z<(p0.2[i/z]).length:=by rw[(f3 _ (aL hd)).1];exact jX _ hz
  have he:i/z*z+i%z=i:=by rw[sE];exact CF i z
  have hfg:=lP (λzs hzs=>(f3 zs hzs).1) (aq hd) (aq Vo);rw[he]at hfg;rw[hfg]at hy;obtain rfl:=an hy;rw[g3]at g2;obtain⟨_,_,hv,-,hnn⟩:=g2.kS;obtain⟨b2,off2,bN,cell,vk,q1,q2⟩:=hnn f2;injection hv with e1 e2 e3;rw[vk]at e1;have e1:=an e1;injection e1 with e4 e5;subst e4;subst e5;obtain rfl:bN=z:=(q1 _ _ (aq hd)).symm.trans (f3 _ (aL hd)).1;obtain⟨k1,k2,k3,k4⟩:=q2 _ _ _ _ (aq hd) (aq Vo);rw[cz,he]at k2;exact⟨_,k2,λaZ=>k4.acu ((f3 _ (aL hd)).2 _ (aL Vo))⟩
 have hg1:=hg0.ZL (d:=o) (b:=b) (cells:=aF p0.2.flatten) h9 (by simp[aV.free]) (iN _ _) (λq=>hlo q b g6) (λt' r=>JL t' b r g6) (λq=>hrw q b g6) (λes k e=>by rw[g8]at e;cases e) g7 oO (λi=>⟨him b i g6,hfz i⟩) (λi x hx=>by
  rw[tA]at hx;cases hq:p0.2.flatten[i]?with
  |none=>rw[hq]at hx;cases hx
  |some y=>rw[hq]at hx;obtain rfl:=an hx;obtain⟨u,q1,q2⟩:=hcell i y hq;exact⟨u,q1,.p _ _ (q2 _)⟩)
 have hg2:=hg1.vn (t:=o) (B:=b) (s:=p0.2.length*z) (e:=c*z) (T:=T) (sZ _ o) g7 oO ⟨cs,(0,0),g8,trivial⟩ (λq h=>by simp only at h;split at h;rename_i e;subst e;refine⟨rfl,iN _ _,λcells hc=>?_⟩;simp only[Qv.getObj,gT]at hc;obtain rfl:=an hc;rw[iP,ahw];exact absurd h (hlo q b g6)) (λt' r=>JL t' b r g6) (λq=>hrw q b g6) (λi hi hi'=>⟨g9 i hi hi',hfz i,him b i g6⟩);refine hg2.acw OT oO hm hf (by rw[Kf];exact hlen) (λi=>him m i hm0) (λq=>hmo q m hm0) (λq h=>?_) λi e q he hq=>?_;simp only at h;split at h;obtain rfl:=an h;rw[g8]at hm;cases hm;exact absurd h (hlo q m hm0);obtain⟨p,hp,hq⟩:=h2 i q hq;have hk:=(hent i e p he hp).1.Jq (qF:=(aV.free {G with aZ:=λb o=>G.aZ b o\/(w.heap.size<=b/\b<w'.heap.size/\False)} o).aZ) (w':=w') (hfl p (bA hp)).1;rcases hq with⟨rfl,rfl⟩|rfl;refine⟨hk,?_,.fc o T z,.inr ⟨rfl,by simp[FV.kill,KY hne.symm]⟩⟩;have hee:e=es[i]:=by rw[aq SQ]at he;exact(an he).symm
 rw[hee,g3];exact .fc o T z p0.2.length c b (by simp) (by simp) g4 hz;exact⟨hk,.dr _,.dr,.inl rfl⟩
def agn (C:Ctx)(key:AV)(nm o T z:Nat)(call:ig):ig:=λY g args K S=>((nm≠o/\o≠999999/\0<z/\getM C.ex.JU nm=none)/\∃(xs:List AV) (R:List (AV×List (List AV))->Prop),FV.fF args=some xs/\Mp C g xs T z R/\∀l,R l->(∀p,p∈l->p.1.Jq=true/\p.2≠[]/\∀ys,ys∈p.2->ys.length=z/\∀y,y∈ys->y.flat=true)/\K (.fK nm) (ajz S nm o (agm (oL key l)) (rj key o T z l)))\/call Y g args K S
theorem acy {C:Ctx}{key:AV}{nm o T z:Nat}{call:ig}(h:lZ C call):lZ C (agn C key nm o T z call):=by intro E hC Y g args K G S a w vals hs hY hc hlen hr;rcases hc with⟨⟨hne,h9,hz,OT⟩,xs,R,hxs,hM,hK⟩|hc;refine⟨hM.1,?_⟩;obtain⟨Fq,hr2⟩:=mI ⟨hlen,hr⟩ hxs;have hJ:=hs.J;subst hC;refine callsIn_wide.2 (Calls.mono (hM.2 G.aZ w vals hJ.1 hJ.2 hs.fq Fq hr2) ?_);rintro e w' ⟨m,fZ,es,l,rfl,q1,q2,q3,q4,q5,q6,q7⟩;obtain⟨hfl,hK⟩:=hK l q2;obtain⟨G',hs',om⟩:=OB (key:=key) hs q7 q1 q3 q4 q5 q6 OT hne h9 hz hfl;exact⟨_,_,G',_,rfl,hK,hs',om⟩;exact h E hC Y g args K G S a w vals hs hY hc hlen hr
end
theorem Jr {C:Ctx}(key:AV)(nm o T z:Nat)(e:Extra)(l:List Nat){f:FuncId}{fn:Func}{args:List AV}{R:dh->Prop}(hf:C.P.funcs[f]?=some fn)(hb:fn.body.isSome=true)(hname:(fn.name== "runtime.NumGoroutine")=false)(hlen:Nat.ble args.length fn.ntmps=true)(h:ud ((C.cut l).open e) (agn ((C.cut l).open e) key nm o T z (iQ ((C.cut l).open e) 6)) jl (match fn.body with|some c=>c|none=>.skip) (ue ((C.cut l).open e) fn.results.toList R) (xT fn.ntmps args)):aj C f args R:=by obtain⟨c,hc⟩:=me.1 hb;rw[hc]at h;exact sg (C:=(C.cut l).open e) (acy (Dv _ 6)) hf hc hname (gQ hlen) h
end Qv
