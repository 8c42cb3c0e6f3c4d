/- Part 10 of the proof: its lemmas. No condition. -/
import Derived.Test.YtiboombocnfngaaGreatDoorW1
import Derived.Test.YtiboombocnfngaaGreatDoorW6
import Derived.Sort.LoopGhostIn
import Derived.Shelf.SlLaysF0
import Derived.Ground.SlsfProg
import Derived.Test.YtiboombocnfngaaGreatDoorProg
import Derived.JoinedCond
set_option maxRecDepth 10000
set_option maxHeartbeats 80000000
set_option linter.all false
namespace Qv
open Go Go.RowKit
theorem bA.weaken {E:Env}{G:bl}{S S':an}{a:Act}{w:World}(h:bA E G S a w)(hw:cU S S'):bA E G S' a w:=by
 refine⟨h.kept,h.size.trans hw.n.symm,⟨⟨λo l' hl=>?_,h.ext'.mps.loc,h.ext'.mps.inj,λq x hx=>h.ext'.mps.jD q x (hw.jD q x hx),h.ext'.mps.Bm,h.ext'.mps.Bn,h.ext'.mps.apart,λo T z k l' b gL es q1 q2 q3 q4 i e p q5 q6 q7=>?_⟩,hw.bM.1.trans h.ext'.lR,λi vals fr h1 h2=>?_,by rw[hw.cO];exact h.ext'.kP,λi k r st h1 h2=>h.ext'.loops i k r st h1 (hw.cO▸h2),h.ext'.lS,h.ext'.yl,h.ext'.mD,h.ext'.marks,h.ext'.Be⟩,⟨λo bs q=>⟨(hw.dh o bs q).2 (h.jr.at_ o bs (hw.dh o bs q).1).1,(h.jr.at_ o bs (hw.dh o bs q).1).2⟩,h.jr.row,h.jr.dx⟩,h.nS,h.fJ,λi hi=>hw.tmps i _ _ _ (h.tmps i (hw.n▸hi)),λo ys ho=>?_,h.gW,h.fq,λo t b r h1 h2=>?_,h.gv,h.ew⟩;obtain⟨l,h1,h2,h3⟩:=hw.maps o l' hl;obtain⟨b,gL,es,h4,h5,h6,h7,h8⟩:=h.ext'.mps.at_ o l h1;refine⟨b,gL,es,h4,h5,h6,h7.trans h2,λi e p he hp=>?_⟩;have FQ:i<l.length:=by rw[h2];exact(aI.1 hp).1
 obtain⟨h9,h10⟩:=h3 i _ p (ay FQ) hp;obtain⟨h11,h12⟩:=h8 i e _ he (ay FQ);exact⟨h9▸h11,h10 _ _ _ h12⟩;obtain⟨l,h1,h2,h3⟩:=hw.maps o l' q1;have FQ:i<l.length:=by rw[h2];exact(aI.1 q6).1
 obtain⟨h9,-⟩:=h3 i _ p (ay FQ) q6;exact h.ext'.mps.room o T z k l b gL es h1 q2 q3 q4 i e _ q5 (ay FQ) (h9▸q7);have hl:i<S.bM.length:=by rw[<-hw.bM.1];exact(aI.1 h2).1
 obtain⟨h3,h4,h5⟩:=hw.bM.2 i _ fr (ay hl) h2;obtain⟨h6,h7⟩:=h.ext'.bM i vals _ h1 (ay hl);exact⟨h6.trans h3.symm,λj hj=>h5 j _ _ _ (h7 j (h3▸hj))⟩;obtain⟨xs,h1,h2,h3⟩:=hw.aK o ys ho;obtain⟨b,h4,h5⟩:=h.aK o xs h1;refine⟨b,h4,λi y hy=>?_⟩;have hl:i<xs.length:=by rw[h2];exact(aI.1 hy).1
 obtain⟨c,h6,h7⟩:=h5 i _ (ay hl);exact⟨c,h6,h3 i _ _ (ay hl) hy _ _ _ h7⟩;obtain⟨h3,h4,h5⟩:=h.cL o t b r h1 h2;refine⟨h3,?_,λys ho=>?_⟩;cases hb:me S'.dh o with
 |none=>rfl
 |some bs=>rw[(hw.dh o bs hb).1]at h4;omega
 obtain⟨xs,h6,h7,-⟩:=hw.aK o ys ho;simp_all
def wkY (Y:pn):pn:=λl args K S=>∃T,cU S T/\Y l args (λv S'=>∃T',cU S' T'/\K v T') T
def wkK (K:FV->an->Prop):FV->an->Prop:=λv S=>∃T,cU S T/\K v T
def mz (C:Ctx):Nat->iR|0=>λ_ _ _ _ _=>False|k+1=>λY g args K S=>∃fn,C.P.funcs[g]?=some fn/\fn.body.isSome=true/\(fn.name== "runtime.NumGoroutine")=false/\Nat.ble args.length fn.ntmps=true/\∃T,cU S T/\yQ C (mz C k) (wkY Y) (match fn.body with|some c=>c|none=>.skip) (PD C fn.results.toList (wkK K)) (T.enter fn.ntmps (uT args))
theorem fh.wk {E:Env}{Y:pn}(h:fh E Y):fh E (wkY Y):=by intro mD xs ls fixed G S a w l k args K vals hs hk ⟨T,hw,hY⟩ hlen oD;refine YieldAt.mono (h mD xs ls fixed G T a w l k args _ vals (hs.weaken hw) hk hY hlen oD) ?_;rintro e w' ⟨v,x,G',S',he,⟨T',hw',hK⟩,hs',hr⟩;exact⟨v,x,G',T',he,hK,hs'.weaken hw',hr⟩
theorem Rt (C:Ctx):∀k,ni C (mz C k)
 |0=>λE hC Y g args K G S a w vals hs hY h=>h.elim
 |k+1=>by
  intro E hC Y g args K G S a w vals hs hY h hlen hr;subst hC;obtain⟨fn,hf,hb,hname,hn,T0,hw0,h⟩:=h;replace hs:=hs.weaken hw0;obtain⟨c,hc⟩:=oq.1 hb;rw[hc]at h;refine⟨⟨fn,hf,by simp_all,hname⟩,?_⟩;obtain⟨hsz,ht⟩:=wm (n:=fn.ntmps) hlen (iD hn) hr;have hs1:=hs.enter (mD:=none) hsz ht (λl h=>by grind);obtain⟨ms,yC,-,-⟩:=hs.ext'.marks;refine callsIn_of_wp_marks hf hc trivial ?_ rfl;have :=ud c (E:=E.push a) (Rt E.C k) hY.wk h ⟨_,hs1⟩;refine wpIn_mono this ?_;have fin:∀{S':an}{a':Act}{w':World},rq E.C S' fn.results.toList (λvs=>S'.leave (wkK K (Kx vs)))->nT (E.push a) S' a' w'->LeavesInM Fence.wide 0 E.C.P fn a'.tmps (λe w'=>∃v x G' S',e=.returned v/\K x S'/\bA E G' S' a w'/\aU G' w' v x) a'.defers .returning w':=λ{S' a' w'} hq ⟨G',hs'⟩=>by obtain⟨ms',hm',-,-⟩:=hs'.ext'.marks;rw[hm'];refine AL (E:=E.push a) ms' rfl hs' rfl hm' λG2 a2 w2 hs2 ht2 hd2=>?_;obtain⟨vs,xs,r1,r2,r3,r4,r5⟩:=oo hs2 _ _ hq;obtain⟨f,r,hf',T,hw,hK⟩:=Fe r2;have hlv:=bA.leave (E:=E) (a:=a) (mD:=none) (ms:=ms) hs2 hf' yC hs.ext'.mD;rw[<-ht2];exact⟨_,lJ fn a2.tmps E.C.P w2 r1,_,_,G2,_,rfl,hK,hlv.weaken hw,AK r4 r5⟩
  rintro e a' w' ⟨S',hq,hs'⟩;cases e with
  |normal=>exact fin hq hs'
  |ret=>exact fin hq hs'
  |_=>exact hq.elim
theorem bw.trans {x y z:FV}(h1:bw x y)(h2:bw y z):bw x z:=λG w v h=>h2 G w v (h1 G w v h)
theorem cU.trans {S T U:an}(h1:cU S T)(h2:cU T U):cU S U:=by
 refine⟨h2.n.trans h1.n,h2.off.trans h1.off,h2.cO.trans h1.cO,λo bs q=>?_,⟨h2.bM.1.trans h1.bM.1,λi f f' q1 q2=>?_⟩,λi=>(h1.tmps i).trans (h2.tmps i),λo zs q=>?_,λo l'' q=>?_,λq x h=>h1.jD q x (h2.jD q x h)⟩;obtain⟨a1,a2⟩:=h2.dh o bs q;obtain⟨b1,b2⟩:=h1.dh o bs a1;simp_all;have hl:i<T.bM.length:=by rw[h1.bM.1];exact(aI.1 q1).1
 obtain⟨a1,a2,a3⟩:=h1.bM.2 i f _ q1 (ay hl);obtain⟨b1,b2,b3⟩:=h2.bM.2 i _ f' (ay hl) q2;exact⟨b1.trans a1,b2.trans a2,λj=>(a3 j).trans (b3 j)⟩;obtain⟨ys,a1,a2,a3⟩:=h2.aK o zs q;obtain⟨xs,b1,b2,b3⟩:=h1.aK o ys a1;refine⟨xs,b1,b2.trans a2,λi x z c1 c2=>?_⟩;have hl:i<ys.length:=by rw[<-b2];exact(aI.1 c1).1
 exact(b3 i x _ c1 (ay hl)).trans (a3 i _ z (ay hl) c2);obtain⟨l',a1,a2,a3⟩:=h2.maps o l'' q;obtain⟨l,b1,b2,b3⟩:=h1.maps o l' a1;refine⟨l,b1,b2.trans a2,λi x z c1 c2=>?_⟩;have hl:i<l'.length:=by rw[<-b2];exact(aI.1 c1).1
 obtain⟨d1,d2⟩:=b3 i x _ c1 (ay hl);obtain⟨e1,e2⟩:=a3 i _ z (ay hl) c2;exact⟨e1.trans d1,d2.trans e2⟩
theorem Jq {C:Ctx}{k:Nat}{Y:pn}{g:FuncId}{args:List FV}{K:FV->an->Prop}{S T:an}(hw:cU S T)(h:mz C k Y g args K T):mz C k Y g args K S:=by
 cases k with
 |zero=>exact h
 |succ k=>obtain⟨fn,h1,h2,h3,h4,U,h5,h6⟩:=h;exact⟨fn,h1,h2,h3,h4,U,hw.trans h5,h6⟩
theorem GW {C:Ctx}{f:FuncId}{fn:Func}{c:Code}{args:List AV}{R:dJ->Prop}(hf:C.P.funcs[f]?=some fn)(hb:fn.body=some c)(hname:(fn.name== "runtime.NumGoroutine")=false)(hlen:args.length<=fn.ntmps)(h:yQ C (mz C 6) uo c (uU C fn.results.toList R) (Bl fn.ntmps args)):av C f args R:=yD (Rt C 6) hf hb hname hlen h
theorem Ae {C:Ctx}(e:Extra)(l:List Nat){f:FuncId}{fn:Func}{args:List AV}{R:dJ->Prop}(hf:C.P.funcs[f]?=some fn)(hb:fn.body.isSome=true)(hname:(fn.name== "runtime.NumGoroutine")=false)(hlen:Nat.ble args.length fn.ntmps=true)(h:yQ ((C.cut l).open e) (mz ((C.cut l).open e) 6) uo (match fn.body with|some c=>c|none=>.skip) (uU ((C.cut l).open e) fn.results.toList R) (Bl fn.ntmps args)):av C f args R:=by obtain⟨c,hc⟩:=oq.1 hb;rw[hc]at h;exact GW (C:=(C.cut l).open e) hf hc hname (iD hlen) h
end Qv
namespace Qv
open Go Go.RowKit
variable {E:Env}{G:bl}{S:an}{a:Act}{w:World}
theorem dH.unit {br uM:Nat->Nat->Prop}{w:World}{v:Value}(h:dH br w v (.eN [])):dH uM w v (.eN []):=by
 cases h with
 |eN cs xs hl hall=>exact .eN cs [] hl λi c x h1 h2=>by simp at h2
def AR (C:Ctx)(rs:List ResultVar)(bs':List UInt8)(S:an):Prop:=rq C S rs λvs=>(Kx vs).fA=some (.eN [])/\me S.dh 999999=some bs'
def RC (C:Ctx)(rs:List ResultVar)(bs':List UInt8):Exit->an->Prop|.normal,S=>AR C rs bs' S|.ret,S=>AR C rs bs' S|_,_=>False
theorem OF {C:Ctx}{f:FuncId}{fn:Func}{c:Code}{args:List AV}{bs bs':List UInt8}(hf:C.P.funcs[f]?=some fn)(hb:fn.body=some c)(hname:(fn.name== "runtime.NumGoroutine")=false)(hlen:args.length+1<=fn.ntmps)(h:ev C c (RC C fn.results.toList bs') (Vp fn.ntmps bs args)):vT C f args bs (some bs') (.eN []):=by
 refine⟨⟨fn,hf,by rw[hb];rfl,hname⟩,λbr w b row vs hJ hn hi hbn hrn hbi hri qS hl hr=>?_⟩;obtain⟨p0,v0,hp0,hbk,hrow⟩:=qS;have qS:yV C w b row bs:=⟨p0,v0,hp0,hbk,hrow⟩;have adU:=(bz.1 hbk).1;have VW:∀r,row=some r->b≠r/\r<w.heap.size/\∃cs T fr,w.heap[r]?=some (.cells cs T fr):=λr hr=>by subst hr;obtain⟨h1,cap,cur,h2,h3,-⟩:=hrow;exact⟨h1,(bz.1 h3).1,_,_,_,h3⟩
 have hown:∀k,k∈b::row.toList->C.nt<=k/\k<w.heap.size/\∀o,¬br k o:=λk hk=>by
  rcases aL.1 hk with rfl|hk;exact⟨hbn,adU,hbi⟩;have hk:row=some k:=by
   cases row with
   |none=>simp at hk
   |some r=>simp at hk;rw[hk]
  exact⟨hrn k hk,(VW k hk).2.1,λo=>hri k o hk⟩
 let E:Env:={C:=C,w0:=w,EM:=br,hJ:=hJ.1,hn:=hn,mD:=none,bM:=[],loops:=[],fixed:=[],own:=b::row.toList,hown:=hown,sg:=[(999999,b)],rows:=row.toList,CQ:=λp hp=>⟨by rw[aO.1 hp];exact .head _,by rw[aO.1 hp];intro q;exact(VW b (by simpa using q)).1 rfl⟩,hrows:=λr hr=>.tail _ hr};let G0:bl:=⟨br,λo=>if o=999999 then some b else none,λ_=>none,λ_=>none,λo=>if o=999999 then row else none,λ_=>none,λ_=>none⟩;have oD:∀(i:Nat)(v:Value)(x:FV),(Value.pointer (some ⟨b,0,none⟩)::vs)[i]?=some v->(FV.ptr 999999 0::aH args)[i]?=some x->aU G0 w v x:=λi v x h1 h2=>by
  cases i with
  |zero=>simp at h1 h2;subst h1;subst h2;exact .ptr _ _ _ rfl
  |succ i=>
   simp only[mI,eZ,aM]at h1 h2;cases hq:args[i]?with
   |none=>simp[hq]at h2
   |some y=>simp[hq]at h2;subst h2;exact .p _ _ (hr i v y h1 hq)
 obtain⟨hsz,ht⟩:=wm (n:=fn.ntmps) (vals:=Value.pointer (some ⟨b,0,none⟩)::vs) (args:=FV.ptr 999999 0::aH args) (by simp[eZ,hl]) (by simp[eZ];omega) oD;have hG:∀o b2,G0.loc o=some b2->o=999999/\b2=b:=λo b2 h=>by simp only[G0]at h;split at h;rename_i e;exact⟨e,(aq h).symm⟩;cases h
 have hR:∀o r,G0.row o=some r->o=999999/\row=some r:=λo r h=>by simp only[G0]at h;split at h;rename_i e;exact⟨e,h⟩;cases h
 have hs:bA E G0 (Vp fn.ntmps bs args) {tmps:=(Value.pointer (some ⟨b,0,none⟩)::vs).toArray++Array.replicate (fn.ntmps-(Value.pointer (some ⟨b,0,none⟩)::vs).toArray.size) undef,defers:=[]} w:=by refine⟨⟨rfl,rfl,rfl,aB _,λ_ _ _=>rfl,λk cs T fr _ q=>⟨cs,q,rfl⟩⟩,hsz,⟨⟨(λo l h=>by cases h),(λo b h=>by cases h),(λo o' b h=>by cases h),(λq x h=>by cases h),(λq r h=>by cases h),(λq q' r h=>by cases h),(λo o' b h=>by cases h),(λo T z k l b gL es h=>by cases h)⟩,rfl,λi vs fr h=>by simp[E]at h,rfl,λi k r st h=>by simp[E]at h,λi j k r r' h=>by simp[E]at h,λi k r h=>by simp[E]at h,λl h=>by simp[E]at h,⟨[],rfl,by simp[E],by simp[E]⟩,hJ.2⟩,⟨λo bs2 h=>?_,λo r h=>?_,λo r h=>?_⟩,λb o h=>.inl h,hi,λi hi'=>ht i hi',(λo cs ho=>by cases ho),(λo b2 h=>?_),(λo o' b2 h h'=>?_),(λo t b r _ h=>by cases h),(λt b s e T h=>by cases h),(λt t' b r r' h=>by cases h)⟩;simp only[Vp,me]at h;split at h;rename_i hq;obtain rfl:=aN hq;obtain rfl:=aq h;exact⟨rfl,b,rfl,qS⟩;cases h;obtain⟨rfl,h⟩:=hR o r h;obtain⟨h1,h2,h3⟩:=VW r h;refine⟨.inr ⟨rfl,Option.mem_toList.2 h⟩,h2,λi=>hri r i h,λo' h'=>h1 (hG o' r h').2.symm,λt q h'=>(by cases h'),λo' h'=>(hR o' r h').1⟩;obtain⟨rfl,h⟩:=hR o r h;exact(VW r h).2.2;obtain⟨rfl,rfl⟩:=hG o b2 h;exact⟨adU,.inr ⟨rfl,.head _⟩,λi=>⟨hbi i,by simp[World.frozen?,hbk]⟩⟩;exact(hG o b2 h).1.trans (hG o' b2 h').1.symm
 refine(callsIn_wide (n:=0)).1 (callsIn_of_wp_marks hf hb trivial ?_ rfl);refine wpIn_mono (ud c (E:=E) (zI C 6) (vb E) h ⟨_,hs⟩) ?_;have fin:∀{S':an}{a':Act}{w':World},AR C fn.results.toList bs' S'->nT E S' a' w'->LeavesInM Fence.wide 0 C.P fn a'.tmps (λe w'=>∃v,e=.returned v/\dH (λ_ _=>False) w' v (.eN [])/\(∃row',yV C w' b row' bs'/\(row'=row\/row'=none\/∃x,row'=some x/\w.heap.size<=x))/\w'.os=w.os/\w'.tape=w.tape/\w'.output=w.output/\w.heap.size<=w'.heap.size/\∀k,k<w.heap.size->k≠b->row≠some k->w'.heap[k]?=w.heap[k]?) a'.defers .returning w':=λ{S' a' w'} hq ⟨G',hs'⟩=>by
  obtain⟨ms',hm',-,-⟩:=hs'.ext'.marks;rw[hm'];refine AL (E:=E) ms' rfl hs' rfl hm' λG2 a2 w2 hs2 ht2 hd2=>?_;unfold AR at hq;obtain⟨vs,xs,r1,⟨r2,r7⟩,r3,r4,r5⟩:=oo hs2 _ _ hq;rw[<-ht2];obtain⟨-,b2,g1,g2⟩:=hs2.jr.at_ 999999 bs' r7;obtain rfl:b2=b:=Env.PJ (E:=E) (hs2.gW _ _ g1).2.1 rfl;refine⟨_,lJ fn a2.tmps E.C.P w2 r1,_,rfl,((AK r4 r5).fA r2).unit,⟨_,g2,?_⟩,hs2.kept.os,hs2.kept.tape,hs2.kept.output,hs2.kept.size,λk hk hkb hkr=>hs2.kept.block k hk (λhm=>?_)⟩;cases hq2:G2.row 999999 with
  |none=>exact .inr (.inl rfl)
  |some x=>
   rcases(hs2.jr.row _ x hq2).1 with h|h;exact .inr (.inr ⟨x,rfl,h⟩);left;have hm:x∈row.toList:=h.2;cases row with
   |none=>simp at hm
   |some r=>simp at hm;rw[hm]
  rcases aL.1 hm with rfl|hm;exact hkb rfl;cases row with
  |none=>simp at hm
  |some r=>simp at hm;exact hkr (by rw[hm])
 rintro e a' w' ⟨S',hq,hs'⟩;cases e with
 |normal=>exact fin hq hs'
 |ret=>exact fin hq hs'
 |_=>exact hq.elim
theorem BE {C:Ctx}(e:Extra)(l:List Nat){f:FuncId}{fn:Func}{args:List AV}{bs bs':List UInt8}(hf:C.P.funcs[f]?=some fn)(hb:fn.body.isSome=true)(hname:(fn.name== "runtime.NumGoroutine")=false)(hlen:Nat.ble (args.length+1) fn.ntmps=true)(h:ev ((C.cut l).open e) (match fn.body with|some c=>c|none=>.skip) (RC ((C.cut l).open e) fn.results.toList bs') (Vp fn.ntmps bs args)):vT C f args bs (some bs') (.eN []):=by obtain⟨c,hc⟩:=oq.1 hb;rw[hc]at h;exact OF (C:=(C.cut l).open e) hf hc hname (iD hlen) h
end Qv
namespace Go.Proofs
open Go.Shelf
def Tryz.sortI152_ren:Go.Shelf.Ren:=⟨λ|6=>236|15=>143|14=>287|28=>210|29=>211|20=>315|21=>316|22=>317|23=>318|24=>319|25=>320|26=>321|27=>322|46=>343|47=>275|48=>276|49=>344|50=>345|57=>352|n=>n,λ|22=>62|24=>54|25=>152|3=>3|39=>194|0=>0|53=>209|55=>257|4=>4|46=>250|45=>249|50=>139|5=>5|9=>9|66=>298|70=>302|76=>325|77=>326|n=>n,λ|n=>n⟩
theorem Tryz.sortI152:Go.Proofs.SlLaysF0.n6 Tryz.prog Tryz.sortI152_ren:={mixed:=by kernel_rfl,f6:=⟨Tryz.f236.name,by decide,Tryz.func236.trans (congrArg some (by kernel_rfl))⟩,f14:=⟨Tryz.f287.name,by decide,Tryz.func287.trans (congrArg some (by kernel_rfl))⟩,f15:=Tryz.func143.trans (congrArg some (by kernel_rfl)),f20:=⟨Tryz.f315.name,by decide,Tryz.func315.trans (congrArg some (by kernel_rfl))⟩,f21:=⟨Tryz.f316.name,by decide,Tryz.func316.trans (congrArg some (by kernel_rfl))⟩,f22:=⟨Tryz.f317.name,by decide,Tryz.func317.trans (congrArg some (by kernel_rfl))⟩,f23:=⟨Tryz.f318.name,by decide,Tryz.func318.trans (congrArg some (by kernel_rfl))⟩,f24:=⟨Tryz.f319.name,by decide,Tryz.func319.trans (congrArg some (by kernel_rfl))⟩,f25:=⟨Tryz.f320.name,by decide,Tryz.func320.trans (congrArg some (by kernel_rfl))⟩,f26:=⟨Tryz.f321.name,by decide,Tryz.func321.trans (congrArg some (by kernel_rfl))⟩,f27:=⟨Tryz.f322.name,by decide,Tryz.func322.trans (congrArg some (by kernel_rfl))⟩,f28:=Tryz.func210.trans (congrArg some (by kernel_rfl)),f29:=Tryz.func211.trans (congrArg some (by kernel_rfl)),f46:=⟨Tryz.f343.name,by decide,Tryz.func343.trans (congrArg some (by kernel_rfl))⟩,f47:=Tryz.func275.trans (congrArg some (by kernel_rfl)),f48:=Tryz.func276.trans (congrArg some (by kernel_rfl)),f49:=⟨Tryz.f344.name,by decide,Tryz.func344.trans (congrArg some (by kernel_rfl))⟩,f50:=⟨Tryz.f345.name,by decide,Tryz.func345.trans (congrArg some (by kernel_rfl))⟩,f57:=⟨Tryz.f352.name,by decide,Tryz.func352.trans (congrArg some (by kernel_rfl))⟩,t0:=Tryz.underlying0,a0:=Tryz.isAgg0,z0:=Tryz.sizeOf0,v0:=Tryz.zeroValue0,t3:=Tryz.underlying3,a3:=Tryz.isAgg3,z3:=Tryz.sizeOf3,v3:=Tryz.zeroValue3,t4:=Tryz.underlying4,a4:=Tryz.isAgg4,z4:=Tryz.sizeOf4,v4:=Tryz.zeroValue4,t5:=Tryz.underlying5,a5:=Tryz.isAgg5,z5:=Tryz.sizeOf5,v5:=Tryz.zeroValue5,t9:=Tryz.underlying9,a9:=Tryz.isAgg9,z9:=Tryz.sizeOf9,v9:=Tryz.zeroValue9,t22:=Tryz.underlying62,a22:=Tryz.isAgg62,z22:=Tryz.sizeOf62,v22:=Tryz.zeroValue62,t25:=Tryz.underlying152,a25:=Tryz.isAgg152,z25:=Tryz.sizeOf152,v25:=Tryz.zeroValue152,t39:=Tryz.underlying194,a39:=Tryz.isAgg194,z39:=Tryz.sizeOf194,v39:=Tryz.zeroValue194,t45:=Tryz.underlying249,a45:=Tryz.isAgg249,z45:=Tryz.sizeOf249,v45:=Tryz.zeroValue249,t46:=Tryz.underlying250,a46:=Tryz.isAgg250,z46:=Tryz.sizeOf250,v46:=Tryz.zeroValue250,t50:=Tryz.underlying139,a50:=Tryz.isAgg139,z50:=Tryz.sizeOf139,v50:=Tryz.zeroValue139,t53:=Tryz.underlying209,a53:=Tryz.isAgg209,z53:=Tryz.sizeOf209,v53:=Tryz.zeroValue209,t55:=Tryz.underlying257,a55:=Tryz.isAgg257,z55:=Tryz.sizeOf257,v55:=Tryz.zeroValue257,t66:=Tryz.underlying298,a66:=Tryz.isAgg298,z66:=Tryz.sizeOf298,v66:=Tryz.zeroValue298,t70:=Tryz.underlying302,a70:=Tryz.isAgg302,z70:=Tryz.sizeOf302,v70:=Tryz.zeroValue302,t76:=Tryz.underlying325,a76:=Tryz.isAgg325,z76:=Tryz.sizeOf325,v76:=Tryz.zeroValue325,t77:=Tryz.underlying326,a77:=Tryz.isAgg326,z77:=Tryz.sizeOf326,v77:=Tryz.zeroValue326}
def Tryz.sortD239_ren:Go.Shelf.Ren:=⟨λ|6=>114|15=>143|14=>188|28=>210|29=>211|20=>257|21=>258|22=>259|23=>260|24=>261|25=>262|26=>263|27=>264|46=>302|47=>275|48=>276|49=>303|50=>304|57=>340|n=>n,λ|22=>34|24=>33|25=>132|3=>3|39=>194|0=>0|53=>209|55=>257|4=>4|46=>250|45=>249|50=>139|5=>5|9=>9|66=>298|70=>302|76=>325|77=>326|n=>n,λ|n=>n⟩
theorem Tryz.sortD239:Go.Proofs.SlLaysF0.n6 Tryz.prog Tryz.sortD239_ren:={mixed:=by kernel_rfl,f6:=⟨Tryz.f114.name,by decide,Tryz.func114.trans (congrArg some (by kernel_rfl))⟩,f14:=⟨Tryz.f188.name,by decide,Tryz.func188.trans (congrArg some (by kernel_rfl))⟩,f15:=Tryz.func143.trans (congrArg some (by kernel_rfl)),f20:=⟨Tryz.f257.name,by decide,Tryz.func257.trans (congrArg some (by kernel_rfl))⟩,f21:=⟨Tryz.f258.name,by decide,Tryz.func258.trans (congrArg some (by kernel_rfl))⟩,f22:=⟨Tryz.f259.name,by decide,Tryz.func259.trans (congrArg some (by kernel_rfl))⟩,f23:=⟨Tryz.f260.name,by decide,Tryz.func260.trans (congrArg some (by kernel_rfl))⟩,f24:=⟨Tryz.f261.name,by decide,Tryz.func261.trans (congrArg some (by kernel_rfl))⟩,f25:=⟨Tryz.f262.name,by decide,Tryz.func262.trans (congrArg some (by kernel_rfl))⟩,f26:=⟨Tryz.f263.name,by decide,Tryz.func263.trans (congrArg some (by kernel_rfl))⟩,f27:=⟨Tryz.f264.name,by decide,Tryz.func264.trans (congrArg some (by kernel_rfl))⟩,f28:=Tryz.func210.trans (congrArg some (by kernel_rfl)),f29:=Tryz.func211.trans (congrArg some (by kernel_rfl)),f46:=⟨Tryz.f302.name,by decide,Tryz.func302.trans (congrArg some (by kernel_rfl))⟩,f47:=Tryz.func275.trans (congrArg some (by kernel_rfl)),f48:=Tryz.func276.trans (congrArg some (by kernel_rfl)),f49:=⟨Tryz.f303.name,by decide,Tryz.func303.trans (congrArg some (by kernel_rfl))⟩,f50:=⟨Tryz.f304.name,by decide,Tryz.func304.trans (congrArg some (by kernel_rfl))⟩,f57:=⟨Tryz.f340.name,by decide,Tryz.func340.trans (congrArg some (by kernel_rfl))⟩,t0:=Tryz.underlying0,a0:=Tryz.isAgg0,z0:=Tryz.sizeOf0,v0:=Tryz.zeroValue0,t3:=Tryz.underlying3,a3:=Tryz.isAgg3,z3:=Tryz.sizeOf3,v3:=Tryz.zeroValue3,t4:=Tryz.underlying4,a4:=Tryz.isAgg4,z4:=Tryz.sizeOf4,v4:=Tryz.zeroValue4,t5:=Tryz.underlying5,a5:=Tryz.isAgg5,z5:=Tryz.sizeOf5,v5:=Tryz.zeroValue5,t9:=Tryz.underlying9,a9:=Tryz.isAgg9,z9:=Tryz.sizeOf9,v9:=Tryz.zeroValue9,t22:=Tryz.underlying34,a22:=Tryz.isAgg34,z22:=Tryz.sizeOf34,v22:=Tryz.zeroValue34,t25:=Tryz.underlying132,a25:=Tryz.isAgg132,z25:=Tryz.sizeOf132,v25:=Tryz.zeroValue132,t39:=Tryz.underlying194,a39:=Tryz.isAgg194,z39:=Tryz.sizeOf194,v39:=Tryz.zeroValue194,t45:=Tryz.underlying249,a45:=Tryz.isAgg249,z45:=Tryz.sizeOf249,v45:=Tryz.zeroValue249,t46:=Tryz.underlying250,a46:=Tryz.isAgg250,z46:=Tryz.sizeOf250,v46:=Tryz.zeroValue250,t50:=Tryz.underlying139,a50:=Tryz.isAgg139,z50:=Tryz.sizeOf139,v50:=Tryz.zeroValue139,t53:=Tryz.underlying209,a53:=Tryz.isAgg209,z53:=Tryz.sizeOf209,v53:=Tryz.zeroValue209,t55:=Tryz.underlying257,a55:=Tryz.isAgg257,z55:=Tryz.sizeOf257,v55:=Tryz.zeroValue257,t66:=Tryz.underlying298,a66:=Tryz.isAgg298,z66:=Tryz.sizeOf298,v66:=Tryz.zeroValue298,t70:=Tryz.underlying302,a70:=Tryz.isAgg302,z70:=Tryz.sizeOf302,v70:=Tryz.zeroValue302,t76:=Tryz.underlying325,a76:=Tryz.isAgg325,z76:=Tryz.sizeOf325,v76:=Tryz.zeroValue325,t77:=Tryz.underlying326,a77:=Tryz.isAgg326,z77:=Tryz.sizeOf326,v77:=Tryz.zeroValue326}
end Go.Proofs
open Go Go.Proofs Go.RowKit
namespace Qv
def ajI:List (TypeId×jV):=(87,⟨1,8,.map 33 34,[.map none]⟩)::jE
theorem afh:∀t i,(t,i)∈ajI->gj Tryz.prog t i:=by intro t i h;rcases aL.1 h with h|h;injection h with h1 h2;subst h1;subst h2;exact⟨kK,kK,rfl⟩;exact aaz t i h
noncomputable def CX:Ctx:={C with jE:=ajI,afE:=afh}
theorem qO (e:Extra)(l:List Nat){f:FuncId}{fn:Func}{args:List AV}{R:dJ->Prop}(hf:C.P.funcs[f]?=some fn)(hb:fn.body.isSome=true)(hname:(fn.name== "runtime.NumGoroutine")=false)(hlen:Nat.ble args.length fn.ntmps=true)(h:ev ((CX.cut l).open e) (match fn.body with|some c=>c|none=>.skip) (uU ((CX.cut l).open e) fn.results.toList R) (Bl fn.ntmps args)):av C f args R:=bu (C:=CX) e l hf hb hname hlen h
theorem av.Yl {e:Extra}{l:List Nat}{f:FuncId}{args:List AV}{R:dJ->Prop}(h:av C f args R):av ((CX.cut l).open e) f args R:=h
end Qv
namespace Qv
open Go
def Cy (T:List (List Nat)):Nat->List Nat->List Nat->List Nat|0,_,seen=>seen.reverse|_,[],seen=>seen.reverse|n+1,f::todo,seen=>if seen.contains f then Cy T n todo seen else Cy T n ((T[f]?).getD []++todo) (f::seen)
theorem ab7 {P:Program}{T:List (List Nat)}(hT:P.funcs.toList.map P.leadsTo=T)(f:Nat):(P.funcs[f]?).elim [] P.leadsTo=(T[f]?).getD []:=by subst hT;rw[aM,<-tj];cases P.funcs.toList[f]?<;>rfl
theorem FA {P:Program}{T:List (List Nat)}(hT:P.funcs.toList.map P.leadsTo=T):∀(n:Nat)(todo seen:List Nat),P.closureVia n todo seen=Cy T n todo seen
 |0,todo,seen=>by cases todo<;>rfl
 |n+1,[],seen=>rfl
 |n+1,f::todo,seen=>by show(if seen.contains f then P.closureVia n todo seen else P.closureVia n ((P.funcs[f]?).elim [] P.leadsTo++todo) (f::seen))=if seen.contains f then Cy T n todo seen else Cy T n ((T[f]?).getD []++todo) (f::seen);rw[FA hT n,FA hT n,ab7 hT]
def JM (T:List (List Nat)):Nat->List Nat->List Nat->Nat->List Nat|0,_,seen,_=>seen.reverse|_+1,[],seen,_=>seen.reverse|n+1,f::todo,seen,m=>match Nat.testBit m f with|true=>JM T n todo seen m|false=>JM T n ((T[f]?).getD []++todo) (f::seen) (m|||2^f)
theorem FB (T:List (List Nat)):∀(n:Nat)(todo seen:List Nat)(m:Nat),(∀f,Nat.testBit m f=seen.contains f)->JM T n todo seen m=Cy T n todo seen
 |0,todo,seen,m,_=>by cases todo<;>rfl
 |n+1,[],seen,m,_=>rfl
 |n+1,f::todo,seen,m,h=>by
  have hf:=h f;unfold JM Cy;cases hb:Nat.testBit m f with
  |true=>rw[hb]at hf;rw[ag hf.symm];exact FB T n todo seen m h
  |false=>rw[hb]at hf;rw[af (by rw[<-hf];simp)];refine FB T n _ (f::seen) _ λg=>?_;rw[Nat.testBit_or,Nat.testBit_two_pow,h g,List.contains_cons];by_cases hg:f=g;subst hg;simp;have :¬g=f:=λe=>hg e.symm;simp[hg,this]
theorem Un {P:Program}{T:List (List Nat)}(f:Nat)(L:List Nat)(hT:P.funcs.toList.map P.leadsTo=T)(h:JM T (1+(T.map λl=>l.length+1).sum) [f] [] 0=L):P.closure f=L:=by
 unfold Program.closure;have e:(P.funcs.toList.map λg=>(P.leadsTo g).length+1)=T.map λl=>l.length+1:=by rw[<-hT,fP];rfl
 rw[e,FA hT,<-FB T _ [f] [] 0 (λg=>by simp)];exact h
end Qv
