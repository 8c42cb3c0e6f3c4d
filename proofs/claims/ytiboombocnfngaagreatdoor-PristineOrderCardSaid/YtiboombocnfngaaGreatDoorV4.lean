/- Part 10 of the proof: its lemmas. No condition. -/
import Derived.Test.YtiboombocnfngaaGreatDoorU6
import Derived.Sort.LoopGhostIn
import Derived.Shelf.SlLaysF0
import Derived.Ground.SlsfProg
import Derived.Test.YtiboombocnfngaaGreatDoorProg
set_option maxRecDepth 10000
set_option maxHeartbeats 80000000
set_option linter.all false
namespace Qv
open Go Go.RowKit
theorem bt.weaken {E:Env}{G:bf}{S S':aj}{a:Act}{w:World}(h:bt E G S a w)(hw:cK S S'):bt E G S' a w:=by
 refine⟨h.kept,h.size.trans hw.n.symm,⟨⟨λo l' hl=>?_,h.ext'.mps.loc,h.ext'.mps.inj,λq x hx=>h.ext'.mps.je q x (hw.je q x hx),h.ext'.mps.AG,h.ext'.mps.AH,h.ext'.mps.apart,λo T z k l' b gu es q1 q2 q3 q4 i e p q5 q6 q7=>?_⟩,hw.bK.1.trans h.ext'.lz,λi vals fr h1 h2=>?_,by rw[hw.cF];exact h.ext'.kg,λi k r st h1 h2=>h.ext'.loops i k r st h1 (hw.cF▸h2),h.ext'.lB,h.ext'.yl,h.ext'.mj,h.ext'.marks,h.ext'.Ay⟩,⟨λo bs q=>⟨(hw.cT o bs q).2 (h.iX.at_ o bs (hw.cT o bs q).1).1,(h.iX.at_ o bs (hw.cT o bs q).1).2⟩,h.iX.row,h.iX.di⟩,h.nN,h.fh,λi hi=>hw.tmps i _ _ _ (h.tmps i (hw.n▸hi)),λo ys ho=>?_,h.gG,h.eY,λo t b r h1 h2=>?_,h.fQ,h.er⟩;obtain⟨l,h1,h2,h3⟩:=hw.maps o l' hl;obtain⟨b,gu,es,h4,h5,h6,h7,h8⟩:=h.ext'.mps.at_ o l h1;refine⟨b,gu,es,h4,h5,h6,h7.trans h2,λi e p he hp=>?_⟩;have Eb:i<l.length:=by rw[h2];exact(aJ.1 hp).1
 obtain⟨h9,h10⟩:=h3 i _ p (av Eb) hp;obtain⟨h11,h12⟩:=h8 i e _ he (av Eb);exact⟨h9▸h11,h10 _ _ _ h12⟩;obtain⟨l,h1,h2,h3⟩:=hw.maps o l' q1;have Eb:i<l.length:=by rw[h2];exact(aJ.1 q6).1
 obtain⟨h9,-⟩:=h3 i _ p (av Eb) q6;exact h.ext'.mps.room o T z k l b gu es h1 q2 q3 q4 i e _ q5 (av Eb) (h9▸q7);have hl:i<S.bK.length:=by rw[<-hw.bK.1];exact(aJ.1 h2).1
 obtain⟨h3,h4,h5⟩:=hw.bK.2 i _ fr (av hl) h2;obtain⟨h6,h7⟩:=h.ext'.bK i vals _ h1 (av hl);exact⟨h6.trans h3.symm,λj hj=>h5 j _ _ _ (h7 j (h3▸hj))⟩;obtain⟨xs,h1,h2,h3⟩:=hw.aI o ys ho;obtain⟨b,h4,h5⟩:=h.aI o xs h1;refine⟨b,h4,λi y hy=>?_⟩;have hl:i<xs.length:=by rw[h2];exact(aJ.1 hy).1
 obtain⟨c,h6,h7⟩:=h5 i _ (av hl);exact⟨c,h6,h3 i _ _ (av hl) hy _ _ _ h7⟩;obtain⟨h3,h4,h5⟩:=h.cz o t b r h1 h2;refine⟨h3,?_,λys ho=>?_⟩;cases hb:lT S'.cT o with
 |none=>rfl
 |some bs=>rw[(hw.cT o bs hb).1]at h4;omega
 obtain⟨xs,h6,h7,-⟩:=hw.aI o ys ho;simp_all
def wkY (Y:pH):pH:=λl args K S=>∃T,cK S T/\Y l args (λv S'=>∃T',cK S' T'/\K v T') T
def wkK (K:FV->aj->Prop):FV->aj->Prop:=λv S=>∃T,cK S T/\K v T
def mg (C:Ctx):Nat->iQ|0=>λ_ _ _ _ _=>False|k+1=>λY g args K S=>∃fn,C.P.funcs[g]?=some fn/\fn.body.isSome=true/\(fn.name== "runtime.NumGoroutine")=false/\Nat.ble args.length fn.ntmps=true/\∃T,cK S T/\yc C (mg C k) (wkY Y) (match fn.body with|some c=>c|none=>.skip) (Oz C fn.results.toList (wkK K)) (T.enter fn.ntmps (uA args))
theorem eR.wk {E:Env}{Y:pH}(h:eR E Y):eR E (wkY Y):=by intro mj xs ls fixed G S a w l k args K vals hs hk ⟨T,hw,hY⟩ hlen oC;refine YieldAt.mono (h mj xs ls fixed G T a w l k args _ vals (hs.weaken hw) hk hY hlen oC) ?_;rintro e w' ⟨v,x,G',S',he,⟨T',hw',hK⟩,hs',hr⟩;exact⟨v,x,G',T',he,hK,hs'.weaken hw',hr⟩
theorem Qo (C:Ctx):∀k,mS C (mg C k)
 |0=>λE hC Y g args K G S a w vals hs hY h=>h.elim
 |k+1=>by
  intro E hC Y g args K G S a w vals hs hY h hlen hr;subst hC;obtain⟨fn,hf,hb,hname,hn,T0,hw0,h⟩:=h;replace hs:=hs.weaken hw0;obtain⟨c,hc⟩:=oh.1 hb;rw[hc]at h;refine⟨⟨fn,hf,by simp_all,hname⟩,?_⟩;obtain⟨hsz,ht⟩:=vC (n:=fn.ntmps) hlen (gZ hn) hr;have hs1:=hs.enter (mj:=none) hsz ht (λl h=>by grind);obtain⟨ms,xR,-,-⟩:=hs.ext'.marks;refine callsIn_of_wp_marks hf hc trivial ?_ rfl;have :=tF c (E:=E.push a) (Qo E.C k) hY.wk h ⟨_,hs1⟩;refine wpIn_mono this ?_;have fin:∀{S':aj}{a':Act}{w':World},qL E.C S' fn.results.toList (λvs=>S'.leave (wkK K (JT vs)))->nO (E.push a) S' a' w'->LeavesInM Fence.wide 0 E.C.P fn a'.tmps (λe w'=>∃v x G' S',e=.returned v/\K x S'/\bt E G' S' a w'/\aT G' w' v x) a'.defers .returning w':=λ{S' a' w'} hq ⟨G',hs'⟩=>by obtain⟨ms',hm',-,-⟩:=hs'.ext'.marks;rw[hm'];refine Ae (E:=E.push a) ms' rfl hs' rfl hm' λG2 a2 w2 hs2 ht2 hd2=>?_;obtain⟨vs,xs,r1,r2,r3,r4,r5⟩:=og hs2 _ _ hq;obtain⟨f,r,hf',T,hw,hK⟩:=EA r2;have hlv:=bt.leave (E:=E) (a:=a) (mj:=none) (ms:=ms) hs2 hf' xR hs.ext'.mj;rw[<-ht2];exact⟨_,kU fn a2.tmps E.C.P w2 r1,_,_,G2,_,rfl,hK,hlv.weaken hw,Ad r4 r5⟩
  rintro e a' w' ⟨S',hq,hs'⟩;cases e with
  |normal=>exact fin hq hs'
  |ret=>exact fin hq hs'
  |_=>exact hq.elim
theorem bh.trans {x y z:FV}(h1:bh x y)(h2:bh y z):bh x z:=λG w v h=>h2 G w v (h1 G w v h)
theorem cK.trans {S T U:aj}(h1:cK S T)(h2:cK T U):cK S U:=by
 refine⟨h2.n.trans h1.n,h2.off.trans h1.off,h2.cF.trans h1.cF,λo bs q=>?_,⟨h2.bK.1.trans h1.bK.1,λi f f' q1 q2=>?_⟩,λi=>(h1.tmps i).trans (h2.tmps i),λo zs q=>?_,λo l'' q=>?_,λq x h=>h1.je q x (h2.je q x h)⟩;obtain⟨a1,a2⟩:=h2.cT o bs q;obtain⟨b1,b2⟩:=h1.cT o bs a1;simp_all;have hl:i<T.bK.length:=by rw[h1.bK.1];exact(aJ.1 q1).1
 obtain⟨a1,a2,a3⟩:=h1.bK.2 i f _ q1 (av hl);obtain⟨b1,b2,b3⟩:=h2.bK.2 i _ f' (av hl) q2;exact⟨b1.trans a1,b2.trans a2,λj=>(a3 j).trans (b3 j)⟩;obtain⟨ys,a1,a2,a3⟩:=h2.aI o zs q;obtain⟨xs,b1,b2,b3⟩:=h1.aI o ys a1;refine⟨xs,b1,b2.trans a2,λi x z c1 c2=>?_⟩;have hl:i<ys.length:=by rw[<-b2];exact(aJ.1 c1).1
 exact(b3 i x _ c1 (av hl)).trans (a3 i _ z (av hl) c2);obtain⟨l',a1,a2,a3⟩:=h2.maps o l'' q;obtain⟨l,b1,b2,b3⟩:=h1.maps o l' a1;refine⟨l,b1,b2.trans a2,λi x z c1 c2=>?_⟩;have hl:i<l'.length:=by rw[<-b2];exact(aJ.1 c1).1
 obtain⟨d1,d2⟩:=b3 i x _ c1 (av hl);obtain⟨e1,e2⟩:=a3 i _ z (av hl) c2;exact⟨e1.trans d1,d2.trans e2⟩
theorem Jb {C:Ctx}{k:Nat}{Y:pH}{g:FuncId}{args:List FV}{K:FV->aj->Prop}{S T:aj}(hw:cK S T)(h:mg C k Y g args K T):mg C k Y g args K S:=by
 cases k with
 |zero=>exact h
 |succ k=>obtain⟨fn,h1,h2,h3,h4,U,h5,h6⟩:=h;exact⟨fn,h1,h2,h3,h4,U,hw.trans h5,h6⟩
theorem Gs {C:Ctx}{f:FuncId}{fn:Func}{c:Code}{args:List AV}{R:dx->Prop}(hf:C.P.funcs[f]?=some fn)(hb:fn.body=some c)(hname:(fn.name== "runtime.NumGoroutine")=false)(hlen:args.length<=fn.ntmps)(h:yc C (mg C 6) tM c (uB C fn.results.toList R) (AF fn.ntmps args)):aq C f args R:=xS (Qo C 6) hf hb hname hlen h
theorem zu {C:Ctx}(e:Extra)(l:List Nat){f:FuncId}{fn:Func}{args:List AV}{R:dx->Prop}(hf:C.P.funcs[f]?=some fn)(hb:fn.body.isSome=true)(hname:(fn.name== "runtime.NumGoroutine")=false)(hlen:Nat.ble args.length fn.ntmps=true)(h:yc ((C.cut l).open e) (mg ((C.cut l).open e) 6) tM (match fn.body with|some c=>c|none=>.skip) (uB ((C.cut l).open e) fn.results.toList R) (AF fn.ntmps args)):aq C f args R:=by obtain⟨c,hc⟩:=oh.1 hb;rw[hc]at h;exact Gs (C:=(C.cut l).open e) hf hc hname (gZ hlen) h
end Qv
namespace Qv
open Go Go.RowKit
variable {E:Env}{G:bf}{S:aj}{a:Act}{w:World}
theorem dA.unit {bk uo:Nat->Nat->Prop}{w:World}{v:Value}(h:dA bk w v (.eW [])):dA uo w v (.eW []):=by
 cases h with
 |eW cs xs hl hall=>exact .eW cs [] hl λi c x h1 h2=>by simp at h2
def Aj (C:Ctx)(rs:List ResultVar)(bs':List UInt8)(S:aj):Prop:=qL C S rs λvs=>(JT vs).eG=some (.eW [])/\lT S.cT 999999=some bs'
def Qx (C:Ctx)(rs:List ResultVar)(bs':List UInt8):Exit->aj->Prop|.normal,S=>Aj C rs bs' S|.ret,S=>Aj C rs bs' S|_,_=>False
theorem ND {C:Ctx}{f:FuncId}{fn:Func}{c:Code}{args:List AV}{bs bs':List UInt8}(hf:C.P.funcs[f]?=some fn)(hb:fn.body=some c)(hname:(fn.name== "runtime.NumGoroutine")=false)(hlen:args.length+1<=fn.ntmps)(h:ev C c (Qx C fn.results.toList bs') (Ui fn.ntmps bs args)):vn C f args bs (some bs') (.eW []):=by
 refine⟨⟨fn,hf,by rw[hb];rfl,hname⟩,λbk w b row vs hJ hn hi hbn hrn hbi hri rQ hl hr=>?_⟩;obtain⟨p0,v0,hp0,hbk,hrow⟩:=rQ;have rQ:yh C w b row bs:=⟨p0,v0,hp0,hbk,hrow⟩;have ac2:=(bq.1 hbk).1;have UO:∀r,row=some r->b≠r/\r<w.heap.size/\∃cs T fr,w.heap[r]?=some (.cells cs T fr):=λr hr=>by subst hr;obtain⟨h1,cap,cur,h2,h3,-⟩:=hrow;exact⟨h1,(bq.1 h3).1,_,_,_,h3⟩
 have hown:∀k,k∈b::row.toList->C.mV<=k/\k<w.heap.size/\∀o,¬bk k o:=λk hk=>by
  rcases aK.1 hk with rfl|hk;exact⟨hbn,ac2,hbi⟩;have hk:row=some k:=by
   cases row with
   |none=>simp at hk
   |some r=>simp at hk;rw[hk]
  exact⟨hrn k hk,(UO k hk).2.1,λo=>hri k o hk⟩
 let E:Env:={C:=C,w0:=w,Ek:=bk,hJ:=hJ.1,hn:=hn,mj:=none,bK:=[],loops:=[],fixed:=[],own:=b::row.toList,hown:=hown,rP:=[(999999,b)],rows:=row.toList,Co:=λp hp=>⟨by rw[aP.1 hp];exact .head _,by rw[aP.1 hp];intro q;exact(UO b (by simpa using q)).1 rfl⟩,hrows:=λr hr=>.tail _ hr};let G0:bf:=⟨bk,λo=>if o=999999 then some b else none,λ_=>none,λ_=>none,λo=>if o=999999 then row else none,λ_=>none,λ_=>none⟩;have oC:∀(i:Nat)(v:Value)(x:FV),(Value.pointer (some ⟨b,0,none⟩)::vs)[i]?=some v->(FV.ptr 999999 0::aG args)[i]?=some x->aT G0 w v x:=λi v x h1 h2=>by
  cases i with
  |zero=>simp at h1 h2;subst h1;subst h2;exact .ptr _ _ _ rfl
  |succ i=>
   simp only[nT,eN,aN]at h1 h2;cases hq:args[i]?with
   |none=>simp[hq]at h2
   |some y=>simp[hq]at h2;subst h2;exact .p _ _ (hr i v y h1 hq)
 obtain⟨hsz,ht⟩:=vC (n:=fn.ntmps) (vals:=Value.pointer (some ⟨b,0,none⟩)::vs) (args:=FV.ptr 999999 0::aG args) (by simp[eN,hl]) (by simp[eN];omega) oC;have hG:∀o b2,G0.loc o=some b2->o=999999/\b2=b:=λo b2 h=>by simp only[G0]at h;split at h;rename_i e;exact⟨e,(au h).symm⟩;cases h
 have hR:∀o r,G0.row o=some r->o=999999/\row=some r:=λo r h=>by simp only[G0]at h;split at h;rename_i e;exact⟨e,h⟩;cases h
 have hs:bt E G0 (Ui fn.ntmps bs args) {tmps:=(Value.pointer (some ⟨b,0,none⟩)::vs).toArray++Array.replicate (fn.ntmps-(Value.pointer (some ⟨b,0,none⟩)::vs).toArray.size) undef,defers:=[]} w:=by refine⟨⟨rfl,rfl,rfl,aA _,λ_ _ _=>rfl,λk cs T fr _ q=>⟨cs,q,rfl⟩⟩,hsz,⟨⟨(λo l h=>by cases h),(λo b h=>by cases h),(λo o' b h=>by cases h),(λq x h=>by cases h),(λq r h=>by cases h),(λq q' r h=>by cases h),(λo o' b h=>by cases h),(λo T z k l b gu es h=>by cases h)⟩,rfl,λi vs fr h=>by simp[E]at h,rfl,λi k r st h=>by simp[E]at h,λi j k r r' h=>by simp[E]at h,λi k r h=>by simp[E]at h,λl h=>by simp[E]at h,⟨[],rfl,by simp[E],by simp[E]⟩,hJ.2⟩,⟨λo bs2 h=>?_,λo r h=>?_,λo r h=>?_⟩,λb o h=>.inl h,hi,λi hi'=>ht i hi',(λo cs ho=>by cases ho),(λo b2 h=>?_),(λo o' b2 h h'=>?_),(λo t b r _ h=>by cases h),(λt b s e T h=>by cases h),(λt t' b r r' h=>by cases h)⟩;simp only[Ui,lT]at h;split at h;rename_i hq;obtain rfl:=aM hq;obtain rfl:=au h;exact⟨rfl,b,rfl,rQ⟩;cases h;obtain⟨rfl,h⟩:=hR o r h;obtain⟨h1,h2,h3⟩:=UO r h;refine⟨.inr ⟨rfl,Option.mem_toList.2 h⟩,h2,λi=>hri r i h,λo' h'=>h1 (hG o' r h').2.symm,λt q h'=>(by cases h'),λo' h'=>(hR o' r h').1⟩;obtain⟨rfl,h⟩:=hR o r h;exact(UO r h).2.2;obtain⟨rfl,rfl⟩:=hG o b2 h;exact⟨ac2,.inr ⟨rfl,.head _⟩,λi=>⟨hbi i,by simp[World.frozen?,hbk]⟩⟩;exact(hG o b2 h).1.trans (hG o' b2 h').1.symm
 refine(callsIn_wide (n:=0)).1 (callsIn_of_wp_marks hf hb trivial ?_ rfl);refine wpIn_mono (tF c (E:=E) (yW C 6) (uI E) h ⟨_,hs⟩) ?_;have fin:∀{S':aj}{a':Act}{w':World},Aj C fn.results.toList bs' S'->nO E S' a' w'->LeavesInM Fence.wide 0 C.P fn a'.tmps (λe w'=>∃v,e=.returned v/\dA (λ_ _=>False) w' v (.eW [])/\(∃row',yh C w' b row' bs'/\(row'=row\/row'=none\/∃x,row'=some x/\w.heap.size<=x))/\w'.os=w.os/\w'.tape=w.tape/\w'.output=w.output/\w.heap.size<=w'.heap.size/\∀k,k<w.heap.size->k≠b->row≠some k->w'.heap[k]?=w.heap[k]?) a'.defers .returning w':=λ{S' a' w'} hq ⟨G',hs'⟩=>by
  obtain⟨ms',hm',-,-⟩:=hs'.ext'.marks;rw[hm'];refine Ae (E:=E) ms' rfl hs' rfl hm' λG2 a2 w2 hs2 ht2 hd2=>?_;unfold Aj at hq;obtain⟨vs,xs,r1,⟨r2,r7⟩,r3,r4,r5⟩:=og hs2 _ _ hq;rw[<-ht2];obtain⟨-,b2,g1,g2⟩:=hs2.iX.at_ 999999 bs' r7;obtain rfl:b2=b:=Env.OD (E:=E) (hs2.gG _ _ g1).2.1 rfl;refine⟨_,kU fn a2.tmps E.C.P w2 r1,_,rfl,((Ad r4 r5).eG r2).unit,⟨_,g2,?_⟩,hs2.kept.os,hs2.kept.tape,hs2.kept.output,hs2.kept.size,λk hk hkb hkr=>hs2.kept.block k hk (λhm=>?_)⟩;cases hq2:G2.row 999999 with
  |none=>exact .inr (.inl rfl)
  |some x=>
   rcases(hs2.iX.row _ x hq2).1 with h|h;exact .inr (.inr ⟨x,rfl,h⟩);left;have hm:x∈row.toList:=h.2;cases row with
   |none=>simp at hm
   |some r=>simp at hm;rw[hm]
  rcases aK.1 hm with rfl|hm;exact hkb rfl;cases row with
  |none=>simp at hm
  |some r=>simp at hm;exact hkr (by rw[hm])
 rintro e a' w' ⟨S',hq,hs'⟩;cases e with
 |normal=>exact fin hq hs'
 |ret=>exact fin hq hs'
 |_=>exact hq.elim
theorem AY {C:Ctx}(e:Extra)(l:List Nat){f:FuncId}{fn:Func}{args:List AV}{bs bs':List UInt8}(hf:C.P.funcs[f]?=some fn)(hb:fn.body.isSome=true)(hname:(fn.name== "runtime.NumGoroutine")=false)(hlen:Nat.ble (args.length+1) fn.ntmps=true)(h:ev ((C.cut l).open e) (match fn.body with|some c=>c|none=>.skip) (Qx ((C.cut l).open e) fn.results.toList bs') (Ui fn.ntmps bs args)):vn C f args bs (some bs') (.eW []):=by obtain⟨c,hc⟩:=oh.1 hb;rw[hc]at h;exact ND (C:=(C.cut l).open e) hf hc hname (gZ hlen) h
end Qv
namespace Go.Proofs
open Go.Shelf
def Tryz.sortI152_ren:Go.Shelf.Ren:=⟨λ|6=>236|15=>143|14=>287|28=>210|29=>211|20=>315|21=>316|22=>317|23=>318|24=>319|25=>320|26=>321|27=>322|46=>343|47=>275|48=>276|49=>344|50=>345|57=>352|n=>n,λ|22=>62|24=>54|25=>152|3=>3|39=>194|0=>0|53=>209|55=>257|4=>4|46=>250|45=>249|50=>139|5=>5|9=>9|66=>298|70=>302|76=>325|77=>326|n=>n,λ|n=>n⟩
theorem Tryz.sortI152:Go.Proofs.SlLaysF0.n6 Tryz.prog Tryz.sortI152_ren:={mixed:=by kernel_rfl,f6:=⟨Tryz.f236.name,by decide,Tryz.func236.trans (congrArg some (by kernel_rfl))⟩,f14:=⟨Tryz.f287.name,by decide,Tryz.func287.trans (congrArg some (by kernel_rfl))⟩,f15:=Tryz.func143.trans (congrArg some (by kernel_rfl)),f20:=⟨Tryz.f315.name,by decide,Tryz.func315.trans (congrArg some (by kernel_rfl))⟩,f21:=⟨Tryz.f316.name,by decide,Tryz.func316.trans (congrArg some (by kernel_rfl))⟩,f22:=⟨Tryz.f317.name,by decide,Tryz.func317.trans (congrArg some (by kernel_rfl))⟩,f23:=⟨Tryz.f318.name,by decide,Tryz.func318.trans (congrArg some (by kernel_rfl))⟩,f24:=⟨Tryz.f319.name,by decide,Tryz.func319.trans (congrArg some (by kernel_rfl))⟩,f25:=⟨Tryz.f320.name,by decide,Tryz.func320.trans (congrArg some (by kernel_rfl))⟩,f26:=⟨Tryz.f321.name,by decide,Tryz.func321.trans (congrArg some (by kernel_rfl))⟩,f27:=⟨Tryz.f322.name,by decide,Tryz.func322.trans (congrArg some (by kernel_rfl))⟩,f28:=Tryz.func210.trans (congrArg some (by kernel_rfl)),f29:=Tryz.func211.trans (congrArg some (by kernel_rfl)),f46:=⟨Tryz.f343.name,by decide,Tryz.func343.trans (congrArg some (by kernel_rfl))⟩,f47:=Tryz.func275.trans (congrArg some (by kernel_rfl)),f48:=Tryz.func276.trans (congrArg some (by kernel_rfl)),f49:=⟨Tryz.f344.name,by decide,Tryz.func344.trans (congrArg some (by kernel_rfl))⟩,f50:=⟨Tryz.f345.name,by decide,Tryz.func345.trans (congrArg some (by kernel_rfl))⟩,f57:=⟨Tryz.f352.name,by decide,Tryz.func352.trans (congrArg some (by kernel_rfl))⟩,t0:=Tryz.underlying0,a0:=Tryz.isAgg0,z0:=Tryz.sizeOf0,v0:=Tryz.zeroValue0,t3:=Tryz.underlying3,a3:=Tryz.isAgg3,z3:=Tryz.sizeOf3,v3:=Tryz.zeroValue3,t4:=Tryz.underlying4,a4:=Tryz.isAgg4,z4:=Tryz.sizeOf4,v4:=Tryz.zeroValue4,t5:=Tryz.underlying5,a5:=Tryz.isAgg5,z5:=Tryz.sizeOf5,v5:=Tryz.zeroValue5,t9:=Tryz.underlying9,a9:=Tryz.isAgg9,z9:=Tryz.sizeOf9,v9:=Tryz.zeroValue9,t22:=Tryz.underlying62,a22:=Tryz.isAgg62,z22:=Tryz.sizeOf62,v22:=Tryz.zeroValue62,t25:=Tryz.underlying152,a25:=Tryz.isAgg152,z25:=Tryz.sizeOf152,v25:=Tryz.zeroValue152,t39:=Tryz.underlying194,a39:=Tryz.isAgg194,z39:=Tryz.sizeOf194,v39:=Tryz.zeroValue194,t45:=Tryz.underlying249,a45:=Tryz.isAgg249,z45:=Tryz.sizeOf249,v45:=Tryz.zeroValue249,t46:=Tryz.underlying250,a46:=Tryz.isAgg250,z46:=Tryz.sizeOf250,v46:=Tryz.zeroValue250,t50:=Tryz.underlying139,a50:=Tryz.isAgg139,z50:=Tryz.sizeOf139,v50:=Tryz.zeroValue139,t53:=Tryz.underlying209,a53:=Tryz.isAgg209,z53:=Tryz.sizeOf209,v53:=Tryz.zeroValue209,t55:=Tryz.underlying257,a55:=Tryz.isAgg257,z55:=Tryz.sizeOf257,v55:=Tryz.zeroValue257,t66:=Tryz.underlying298,a66:=Tryz.isAgg298,z66:=Tryz.sizeOf298,v66:=Tryz.zeroValue298,t70:=Tryz.underlying302,a70:=Tryz.isAgg302,z70:=Tryz.sizeOf302,v70:=Tryz.zeroValue302,t76:=Tryz.underlying325,a76:=Tryz.isAgg325,z76:=Tryz.sizeOf325,v76:=Tryz.zeroValue325,t77:=Tryz.underlying326,a77:=Tryz.isAgg326,z77:=Tryz.sizeOf326,v77:=Tryz.zeroValue326}
def Tryz.sortD239_ren:Go.Shelf.Ren:=⟨λ|6=>114|15=>143|14=>188|28=>210|29=>211|20=>257|21=>258|22=>259|23=>260|24=>261|25=>262|26=>263|27=>264|46=>302|47=>275|48=>276|49=>303|50=>304|57=>340|n=>n,λ|22=>34|24=>33|25=>132|3=>3|39=>194|0=>0|53=>209|55=>257|4=>4|46=>250|45=>249|50=>139|5=>5|9=>9|66=>298|70=>302|76=>325|77=>326|n=>n,λ|n=>n⟩
theorem Tryz.sortD239:Go.Proofs.SlLaysF0.n6 Tryz.prog Tryz.sortD239_ren:={mixed:=by kernel_rfl,f6:=⟨Tryz.f114.name,by decide,Tryz.func114.trans (congrArg some (by kernel_rfl))⟩,f14:=⟨Tryz.f188.name,by decide,Tryz.func188.trans (congrArg some (by kernel_rfl))⟩,f15:=Tryz.func143.trans (congrArg some (by kernel_rfl)),f20:=⟨Tryz.f257.name,by decide,Tryz.func257.trans (congrArg some (by kernel_rfl))⟩,f21:=⟨Tryz.f258.name,by decide,Tryz.func258.trans (congrArg some (by kernel_rfl))⟩,f22:=⟨Tryz.f259.name,by decide,Tryz.func259.trans (congrArg some (by kernel_rfl))⟩,f23:=⟨Tryz.f260.name,by decide,Tryz.func260.trans (congrArg some (by kernel_rfl))⟩,f24:=⟨Tryz.f261.name,by decide,Tryz.func261.trans (congrArg some (by kernel_rfl))⟩,f25:=⟨Tryz.f262.name,by decide,Tryz.func262.trans (congrArg some (by kernel_rfl))⟩,f26:=⟨Tryz.f263.name,by decide,Tryz.func263.trans (congrArg some (by kernel_rfl))⟩,f27:=⟨Tryz.f264.name,by decide,Tryz.func264.trans (congrArg some (by kernel_rfl))⟩,f28:=Tryz.func210.trans (congrArg some (by kernel_rfl)),f29:=Tryz.func211.trans (congrArg some (by kernel_rfl)),f46:=⟨Tryz.f302.name,by decide,Tryz.func302.trans (congrArg some (by kernel_rfl))⟩,f47:=Tryz.func275.trans (congrArg some (by kernel_rfl)),f48:=Tryz.func276.trans (congrArg some (by kernel_rfl)),f49:=⟨Tryz.f303.name,by decide,Tryz.func303.trans (congrArg some (by kernel_rfl))⟩,f50:=⟨Tryz.f304.name,by decide,Tryz.func304.trans (congrArg some (by kernel_rfl))⟩,f57:=⟨Tryz.f340.name,by decide,Tryz.func340.trans (congrArg some (by kernel_rfl))⟩,t0:=Tryz.underlying0,a0:=Tryz.isAgg0,z0:=Tryz.sizeOf0,v0:=Tryz.zeroValue0,t3:=Tryz.underlying3,a3:=Tryz.isAgg3,z3:=Tryz.sizeOf3,v3:=Tryz.zeroValue3,t4:=Tryz.underlying4,a4:=Tryz.isAgg4,z4:=Tryz.sizeOf4,v4:=Tryz.zeroValue4,t5:=Tryz.underlying5,a5:=Tryz.isAgg5,z5:=Tryz.sizeOf5,v5:=Tryz.zeroValue5,t9:=Tryz.underlying9,a9:=Tryz.isAgg9,z9:=Tryz.sizeOf9,v9:=Tryz.zeroValue9,t22:=Tryz.underlying34,a22:=Tryz.isAgg34,z22:=Tryz.sizeOf34,v22:=Tryz.zeroValue34,t25:=Tryz.underlying132,a25:=Tryz.isAgg132,z25:=Tryz.sizeOf132,v25:=Tryz.zeroValue132,t39:=Tryz.underlying194,a39:=Tryz.isAgg194,z39:=Tryz.sizeOf194,v39:=Tryz.zeroValue194,t45:=Tryz.underlying249,a45:=Tryz.isAgg249,z45:=Tryz.sizeOf249,v45:=Tryz.zeroValue249,t46:=Tryz.underlying250,a46:=Tryz.isAgg250,z46:=Tryz.sizeOf250,v46:=Tryz.zeroValue250,t50:=Tryz.underlying139,a50:=Tryz.isAgg139,z50:=Tryz.sizeOf139,v50:=Tryz.zeroValue139,t53:=Tryz.underlying209,a53:=Tryz.isAgg209,z53:=Tryz.sizeOf209,v53:=Tryz.zeroValue209,t55:=Tryz.underlying257,a55:=Tryz.isAgg257,z55:=Tryz.sizeOf257,v55:=Tryz.zeroValue257,t66:=Tryz.underlying298,a66:=Tryz.isAgg298,z66:=Tryz.sizeOf298,v66:=Tryz.zeroValue298,t70:=Tryz.underlying302,a70:=Tryz.isAgg302,z70:=Tryz.sizeOf302,v70:=Tryz.zeroValue302,t76:=Tryz.underlying325,a76:=Tryz.isAgg325,z76:=Tryz.sizeOf325,v76:=Tryz.zeroValue325,t77:=Tryz.underlying326,a77:=Tryz.isAgg326,z77:=Tryz.sizeOf326,v77:=Tryz.zeroValue326}
end Go.Proofs
open Go Go.Proofs Go.RowKit
namespace Qv
def oR {α:Type}(p:α->Bool):List α->Nat->Int|[],_=>-1|x::l,i=>if p x=true then(i:Int)else oR p l (i+1)
theorem rA {α:Type}{p:α->Bool}{l:List α}{k:Nat}(h:k<l.length):oR p (l.drop k) k=if p l[k]=true then(k:Int)else oR p (l.drop (k+1)) (k+1):=by rw[bZ h];rfl
theorem Am {α:Type}(p:α->Bool):∀(l:List α)(i:Nat),(oR p l i=-1/\l.find? p=none)\/∃k,∃h:k<l.length,oR p l i=((i+k:Nat):Int)/\l.find? p=some l[k]
 |[],i=>.inl ⟨rfl,rfl⟩
 |x::l,i=>by
  unfold oR;cases hp:p x with
  |true=>exact .inr ⟨0,by simp,by rw[ag rfl];rfl,by simp[hp]⟩
  |false=>rw[af dD];rcases Am p l (i+1)with⟨h1,h2⟩|⟨k,hk,h1,h2⟩;exact .inl ⟨h1,by rw[kO,hp];exact h2⟩;exact .inr ⟨k+1,by simpa using hk,by rw[h1];congr 1;omega,by rw[kO,hp];simpa using h2⟩
theorem rW {α:Type}(p:α->Bool)(l:List α):decide (0<=oR p l 0)=l.any p:=by
 rcases Am p l 0 with⟨h1,h2⟩|⟨k,hk,h1,h2⟩;rw[h1];have :l.any p=false:=by rw[xB]at h2;rw[qw];exactλx hx=>h2 x hx
 rw[this];rfl;rw[h1];have :l.any p=true:=fc.2 ⟨l[k],aO hk,mG h2⟩;rw[this];exact an (Dm _)
theorem Tm (l:List cL)(g:FuncId)(c1:AV)(p:cL->Bool)(hp:∀x,x∈l->aq C g [.agg (fU x),c1] (λr=>r=.val (.bool (p x))))(hl:l.length<=2^47):aq C 104 [.sl (l.map fU),.fn (.func g) [] [c1]] (λr=>r=.val (.int .i64 (oR p l 0))):=by
 refine ai Tryz.func104 rfl rfl rfl ?_;refine bJ 19 (λk:Nat=>[(0,.p (.sl (l.map fU))),(1,.p (.fn (.func g) [] [c1])),(7,.p (.int .i64 ((l.map fU).length:Int))),(8,.p (.int .i64 k))]) (λ_=>[]) (λk=>k<=l.length/\oR p l 0=oR p (l.drop k) k) (λk=>l.length-k) 0 ⟨zL,rfl⟩ rfl wS trivial ?_;rintro k ⟨hk,hE⟩;refine cg (l:=l) (f:=fU) (λhlt=>?_) (λhge=>?_);rw[rA hlt]at hE;refine ix hlt ?_;refine cl (hp l[k] (aO _)) ?_;cases hq:p l[k]with
 |true=>rw[hq,ag rfl]at hE;rw[hE];exact rfl
 |false=>rw[hq,af dD]at hE;exact nx (k+1) (aQ (k+1) ⟨hlt,hE⟩ oO rfl wS trivial)
 rw[cV oO]at hE;rw[hE];exact rfl
theorem Tn (l:List cL)(g:FuncId)(c1 c2:AV)(p:cL->Bool)(hp:∀x,x∈l->aq C g [.agg (fU x),c1,c2] (λr=>r=.val (.bool (p x))))(hl:l.length<=2^47):aq C 104 [.sl (l.map fU),.fn (.func g) [] [c1,c2]] (λr=>r=.val (.int .i64 (oR p l 0))):=by
 refine ai Tryz.func104 rfl rfl rfl ?_;refine bJ 19 (λk:Nat=>[(0,.p (.sl (l.map fU))),(1,.p (.fn (.func g) [] [c1,c2])),(7,.p (.int .i64 ((l.map fU).length:Int))),(8,.p (.int .i64 k))]) (λ_=>[]) (λk=>k<=l.length/\oR p l 0=oR p (l.drop k) k) (λk=>l.length-k) 0 ⟨zL,rfl⟩ rfl wS trivial ?_;rintro k ⟨hk,hE⟩;refine cg (l:=l) (f:=fU) (λhlt=>?_) (λhge=>?_);rw[rA hlt]at hE;refine ix hlt ?_;refine cl (hp l[k] (aO _)) ?_;cases hq:p l[k]with
 |true=>rw[hq,ag rfl]at hE;rw[hE];exact rfl
 |false=>rw[hq,af dD]at hE;exact nx (k+1) (aQ (k+1) ⟨hlt,hE⟩ oO rfl wS trivial)
 rw[cV oO]at hE;rw[hE];exact rfl
theorem To (l:List Dg)(g:FuncId)(c1:AV)(p:Dg->Bool)(hp:∀x,x∈l->aq C g [.agg (cD x),c1] (λr=>r=.val (.bool (p x))))(hl:l.length<=2^47):aq C 109 [.sl (l.map cD),.fn (.func g) [] [c1]] (λr=>r=.val (.int .i64 (oR p l 0))):=by
 refine ai Tryz.func109 rfl rfl rfl ?_;refine bJ 19 (λk:Nat=>[(0,.p (.sl (l.map cD))),(1,.p (.fn (.func g) [] [c1])),(7,.p (.int .i64 ((l.map cD).length:Int))),(8,.p (.int .i64 k))]) (λ_=>[]) (λk=>k<=l.length/\oR p l 0=oR p (l.drop k) k) (λk=>l.length-k) 0 ⟨zL,rfl⟩ rfl wS trivial ?_;rintro k ⟨hk,hE⟩;refine cg (l:=l) (f:=cD) (λhlt=>?_) (λhge=>?_);rw[rA hlt]at hE;refine ix hlt ?_;refine cl (hp l[k] (aO _)) ?_;cases hq:p l[k]with
 |true=>rw[hq,ag rfl]at hE;rw[hE];exact rfl
 |false=>rw[hq,af dD]at hE;exact nx (k+1) (aQ (k+1) ⟨hlt,hE⟩ oO rfl wS trivial)
 rw[cV oO]at hE;rw[hE];exact rfl
theorem Jm (l:List Dg)(g:FuncId)(c1:AV)(p:Dg->Bool)(hp:∀x,x∈l->aq C g [.agg (cD x),c1] (λr=>r=.val (.bool (p x))))(hl:l.length<=2^47):aq C 44 [.sl (l.map cD),.fn (.func g) [] [c1]] (λr=>r=.val (.bool (l.any p))):=by refine ai Tryz.func44 rfl rfl rfl ?_;refine cl (To l g c1 p hp hl) ?_;rw[<-rW p l];exact⟨λb hb=>by subst hb;rfl⟩
theorem QI (l:List Dg)(d:Dg)(hl:l.length<=2^47):aq C 138 [.sl (jW l),.agg (cD d)] (λr=>r=.val (.int .i64 (oR (λx=>decide (d=x)) l 0))):=by unfold jW;refine ai Tryz.func138 rfl rfl rfl ?_;refine bJ 19 (λk:Nat=>[(0,.p (.sl (l.map cD))),(3,.ptr 3 0),(7,.p (.int .i64 ((l.map cD).length:Int))),(8,.p (.int .i64 k))]) (λ_=>[(3,aG (cD d))]) (λk=>k<=l.length/\oR (λx=>decide (d=x)) l 0=oR (λx=>decide (d=x)) (l.drop k) k) (λk=>l.length-k) 0 ⟨zL,rfl⟩ rfl wS oS ?_;rintro k ⟨hk,hE⟩;refine cg (l:=l) (f:=cD) (λhlt=>?_) (λhge=>?_);rw[rA hlt]at hE;refine bW 6 kK ?_;refine ix hlt ?_;refine⟨qC,bY,lC,rfl,rfl,?_⟩;refine By (a:=d) (b:=l[k]) ?_;by_cases hq:d=l[k];rw[an hq];rw[ag (an hq)]at hE;rw[hE];exact rfl;rw[ak hq];rw[af (by rw[ak hq];decide)]at hE;exact nx (k+1) (aQ (k+1) ⟨hlt,hE⟩ oO rfl wS oS);rw[cV oO]at hE;rw[hE];exact rfl
theorem zD (l:List Dg)(d:Dg)(hl:l.length<=2^47):aq C 62 [.sl (jW l),.agg (cD d)] (λr=>r=.val (.bool (decide (d∈l)))):=by
 refine ai Tryz.func62 rfl rfl rfl ?_;refine cl (QI l d hl) ?_;have e:decide (d∈l)=decide (0<=oR (λx=>decide (d=x)) l 0):=by rw[rW];by_cases h:d∈l;rw[an h];exact(fc.2 ⟨d,h,by simp⟩).symm;rw[ak h];refine(qw.2 λx hx=>?_).symm;intro g;exact h (kM g▸hx)
 rw[e];exact⟨λb hb=>by subst hb;rfl⟩
theorem Xg (x:cL)(d:Dg):aq C 105 [.agg (fU x),.imp (cD d)] (λr=>r=.val (.bool (decide (x.id=d)))):=by refine ai Tryz.func105 rfl rfl rfl ?_;refine⟨qC,bY,lC,rfl,rfl,?_⟩;refine By (a:=x.id) (b:=d) ?_;exact rfl
theorem Rx (l:List bV)(d:bV)(hl:l.length<=2^47):aq C 106 [.sl (oF l),.agg (cI d)] (λr=>r=.val (.int .i64 (oR (λx=>decide (d=x)) l 0))):=by unfold oF;refine ai Tryz.func106 rfl rfl rfl ?_;refine bJ 19 (λk:Nat=>[(0,.p (.sl (l.map cI))),(3,.ptr 3 0),(7,.p (.int .i64 ((l.map cI).length:Int))),(8,.p (.int .i64 k))]) (λ_=>[(3,aG (cI d))]) (λk=>k<=l.length/\oR (λx=>decide (d=x)) l 0=oR (λx=>decide (d=x)) (l.drop k) k) (λk=>l.length-k) 0 ⟨zL,rfl⟩ rfl wS oS ?_;rintro k ⟨hk,hE⟩;refine cg (l:=l) (f:=cI) (λhlt=>?_) (λhge=>?_);rw[rA hlt]at hE;refine bW 6 kK ?_;refine ix hlt ?_;refine qT ?_;refine jC (a:=d) (b:=l[k]) ?_;by_cases hq:d=l[k];rw[an hq];rw[ag (an hq)]at hE;rw[hE];exact rfl;rw[ak hq];rw[af (by rw[ak hq];decide)]at hE;exact nx (k+1) (aQ (k+1) ⟨hlt,hE⟩ oO rfl wS oS);rw[cV oO]at hE;rw[hE];exact rfl
theorem KC (l:List bV)(d:bV)(hl:l.length<=2^47):aq C 40 [.sl (oF l),.agg (cI d)] (λr=>r=.val (.bool (decide (d∈l)))):=by
 refine ai Tryz.func40 rfl rfl rfl ?_;refine cl (Rx l d hl) ?_;have e:decide (d∈l)=decide (0<=oR (λx=>decide (d=x)) l 0):=by rw[rW];by_cases h:d∈l;rw[an h];exact(fc.2 ⟨d,h,by simp⟩).symm;rw[ak h];refine(qw.2 λx hx=>?_).symm;intro g;exact h (kM g▸hx)
 rw[e];exact⟨λb hb=>by subst hb;rfl⟩
end Qv
