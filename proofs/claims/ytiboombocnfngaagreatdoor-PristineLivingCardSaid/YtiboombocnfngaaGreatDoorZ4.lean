/- Part 10 of the proof: its lemmas. No condition. -/
import Derived.Test.YtiboombocnfngaaGreatDoorY1
import Derived.Test.YtiboombocnfngaaGreatDoorY6
import Derived.Sort.LoopGhostIn
import Derived.Shelf.SlLaysF0
import Derived.Ground.SlsfProg
import Derived.Test.YtiboombocnfngaaGreatDoorProg
set_option maxRecDepth 10000
set_option maxHeartbeats 80000000
set_option linter.all false
namespace Qv
open Go Go.RowKit
theorem bp.weaken {E:Env}{G:aZ}{S S':ag}{a:Act}{w:World}(h:bp E G S a w)(hw:cq S S'):bp E G S' a w:=by
 refine⟨h.kept,h.size.trans hw.n.symm,⟨⟨λo l' hl=>?_,h.ext'.mps.loc,h.ext'.mps.inj,λq x hx=>h.ext'.mps.jg q x (hw.jg q x hx),h.ext'.mps.Ao,h.ext'.mps.Ap,h.ext'.mps.apart,λo T z k l' b gm es q1 q2 q3 q4 i e p q5 q6 q7=>?_⟩,hw.bD.1.trans h.ext'.kX,λi vals fr h1 h2=>?_,by rw[hw.cm];exact h.ext'.jX,λi k r st h1 h2=>h.ext'.loops i k r st h1 (hw.cm▸h2),h.ext'.kZ,h.ext'.yl,h.ext'.lX,h.ext'.marks,h.ext'.Af⟩,⟨λo bs q=>⟨(hw.cz o bs q).2 (h.iY.at_ o bs (hw.cz o bs q).1).1,(h.iY.at_ o bs (hw.cz o bs q).1).2⟩,h.iY.row,h.iY.cM⟩,h.mX,h.fo,λi hi=>hw.tmps i _ _ _ (h.tmps i (hw.n▸hi)),λo ys ho=>?_,h.gD,h.eU,λo t b r h1 h2=>?_,h.fS,h.dR⟩;obtain⟨l,h1,h2,h3⟩:=hw.maps o l' hl;obtain⟨b,gm,es,h4,h5,h6,h7,h8⟩:=h.ext'.mps.at_ o l h1;refine⟨b,gm,es,h4,h5,h6,h7.trans h2,λi e p he hp=>?_⟩;have BL:i<l.length:=by rw[h2];exact(aG.1 hp).1
 obtain⟨h9,h10⟩:=h3 i _ p (an BL) hp;obtain⟨h11,h12⟩:=h8 i e _ he (an BL);exact⟨h9▸h11,h10 _ _ _ h12⟩;obtain⟨l,h1,h2,h3⟩:=hw.maps o l' q1;have BL:i<l.length:=by rw[h2];exact(aG.1 q6).1
 obtain⟨h9,-⟩:=h3 i _ p (an BL) q6;exact h.ext'.mps.room o T z k l b gm es h1 q2 q3 q4 i e _ q5 (an BL) (h9▸q7);have hl:i<S.bD.length:=by rw[<-hw.bD.1];exact(aG.1 h2).1
 obtain⟨h3,h4,h5⟩:=hw.bD.2 i _ fr (an hl) h2;obtain⟨h6,h7⟩:=h.ext'.bD i vals _ h1 (an hl);exact⟨h6.trans h3.symm,λj hj=>h5 j _ _ _ (h7 j (h3▸hj))⟩;obtain⟨xs,h1,h2,h3⟩:=hw.aD o ys ho;obtain⟨b,h4,h5⟩:=h.aD o xs h1;refine⟨b,h4,λi y hy=>?_⟩;have hl:i<xs.length:=by rw[h2];exact(aG.1 hy).1
 obtain⟨c,h6,h7⟩:=h5 i _ (an hl);exact⟨c,h6,h3 i _ _ (an hl) hy _ _ _ h7⟩;obtain⟨h3,h4,h5⟩:=h.ck o t b r h1 h2;refine⟨h3,?_,λys ho=>?_⟩;cases hb:lI S'.cz o with
 |none=>rfl
 |some bs=>rw[(hw.cz o bs hb).1]at h4;omega
 obtain⟨xs,h6,h7,-⟩:=hw.aD o ys ho;simp_all
def wkY (Y:ov):ov:=λl args K S=>∃T,cq S T/\Y l args (λv S'=>∃T',cq S' T'/\K v T') T
def wkK (K:FV->ag->Prop):FV->ag->Prop:=λv S=>∃T,cq S T/\K v T
def lU (C:Ctx):Nat->iG|0=>λ_ _ _ _ _=>False|k+1=>λY g args K S=>∃fn,C.P.funcs[g]?=some fn/\fn.body.isSome=true/\(fn.name== "runtime.NumGoroutine")=false/\Nat.ble args.length fn.ntmps=true/\∃T,cq S T/\xD C (lU C k) (wkY Y) (match fn.body with|some c=>c|none=>.skip) (Ot C fn.results.toList (wkK K)) (T.enter fn.ntmps (tU args))
theorem eA.wk {E:Env}{Y:ov}(h:eA E Y):eA E (wkY Y):=by intro lX xs ls fixed G S a w l k args K vals hs hk ⟨T,hw,hY⟩ hlen nO;refine YieldAt.mono (h lX xs ls fixed G T a w l k args _ vals (hs.weaken hw) hk hY hlen nO) ?_;rintro e w' ⟨v,x,G',S',he,⟨T',hw',hK⟩,hs',hr⟩;exact⟨v,x,G',T',he,hK,hs'.weaken hw',hr⟩
theorem Qd (C:Ctx):∀k,mC C (lU C k)
 |0=>λE hC Y g args K G S a w vals hs hY h=>h.elim
 |k+1=>by
  intro E hC Y g args K G S a w vals hs hY h hlen hr;subst hC;obtain⟨fn,hf,hb,hname,hn,T0,hw0,h⟩:=h;replace hs:=hs.weaken hw0;obtain⟨c,hc⟩:=nw.1 hb;rw[hc]at h;refine⟨⟨fn,hf,by simp_all,hname⟩,?_⟩;obtain⟨hsz,ht⟩:=uQ (n:=fn.ntmps) hlen (gW hn) hr;have hs1:=hs.enter (lX:=none) hsz ht (λl h=>by grind);obtain⟨ms,xo,-,-⟩:=hs.ext'.marks;refine callsIn_of_wp_marks hf hc trivial ?_ rfl;have :=sU c (E:=E.push a) (Qd E.C k) hY.wk h ⟨_,hs1⟩;refine wpIn_mono this ?_;have fin:∀{S':ag}{a':Act}{w':World},qk E.C S' fn.results.toList (λvs=>S'.leave (wkK K (JH vs)))->mY (E.push a) S' a' w'->LeavesInM Fence.wide 0 E.C.P fn a'.tmps (λe w'=>∃v x G' S',e=.returned v/\K x S'/\bp E G' S' a w'/\aO G' w' v x) a'.defers .returning w':=λ{S' a' w'} hq ⟨G',hs'⟩=>by obtain⟨ms',hm',-,-⟩:=hs'.ext'.marks;rw[hm'];refine zG (E:=E.push a) ms' rfl hs' rfl hm' λG2 a2 w2 hs2 ht2 hd2=>?_;obtain⟨vs,xs,r1,r2,r3,r4,r5⟩:=nv hs2 _ _ hq;obtain⟨f,r,hf',T,hw,hK⟩:=Et r2;have hlv:=bp.leave (E:=E) (a:=a) (lX:=none) (ms:=ms) hs2 hf' xo hs.ext'.lX;rw[<-ht2];exact⟨_,kS fn a2.tmps E.C.P w2 r1,_,_,G2,_,rfl,hK,hlv.weaken hw,zF r4 r5⟩
  rintro e a' w' ⟨S',hq,hs'⟩;cases e with
  |normal=>exact fin hq hs'
  |ret=>exact fin hq hs'
  |_=>exact hq.elim
theorem bt.trans {x y z:FV}(h1:bt x y)(h2:bt y z):bt x z:=λG w v h=>h2 G w v (h1 G w v h)
theorem cq.trans {S T U:ag}(h1:cq S T)(h2:cq T U):cq S U:=by
 refine⟨h2.n.trans h1.n,h2.off.trans h1.off,h2.cm.trans h1.cm,λo bs q=>?_,⟨h2.bD.1.trans h1.bD.1,λi f f' q1 q2=>?_⟩,λi=>(h1.tmps i).trans (h2.tmps i),λo zs q=>?_,λo l'' q=>?_,λq x h=>h1.jg q x (h2.jg q x h)⟩;obtain⟨a1,a2⟩:=h2.cz o bs q;obtain⟨b1,b2⟩:=h1.cz o bs a1;simp_all;have hl:i<T.bD.length:=by rw[h1.bD.1];exact(aG.1 q1).1
 obtain⟨a1,a2,a3⟩:=h1.bD.2 i f _ q1 (an hl);obtain⟨b1,b2,b3⟩:=h2.bD.2 i _ f' (an hl) q2;exact⟨b1.trans a1,b2.trans a2,λj=>(a3 j).trans (b3 j)⟩;obtain⟨ys,a1,a2,a3⟩:=h2.aD o zs q;obtain⟨xs,b1,b2,b3⟩:=h1.aD o ys a1;refine⟨xs,b1,b2.trans a2,λi x z c1 c2=>?_⟩;have hl:i<ys.length:=by rw[<-b2];exact(aG.1 c1).1
 exact(b3 i x _ c1 (an hl)).trans (a3 i _ z (an hl) c2);obtain⟨l',a1,a2,a3⟩:=h2.maps o l'' q;obtain⟨l,b1,b2,b3⟩:=h1.maps o l' a1;refine⟨l,b1,b2.trans a2,λi x z c1 c2=>?_⟩;have hl:i<l'.length:=by rw[<-b2];exact(aG.1 c1).1
 obtain⟨d1,d2⟩:=b3 i x _ c1 (an hl);obtain⟨e1,e2⟩:=a3 i _ z (an hl) c2;exact⟨e1.trans d1,d2.trans e2⟩
theorem IF {C:Ctx}{k:Nat}{Y:ov}{g:FuncId}{args:List FV}{K:FV->ag->Prop}{S T:ag}(hw:cq S T)(h:lU C k Y g args K T):lU C k Y g args K S:=by
 cases k with
 |zero=>exact h
 |succ k=>obtain⟨fn,h1,h2,h3,h4,U,h5,h6⟩:=h;exact⟨fn,h1,h2,h3,h4,U,hw.trans h5,h6⟩
theorem Gj {C:Ctx}{f:FuncId}{fn:Func}{c:Code}{args:List AV}{R:fN->Prop}(hf:C.P.funcs[f]?=some fn)(hb:fn.body=some c)(hname:(fn.name== "runtime.NumGoroutine")=false)(hlen:args.length<=fn.ntmps)(h:xD C (lU C 6) tg c (tV C fn.results.toList R) (An fn.ntmps args)):au C f args R:=xq (Qd C 6) hf hb hname hlen h
theorem yO {C:Ctx}(e:Extra)(l:List Nat){f:FuncId}{fn:Func}{args:List AV}{R:fN->Prop}(hf:C.P.funcs[f]?=some fn)(hb:fn.body.isSome=true)(hname:(fn.name== "runtime.NumGoroutine")=false)(hlen:Nat.ble args.length fn.ntmps=true)(h:xD ((C.cut l).open e) (lU ((C.cut l).open e) 6) tg (match fn.body with|some c=>c|none=>.skip) (tV ((C.cut l).open e) fn.results.toList R) (An fn.ntmps args)):au C f args R:=by obtain⟨c,hc⟩:=nw.1 hb;rw[hc]at h;exact Gj (C:=(C.cut l).open e) hf hc hname (gW hlen) h
end Qv
namespace Qv
open Go Go.RowKit
variable {E:Env}{G:aZ}{S:ag}{a:Act}{w:World}
theorem dh.unit {bh tL:Nat->Nat->Prop}{w:World}{v:Value}(h:dh bh w v (.eS [])):dh tL w v (.eS []):=by
 cases h with
 |eS cs xs hl hall=>exact .eS cs [] hl λi c x h1 h2=>by simp at h2
def zN (C:Ctx)(rs:List ResultVar)(bs':List UInt8)(S:ag):Prop:=qk C S rs λvs=>(JH vs).eW=some (.eS [])/\lI S.cz 999999=some bs'
def Qm (C:Ctx)(rs:List ResultVar)(bs':List UInt8):Exit->ag->Prop|.normal,S=>zN C rs bs' S|.ret,S=>zN C rs bs' S|_,_=>False
theorem Nx {C:Ctx}{f:FuncId}{fn:Func}{c:Code}{args:List AV}{bs bs':List UInt8}(hf:C.P.funcs[f]?=some fn)(hb:fn.body=some c)(hname:(fn.name== "runtime.NumGoroutine")=false)(hlen:args.length+1<=fn.ntmps)(h:ev C c (Qm C fn.results.toList bs') (Ur fn.ntmps bs args)):uE C f args bs (some bs') (.eS []):=by
 refine⟨⟨fn,hf,by rw[hb];rfl,hname⟩,λbh w b row vs hJ hn hi hbn hrn hbi hri rL hl hr=>?_⟩;obtain⟨p0,v0,hp0,hbk,hrow⟩:=rL;have rL:xG C w b row bs:=⟨p0,v0,hp0,hbk,hrow⟩;have acI:=(bq.1 hbk).1;have UX:∀r,row=some r->b≠r/\r<w.heap.size/\∃cs T fr,w.heap[r]?=some (.cells cs T fr):=λr hr=>by subst hr;obtain⟨h1,cap,cur,h2,h3,-⟩:=hrow;exact⟨h1,(bq.1 h3).1,_,_,_,h3⟩
 have hown:∀k,k∈b::row.toList->C.mD<=k/\k<w.heap.size/\∀o,¬bh k o:=λk hk=>by
  rcases aC.1 hk with rfl|hk;exact⟨hbn,acI,hbi⟩;have hk:row=some k:=by
   cases row with
   |none=>simp at hk
   |some r=>simp at hk;rw[hk]
  exact⟨hrn k hk,(UX k hk).2.1,λo=>hri k o hk⟩
 let E:Env:={C:=C,w0:=w,Ec:=bh,hJ:=hJ.1,hn:=hn,lX:=none,bD:=[],loops:=[],fixed:=[],own:=b::row.toList,hown:=hown,qU:=[(999999,b)],rows:=row.toList,Fi:=λp hp=>⟨by rw[aL.1 hp];exact .head _,by rw[aL.1 hp];intro q;exact(UX b (by simpa using q)).1 rfl⟩,hrows:=λr hr=>.tail _ hr};let G0:aZ:=⟨bh,λo=>if o=999999 then some b else none,λ_=>none,λ_=>none,λo=>if o=999999 then row else none,λ_=>none,λ_=>none⟩;have nO:∀(i:Nat)(v:Value)(x:FV),(Value.pointer (some ⟨b,0,none⟩)::vs)[i]?=some v->(FV.ptr 999999 0::aI args)[i]?=some x->aO G0 w v x:=λi v x h1 h2=>by
  cases i with
  |zero=>simp at h1 h2;subst h1;subst h2;exact .ptr _ _ _ rfl
  |succ i=>
   simp only[mb,er,aJ]at h1 h2;cases hq:args[i]?with
   |none=>simp[hq]at h2
   |some y=>simp[hq]at h2;subst h2;exact .p _ _ (hr i v y h1 hq)
 obtain⟨hsz,ht⟩:=uQ (n:=fn.ntmps) (vals:=Value.pointer (some ⟨b,0,none⟩)::vs) (args:=FV.ptr 999999 0::aI args) (by simp[er,hl]) (by simp[er];omega) nO;have hG:∀o b2,G0.loc o=some b2->o=999999/\b2=b:=λo b2 h=>by simp only[G0]at h;split at h;rename_i e;exact⟨e,(ak h).symm⟩;cases h
 have hR:∀o r,G0.row o=some r->o=999999/\row=some r:=λo r h=>by simp only[G0]at h;split at h;rename_i e;exact⟨e,h⟩;cases h
 have hs:bp E G0 (Ur fn.ntmps bs args) {tmps:=(Value.pointer (some ⟨b,0,none⟩)::vs).toArray++Array.replicate (fn.ntmps-(Value.pointer (some ⟨b,0,none⟩)::vs).toArray.size) undef,defers:=[]} w:=by refine⟨⟨rfl,rfl,rfl,av _,λ_ _ _=>rfl,λk cs T fr _ q=>⟨cs,q,rfl⟩⟩,hsz,⟨⟨(λo l h=>by cases h),(λo b h=>by cases h),(λo o' b h=>by cases h),(λq x h=>by cases h),(λq r h=>by cases h),(λq q' r h=>by cases h),(λo o' b h=>by cases h),(λo T z k l b gm es h=>by cases h)⟩,rfl,λi vs fr h=>by simp[E]at h,rfl,λi k r st h=>by simp[E]at h,λi j k r r' h=>by simp[E]at h,λi k r h=>by simp[E]at h,λl h=>by simp[E]at h,⟨[],rfl,by simp[E],by simp[E]⟩,hJ.2⟩,⟨λo bs2 h=>?_,λo r h=>?_,λo r h=>?_⟩,λb o h=>.inl h,hi,λi hi'=>ht i hi',(λo cs ho=>by cases ho),(λo b2 h=>?_),(λo o' b2 h h'=>?_),(λo t b r _ h=>by cases h),(λt b s e T h=>by cases h),(λt t' b r r' h=>by cases h)⟩;simp only[Ur,lI]at h;split at h;rename_i hq;obtain rfl:=aK hq;obtain rfl:=ak h;exact⟨rfl,b,rfl,rL⟩;cases h;obtain⟨rfl,h⟩:=hR o r h;obtain⟨h1,h2,h3⟩:=UX r h;refine⟨.inr ⟨rfl,Option.mem_toList.2 h⟩,h2,λi=>hri r i h,λo' h'=>h1 (hG o' r h').2.symm,λt q h'=>(by cases h'),λo' h'=>(hR o' r h').1⟩;obtain⟨rfl,h⟩:=hR o r h;exact(UX r h).2.2;obtain⟨rfl,rfl⟩:=hG o b2 h;exact⟨acI,.inr ⟨rfl,.head _⟩,λi=>⟨hbi i,by simp[World.frozen?,hbk]⟩⟩;exact(hG o b2 h).1.trans (hG o' b2 h').1.symm
 refine(callsIn_wide (n:=0)).1 (callsIn_of_wp_marks hf hb trivial ?_ rfl);refine wpIn_mono (sU c (E:=E) (yq C 6) (ud E) h ⟨_,hs⟩) ?_;have fin:∀{S':ag}{a':Act}{w':World},zN C fn.results.toList bs' S'->mY E S' a' w'->LeavesInM Fence.wide 0 C.P fn a'.tmps (λe w'=>∃v,e=.returned v/\dh (λ_ _=>False) w' v (.eS [])/\(∃row',xG C w' b row' bs'/\(row'=row\/row'=none\/∃x,row'=some x/\w.heap.size<=x))/\w'.os=w.os/\w'.tape=w.tape/\w'.output=w.output/\w.heap.size<=w'.heap.size/\∀k,k<w.heap.size->k≠b->row≠some k->w'.heap[k]?=w.heap[k]?) a'.defers .returning w':=λ{S' a' w'} hq ⟨G',hs'⟩=>by
  obtain⟨ms',hm',-,-⟩:=hs'.ext'.marks;rw[hm'];refine zG (E:=E) ms' rfl hs' rfl hm' λG2 a2 w2 hs2 ht2 hd2=>?_;unfold zN at hq;obtain⟨vs,xs,r1,⟨r2,r7⟩,r3,r4,r5⟩:=nv hs2 _ _ hq;rw[<-ht2];obtain⟨-,b2,g1,g2⟩:=hs2.iY.at_ 999999 bs' r7;obtain rfl:b2=b:=Env.Ox (E:=E) (hs2.gD _ _ g1).2.1 rfl;refine⟨_,kS fn a2.tmps E.C.P w2 r1,_,rfl,((zF r4 r5).eW r2).unit,⟨_,g2,?_⟩,hs2.kept.os,hs2.kept.tape,hs2.kept.output,hs2.kept.size,λk hk hkb hkr=>hs2.kept.block k hk (λhm=>?_)⟩;cases hq2:G2.row 999999 with
  |none=>exact .inr (.inl rfl)
  |some x=>
   rcases(hs2.iY.row _ x hq2).1 with h|h;exact .inr (.inr ⟨x,rfl,h⟩);left;have hm:x∈row.toList:=h.2;cases row with
   |none=>simp at hm
   |some r=>simp at hm;rw[hm]
  rcases aC.1 hm with rfl|hm;exact hkb rfl;cases row with
  |none=>simp at hm
  |some r=>simp at hm;exact hkr (by rw[hm])
 rintro e a' w' ⟨S',hq,hs'⟩;cases e with
 |normal=>exact fin hq hs'
 |ret=>exact fin hq hs'
 |_=>exact hq.elim
theorem AJ {C:Ctx}(e:Extra)(l:List Nat){f:FuncId}{fn:Func}{args:List AV}{bs bs':List UInt8}(hf:C.P.funcs[f]?=some fn)(hb:fn.body.isSome=true)(hname:(fn.name== "runtime.NumGoroutine")=false)(hlen:Nat.ble (args.length+1) fn.ntmps=true)(h:ev ((C.cut l).open e) (match fn.body with|some c=>c|none=>.skip) (Qm ((C.cut l).open e) fn.results.toList bs') (Ur fn.ntmps bs args)):uE C f args bs (some bs') (.eS []):=by obtain⟨c,hc⟩:=nw.1 hb;rw[hc]at h;exact Nx (C:=(C.cut l).open e) hf hc hname (gW hlen) h
end Qv
namespace Go.Proofs
open Go.Shelf
def Tryz.sortI152_ren:Go.Shelf.Ren:=⟨λ|6=>236|15=>143|14=>287|28=>210|29=>211|20=>315|21=>316|22=>317|23=>318|24=>319|25=>320|26=>321|27=>322|46=>343|47=>275|48=>276|49=>344|50=>345|57=>352|n=>n,λ|22=>62|24=>54|25=>152|3=>3|39=>194|0=>0|53=>209|55=>257|4=>4|46=>250|45=>249|50=>139|5=>5|9=>9|66=>298|70=>302|76=>325|77=>326|n=>n,λ|n=>n⟩
theorem Tryz.sortI152:Go.Proofs.SlLaysF0.n6 Tryz.prog Tryz.sortI152_ren:={mixed:=by kernel_rfl,f6:=⟨Tryz.f236.name,by decide,Tryz.func236.trans (congrArg some (by kernel_rfl))⟩,f14:=⟨Tryz.f287.name,by decide,Tryz.func287.trans (congrArg some (by kernel_rfl))⟩,f15:=Tryz.func143.trans (congrArg some (by kernel_rfl)),f20:=⟨Tryz.f315.name,by decide,Tryz.func315.trans (congrArg some (by kernel_rfl))⟩,f21:=⟨Tryz.f316.name,by decide,Tryz.func316.trans (congrArg some (by kernel_rfl))⟩,f22:=⟨Tryz.f317.name,by decide,Tryz.func317.trans (congrArg some (by kernel_rfl))⟩,f23:=⟨Tryz.f318.name,by decide,Tryz.func318.trans (congrArg some (by kernel_rfl))⟩,f24:=⟨Tryz.f319.name,by decide,Tryz.func319.trans (congrArg some (by kernel_rfl))⟩,f25:=⟨Tryz.f320.name,by decide,Tryz.func320.trans (congrArg some (by kernel_rfl))⟩,f26:=⟨Tryz.f321.name,by decide,Tryz.func321.trans (congrArg some (by kernel_rfl))⟩,f27:=⟨Tryz.f322.name,by decide,Tryz.func322.trans (congrArg some (by kernel_rfl))⟩,f28:=Tryz.func210.trans (congrArg some (by kernel_rfl)),f29:=Tryz.func211.trans (congrArg some (by kernel_rfl)),f46:=⟨Tryz.f343.name,by decide,Tryz.func343.trans (congrArg some (by kernel_rfl))⟩,f47:=Tryz.func275.trans (congrArg some (by kernel_rfl)),f48:=Tryz.func276.trans (congrArg some (by kernel_rfl)),f49:=⟨Tryz.f344.name,by decide,Tryz.func344.trans (congrArg some (by kernel_rfl))⟩,f50:=⟨Tryz.f345.name,by decide,Tryz.func345.trans (congrArg some (by kernel_rfl))⟩,f57:=⟨Tryz.f352.name,by decide,Tryz.func352.trans (congrArg some (by kernel_rfl))⟩,t0:=Tryz.underlying0,a0:=Tryz.isAgg0,z0:=Tryz.sizeOf0,v0:=Tryz.zeroValue0,t3:=Tryz.underlying3,a3:=Tryz.isAgg3,z3:=Tryz.sizeOf3,v3:=Tryz.zeroValue3,t4:=Tryz.underlying4,a4:=Tryz.isAgg4,z4:=Tryz.sizeOf4,v4:=Tryz.zeroValue4,t5:=Tryz.underlying5,a5:=Tryz.isAgg5,z5:=Tryz.sizeOf5,v5:=Tryz.zeroValue5,t9:=Tryz.underlying9,a9:=Tryz.isAgg9,z9:=Tryz.sizeOf9,v9:=Tryz.zeroValue9,t22:=Tryz.underlying62,a22:=Tryz.isAgg62,z22:=Tryz.sizeOf62,v22:=Tryz.zeroValue62,t25:=Tryz.underlying152,a25:=Tryz.isAgg152,z25:=Tryz.sizeOf152,v25:=Tryz.zeroValue152,t39:=Tryz.underlying194,a39:=Tryz.isAgg194,z39:=Tryz.sizeOf194,v39:=Tryz.zeroValue194,t45:=Tryz.underlying249,a45:=Tryz.isAgg249,z45:=Tryz.sizeOf249,v45:=Tryz.zeroValue249,t46:=Tryz.underlying250,a46:=Tryz.isAgg250,z46:=Tryz.sizeOf250,v46:=Tryz.zeroValue250,t50:=Tryz.underlying139,a50:=Tryz.isAgg139,z50:=Tryz.sizeOf139,v50:=Tryz.zeroValue139,t53:=Tryz.underlying209,a53:=Tryz.isAgg209,z53:=Tryz.sizeOf209,v53:=Tryz.zeroValue209,t55:=Tryz.underlying257,a55:=Tryz.isAgg257,z55:=Tryz.sizeOf257,v55:=Tryz.zeroValue257,t66:=Tryz.underlying298,a66:=Tryz.isAgg298,z66:=Tryz.sizeOf298,v66:=Tryz.zeroValue298,t70:=Tryz.underlying302,a70:=Tryz.isAgg302,z70:=Tryz.sizeOf302,v70:=Tryz.zeroValue302,t76:=Tryz.underlying325,a76:=Tryz.isAgg325,z76:=Tryz.sizeOf325,v76:=Tryz.zeroValue325,t77:=Tryz.underlying326,a77:=Tryz.isAgg326,z77:=Tryz.sizeOf326,v77:=Tryz.zeroValue326}
def Tryz.sortD239_ren:Go.Shelf.Ren:=⟨λ|6=>114|15=>143|14=>188|28=>210|29=>211|20=>257|21=>258|22=>259|23=>260|24=>261|25=>262|26=>263|27=>264|46=>302|47=>275|48=>276|49=>303|50=>304|57=>340|n=>n,λ|22=>34|24=>33|25=>132|3=>3|39=>194|0=>0|53=>209|55=>257|4=>4|46=>250|45=>249|50=>139|5=>5|9=>9|66=>298|70=>302|76=>325|77=>326|n=>n,λ|n=>n⟩
theorem Tryz.sortD239:Go.Proofs.SlLaysF0.n6 Tryz.prog Tryz.sortD239_ren:={mixed:=by kernel_rfl,f6:=⟨Tryz.f114.name,by decide,Tryz.func114.trans (congrArg some (by kernel_rfl))⟩,f14:=⟨Tryz.f188.name,by decide,Tryz.func188.trans (congrArg some (by kernel_rfl))⟩,f15:=Tryz.func143.trans (congrArg some (by kernel_rfl)),f20:=⟨Tryz.f257.name,by decide,Tryz.func257.trans (congrArg some (by kernel_rfl))⟩,f21:=⟨Tryz.f258.name,by decide,Tryz.func258.trans (congrArg some (by kernel_rfl))⟩,f22:=⟨Tryz.f259.name,by decide,Tryz.func259.trans (congrArg some (by kernel_rfl))⟩,f23:=⟨Tryz.f260.name,by decide,Tryz.func260.trans (congrArg some (by kernel_rfl))⟩,f24:=⟨Tryz.f261.name,by decide,Tryz.func261.trans (congrArg some (by kernel_rfl))⟩,f25:=⟨Tryz.f262.name,by decide,Tryz.func262.trans (congrArg some (by kernel_rfl))⟩,f26:=⟨Tryz.f263.name,by decide,Tryz.func263.trans (congrArg some (by kernel_rfl))⟩,f27:=⟨Tryz.f264.name,by decide,Tryz.func264.trans (congrArg some (by kernel_rfl))⟩,f28:=Tryz.func210.trans (congrArg some (by kernel_rfl)),f29:=Tryz.func211.trans (congrArg some (by kernel_rfl)),f46:=⟨Tryz.f302.name,by decide,Tryz.func302.trans (congrArg some (by kernel_rfl))⟩,f47:=Tryz.func275.trans (congrArg some (by kernel_rfl)),f48:=Tryz.func276.trans (congrArg some (by kernel_rfl)),f49:=⟨Tryz.f303.name,by decide,Tryz.func303.trans (congrArg some (by kernel_rfl))⟩,f50:=⟨Tryz.f304.name,by decide,Tryz.func304.trans (congrArg some (by kernel_rfl))⟩,f57:=⟨Tryz.f340.name,by decide,Tryz.func340.trans (congrArg some (by kernel_rfl))⟩,t0:=Tryz.underlying0,a0:=Tryz.isAgg0,z0:=Tryz.sizeOf0,v0:=Tryz.zeroValue0,t3:=Tryz.underlying3,a3:=Tryz.isAgg3,z3:=Tryz.sizeOf3,v3:=Tryz.zeroValue3,t4:=Tryz.underlying4,a4:=Tryz.isAgg4,z4:=Tryz.sizeOf4,v4:=Tryz.zeroValue4,t5:=Tryz.underlying5,a5:=Tryz.isAgg5,z5:=Tryz.sizeOf5,v5:=Tryz.zeroValue5,t9:=Tryz.underlying9,a9:=Tryz.isAgg9,z9:=Tryz.sizeOf9,v9:=Tryz.zeroValue9,t22:=Tryz.underlying34,a22:=Tryz.isAgg34,z22:=Tryz.sizeOf34,v22:=Tryz.zeroValue34,t25:=Tryz.underlying132,a25:=Tryz.isAgg132,z25:=Tryz.sizeOf132,v25:=Tryz.zeroValue132,t39:=Tryz.underlying194,a39:=Tryz.isAgg194,z39:=Tryz.sizeOf194,v39:=Tryz.zeroValue194,t45:=Tryz.underlying249,a45:=Tryz.isAgg249,z45:=Tryz.sizeOf249,v45:=Tryz.zeroValue249,t46:=Tryz.underlying250,a46:=Tryz.isAgg250,z46:=Tryz.sizeOf250,v46:=Tryz.zeroValue250,t50:=Tryz.underlying139,a50:=Tryz.isAgg139,z50:=Tryz.sizeOf139,v50:=Tryz.zeroValue139,t53:=Tryz.underlying209,a53:=Tryz.isAgg209,z53:=Tryz.sizeOf209,v53:=Tryz.zeroValue209,t55:=Tryz.underlying257,a55:=Tryz.isAgg257,z55:=Tryz.sizeOf257,v55:=Tryz.zeroValue257,t66:=Tryz.underlying298,a66:=Tryz.isAgg298,z66:=Tryz.sizeOf298,v66:=Tryz.zeroValue298,t70:=Tryz.underlying302,a70:=Tryz.isAgg302,z70:=Tryz.sizeOf302,v70:=Tryz.zeroValue302,t76:=Tryz.underlying325,a76:=Tryz.isAgg325,z76:=Tryz.sizeOf325,v76:=Tryz.zeroValue325,t77:=Tryz.underlying326,a77:=Tryz.isAgg326,z77:=Tryz.sizeOf326,v77:=Tryz.zeroValue326}
def Tryz.sortE_ren:Go.Shelf.Ren:=⟨λ|6=>68|15=>143|14=>142|28=>210|29=>211|20=>202|21=>203|22=>204|23=>205|24=>206|25=>207|26=>208|27=>209|46=>274|47=>275|48=>276|49=>277|50=>278|57=>310|n=>n,λ|22=>56|24=>125|25=>127|3=>3|39=>194|0=>0|53=>209|55=>257|4=>4|46=>250|45=>249|50=>139|5=>5|9=>9|66=>298|70=>302|76=>325|77=>326|n=>n,λ|n=>n⟩
theorem Tryz.sortE:Go.Proofs.SlLaysF0.n6 Tryz.prog Tryz.sortE_ren:={mixed:=by kernel_rfl,f6:=⟨Tryz.f68.name,by decide,Tryz.func68.trans (congrArg some (by kernel_rfl))⟩,f14:=⟨Tryz.f142.name,by decide,Tryz.func142.trans (congrArg some (by kernel_rfl))⟩,f15:=Tryz.func143.trans (congrArg some (by kernel_rfl)),f20:=⟨Tryz.f202.name,by decide,Tryz.func202.trans (congrArg some (by kernel_rfl))⟩,f21:=⟨Tryz.f203.name,by decide,Tryz.func203.trans (congrArg some (by kernel_rfl))⟩,f22:=⟨Tryz.f204.name,by decide,Tryz.func204.trans (congrArg some (by kernel_rfl))⟩,f23:=⟨Tryz.f205.name,by decide,Tryz.func205.trans (congrArg some (by kernel_rfl))⟩,f24:=⟨Tryz.f206.name,by decide,Tryz.func206.trans (congrArg some (by kernel_rfl))⟩,f25:=⟨Tryz.f207.name,by decide,Tryz.func207.trans (congrArg some (by kernel_rfl))⟩,f26:=⟨Tryz.f208.name,by decide,Tryz.func208.trans (congrArg some (by kernel_rfl))⟩,f27:=⟨Tryz.f209.name,by decide,Tryz.func209.trans (congrArg some (by kernel_rfl))⟩,f28:=Tryz.func210.trans (congrArg some (by kernel_rfl)),f29:=Tryz.func211.trans (congrArg some (by kernel_rfl)),f46:=⟨Tryz.f274.name,by decide,Tryz.func274.trans (congrArg some (by kernel_rfl))⟩,f47:=Tryz.func275.trans (congrArg some (by kernel_rfl)),f48:=Tryz.func276.trans (congrArg some (by kernel_rfl)),f49:=⟨Tryz.f277.name,by decide,Tryz.func277.trans (congrArg some (by kernel_rfl))⟩,f50:=⟨Tryz.f278.name,by decide,Tryz.func278.trans (congrArg some (by kernel_rfl))⟩,f57:=⟨Tryz.f310.name,by decide,Tryz.func310.trans (congrArg some (by kernel_rfl))⟩,t0:=Tryz.underlying0,a0:=Tryz.isAgg0,z0:=Tryz.sizeOf0,v0:=Tryz.zeroValue0,t3:=Tryz.underlying3,a3:=Tryz.isAgg3,z3:=Tryz.sizeOf3,v3:=Tryz.zeroValue3,t4:=Tryz.underlying4,a4:=Tryz.isAgg4,z4:=Tryz.sizeOf4,v4:=Tryz.zeroValue4,t5:=Tryz.underlying5,a5:=Tryz.isAgg5,z5:=Tryz.sizeOf5,v5:=Tryz.zeroValue5,t9:=Tryz.underlying9,a9:=Tryz.isAgg9,z9:=Tryz.sizeOf9,v9:=Tryz.zeroValue9,t22:=Tryz.underlying56,a22:=Tryz.isAgg56,z22:=Tryz.sizeOf56,v22:=Tryz.zeroValue56,t25:=Tryz.underlying127,a25:=Tryz.isAgg127,z25:=Tryz.sizeOf127,v25:=Tryz.zeroValue127,t39:=Tryz.underlying194,a39:=Tryz.isAgg194,z39:=Tryz.sizeOf194,v39:=Tryz.zeroValue194,t45:=Tryz.underlying249,a45:=Tryz.isAgg249,z45:=Tryz.sizeOf249,v45:=Tryz.zeroValue249,t46:=Tryz.underlying250,a46:=Tryz.isAgg250,z46:=Tryz.sizeOf250,v46:=Tryz.zeroValue250,t50:=Tryz.underlying139,a50:=Tryz.isAgg139,z50:=Tryz.sizeOf139,v50:=Tryz.zeroValue139,t53:=Tryz.underlying209,a53:=Tryz.isAgg209,z53:=Tryz.sizeOf209,v53:=Tryz.zeroValue209,t55:=Tryz.underlying257,a55:=Tryz.isAgg257,z55:=Tryz.sizeOf257,v55:=Tryz.zeroValue257,t66:=Tryz.underlying298,a66:=Tryz.isAgg298,z66:=Tryz.sizeOf298,v66:=Tryz.zeroValue298,t70:=Tryz.underlying302,a70:=Tryz.isAgg302,z70:=Tryz.sizeOf302,v70:=Tryz.zeroValue302,t76:=Tryz.underlying325,a76:=Tryz.isAgg325,z76:=Tryz.sizeOf325,v76:=Tryz.zeroValue325,t77:=Tryz.underlying326,a77:=Tryz.isAgg326,z77:=Tryz.sizeOf326,v77:=Tryz.zeroValue326}
end Go.Proofs
open Go Go.Proofs Go.RowKit
namespace Qv
def aiI:List (TypeId×jE):=(87,⟨1,8,.map 33 34,[.map none]⟩)::jh
theorem adU:∀t i,(t,i)∈aiI->fO Tryz.prog t i:=by intro t i h;rcases aC.1 h with h|h;injection h with h1 h2;subst h1;subst h2;exact⟨kK,kK,rfl⟩;exact ZC t i h
noncomputable def CX:Ctx:={C with jh:=aiI,ael:=adU}
theorem pT (e:Extra)(l:List Nat){f:FuncId}{fn:Func}{args:List AV}{R:fN->Prop}(hf:C.P.funcs[f]?=some fn)(hb:fn.body.isSome=true)(hname:(fn.name== "runtime.NumGoroutine")=false)(hlen:Nat.ble args.length fn.ntmps=true)(h:ev ((CX.cut l).open e) (match fn.body with|some c=>c|none=>.skip) (tV ((CX.cut l).open e) fn.results.toList R) (An fn.ntmps args)):au C f args R:=bn (C:=CX) e l hf hb hname hlen h
theorem au.Xz {e:Extra}{l:List Nat}{f:FuncId}{args:List AV}{R:fN->Prop}(h:au C f args R):au ((CX.cut l).open e) f args R:=h
end Qv
namespace Qv
abbrev Ed:=Int×Int
def eZ (a b:Ed):Bool:=decide (a.1<b.1)||(decide (a.1=b.1)&&decide (a.2<b.2))
def To (a b:Ed):Int:=if a.1≠b.1 then a.1-b.1 else a.2-b.2
theorem nE (a b:Ed):eZ a b=true↔a.1<b.1\/(a.1=b.1/\a.2<b.2):=by unfold eZ;simp
theorem qO (a b:Ed):To a b<0↔eZ a b=true:=by rw[nE];unfold To;split<;>omega
theorem EP (a b:Ed)(h1:¬eZ a b=true)(h2:¬eZ b a=true):a=b:=by rw[nE]at h1 h2;obtain⟨a1,a2⟩:=a;obtain⟨b1,b2⟩:=b;simp only at h1 h2;rw[show a1=b1 from oO,show a2=b2 from oO]
theorem ER (a:Ed):¬eZ a a=true:=by rw[nE];omega
theorem Tp {a b:Ed}(h:eZ a b=true):¬eZ b a=true:=by rw[nE]at h⊢;omega
theorem DA {a b c:Ed}(h:eZ a b=true)(h2:eZ b c=true):eZ a c=true:=by rw[nE]at h h2⊢;omega
theorem aaP:∀{l m:List Ed},l.Pairwise (λa b=>eZ a b=true)->m.Pairwise (λa b=>eZ a b=true)->(∀e,e∈l↔e∈m)->l=m:=by
 intro l;induction l with
 |nil=>
  intro m _ _ h;cases m with
  |nil=>rfl
  |cons b m=>exact absurd ((h b).2 (by simp)) (by simp)
 |cons a l ih=>
  intro m hl hm h;cases m with
  |nil=>exact absurd ((h a).1 (by simp)) (by simp)
  |cons b m=>
   rw[ct]at hl hm;have hab:a=b:=by rcases aC.1 ((h a).1 (by simp))with h1|h1;exact h1;rcases aC.1 ((h b).2 (by simp))with h2|h2;exact h2.symm;exact absurd (hl.1 b h2) (Tp (hm.1 a h1))
   subst hab;rw[ih hl.2 hm.2 λe=>⟨λhe=>by rcases aC.1 ((h e).1 (cg _ he))with h1|h1;subst h1;exact absurd (hl.1 _ he) (ER _);exact h1,λhe=>by rcases aC.1 ((h e).2 (cg _ he))with h1|h1;subst h1;exact absurd (hm.1 _ he) (ER _);exact h1⟩]
def pS (l:List Ed)(e:Ed):List Ed:=if(l.dropWhile (eZ · e)).head?=some e then l else l.takeWhile (eZ · e)++e::l.dropWhile (eZ · e)
theorem aaQ (l:List Ed)(e x:Ed):x∈pS l e↔x=e\/x∈l:=by
 unfold pS;split;rename_i h;refine⟨.inr,λg=>g.elim (λg=>?_) id⟩;subst g;have :=List.mem_of_head? h;exact(List.dropWhile_sublist _).subset this;conv=>rhs;rw[<-DB (p:=(eZ · e)) (l:=l)]
 simp only[bf,aC];constructor;rintro(h|h|h);exact .inr (.inl h);exact .inl h;exact .inr (.inr h);rintro(h|h|h);exact .inr (.inl h);exact .inl h;exact .inr (.inr h)
theorem aaR {l:List Ed}{e:Ed}(h:l.Pairwise (λa b=>eZ a b=true)):(pS l e).Pairwise (λa b=>eZ a b=true):=by
 unfold pS;split;exact h;rename_i hn;have ht:∀x,x∈l.takeWhile (eZ · e)->eZ x e=true:=λx hx=>by have :=List.all_takeWhile (p:=(eZ · e)) (l:=l);rw[br]at this;exact this x hx
 have hp:(l.takeWhile (eZ · e)++l.dropWhile (eZ · e)).Pairwise (λa b=>eZ a b=true):=by rw[DB];exact h
 rw[sG]at hp;have hd:∀x,x∈l.dropWhile (eZ · e)->eZ e x=true:=by
  intro x hx;cases hw:l.dropWhile (eZ · e)with
  |nil=>rw[hw]at hx;cases hx
  |cons b m=>
   have hb:¬eZ b e=true:=by have :=List.head?_dropWhile_not (eZ · e) l;rw[hw]at this;simpa using this
   have hne:b≠e:=λg=>hn (by rw[hw];simp[g]);have hbe:eZ e b=true:=by by_cases g:eZ e b=true;exact g;exact absurd (EP b e hb g) hne
   rw[hw]at hx hp;rcases aC.1 hx with g|g;rw[g];exact hbe;exact DA hbe ((ct.1 hp.2.1).1 x g)
 rw[sG];refine⟨hp.1,ct.2 ⟨hd,hp.2.1⟩,λa ha b hb=>?_⟩;rcases aC.1 hb with g|g;rw[g];exact ht a ha;exact DA (ht a ha) (hd b g)
def qG:List Ed->List Ed|[]=>[]|a::l=>if(qG l).head?=some a then qG l else a::qG l
theorem Ja (l:List Ed):∀x:Ed,x∈qG l↔x∈l:=by
 induction l with
 |nil=>exactλx=>Iff.rfl
 |cons a l ih=>intro x;unfold qG;split;rename_i h;rw[ih];refine⟨cg _,λg=>?_⟩;rcases aC.1 g with g|g;rw[g];exact(ih _).1 (List.mem_of_head? h);exact g;simp only[aC,ih]
theorem aaS {l:List Ed}(h:l.Pairwise λa b=>¬eZ b a=true):(qG l).Pairwise (λa b=>eZ a b=true):=by
 induction l with
 |nil=>exact .nil
 |cons a l ih=>
  rw[ct]at h;have ih:=ih h.2;unfold qG;split;exact ih;rename_i hn;refine ct.2 ⟨λb hb=>?_,ih⟩;have hle:∀c,c∈qG l->¬eZ c a=true:=λc hc=>h.1 c ((Ja l c).1 hc);cases hw:qG l with
  |nil=>rw[hw]at hb;cases hb
  |cons c m=>
   rw[hw]at hb hn ih hle;have hac:eZ a c=true:=by by_cases g:eZ a c=true;exact g;exact absurd (by rw[EP a c g (hle c (by simp))];rfl) hn
   rcases aC.1 hb with g|g;rw[g];exact hac;exact DA hac ((ct.1 ih).1 b g)
theorem Xn (E:List Ed):∀(l:List Ed)(x:Ed),x∈E.foldl pS l↔x∈E\/x∈l:=by
 induction E with
 |nil=>intro l x;simp
 |cons e E ih=>intro l x;rw[fc,ih,aaQ];simp only[aC];grind
theorem Xo (E:List Ed):∀{l:List Ed},l.Pairwise (λa b=>eZ a b=true)->(E.foldl pS l).Pairwise (λa b=>eZ a b=true):=by
 induction E with
 |nil=>intro l h;exact h
 |cons e E ih=>intro l h;exact ih (aaR h)
theorem aaT (E:List Ed):qG (E.mergeSort λx y=>!decide (To y x<0))=E.foldl pS []:=by refine aaP (aaS ?_) (Xo E .nil) λe=>?_;have :=Dr (le:=λx y:Ed=>!decide (To y x<0)) (λa b c h1 h2=>?_) (λa b=>?_) E;refine this.imp λ{a b} h=>?_;simp only[cE,decide_eq_false_iff_not,qO]at h;exact h;simp only[cE,decide_eq_false_iff_not,qO,nE]at h1 h2⊢;omega;simp only[kr,cE,decide_eq_false_iff_not,qO,nE];omega;rw[Ja,Xn,Dq];simp
end Qv
