/- Part 28 of the proof: its lemmas. No condition. -/
import Derived.Test.YtlbofhenpfnenaaGreatDoorU19
import Derived.Test.YtlbofhenpfnenaaGreatDoorU21
import Derived.Test.YtlbofhenpfnenaaGreatDoorU22
import Derived.Sort.LoopGhostIn
set_option maxRecDepth 10000
set_option maxHeartbeats 80000000
set_option linter.all false
open Go Go.Proofs Go.RowKit
namespace Qv
theorem vw {S:ai}(n off:Nat)(rel:List (Nat×FV))(aN:List (Nat×List FV))(bG:List (Nat×Nat×List (Nat×FV)))(bZ:List yN){K:ai->Prop}(hn:(n,off,bZ)=(S.n,S.off,S.bZ))(h1:yP S.tmps rel)(h2:Bd S.aN aN)(h3:KV S.bG bG)(h:K (sg n off rel aN bG bZ [])):∃T,bM S T/\K T:=⟨_,bw (cL:=[]) hn h1 h2 h3 trivial,h⟩
def bW (own:List bD):List FV:=aH (eU own).flatten
theorem aho (x:bD)(y:AV)(h:y∈cA x):y.one=true:=bY.1 (show(cA x).all AV.one=true from rfl) y h
theorem jW (own:List bD):∀ys,ys∈eU own->ys.length=172/\∀y,y∈ys->y.one=true:=by intro ys h;obtain⟨x,-,rfl⟩:=aI.1 h;exact⟨rfl,λy hy=>aho x y hy⟩
theorem jN (own:List bD):(bW own).length=own.length*172:=by unfold bW;rw[iZ,gG (e:=172) λzs h=>(jW own zs h).1];simp[eU]
theorem qw (own:List bD)(o:Nat):FV.eL o (bW own)=bW own:=jj o _
theorem tG {aN:List (Nat×List FV)}{o:Nat}{own:List bD}(k:Nat)(h:Qv.getObj aN o=some (FV.eL k (bW own))):∃ys,Qv.getObj aN o=some ys/\ys.length=(bW own).length/\∀(i:Nat)(x y:FV),ys[i]?=some x->(bW own)[i]?=some y->aF x y:=by rw[qw]at h;exact aC h
theorem afi {aN:List (Nat×List FV)}{o:Nat}{own:List bD}(k j:Nat)(h:Qv.getObj aN o=some (FV.eL k (FV.eL j (bW own)))):∃ys,Qv.getObj aN o=some ys/\ys.length=(bW own).length/\∀(i:Nat)(x y:FV),ys[i]?=some x->(bW own)[i]?=some y->aF x y:=by rw[qw,qw]at h;exact aC h
theorem DZ (own:List bD)(o:Nat):(FV.eL o (bW own)).length=own.length*172:=by rw[qw];exact jN own
theorem ahp (own:List bD)(x:bD)(o:Nat):FV.eL o (bW own++aH [cA x].flatten)=bW (own++[x]):=by
 have :bW own++aH [cA x].flatten=bW (own++[x]):=by unfold bW eU;rw[aM,ye,eP,eP,eP,aM];rfl
 rw[this];exact jj o _
theorem HE (own:List bD)(x:bD)(o o2:Nat):FV.eL o (FV.eL o2 (bW own)++aH [cA x].flatten)=bW (own++[x]):=by rw[qw];exact ahp own x o
theorem RG {X:List AV}(h:∀y,y∈X->y.one=true):ji (aH X)=true:=by refine pF.2 λy hy=>?_;rw[eP]at hy;obtain⟨z,hz,rfl⟩:=aI.1 hy;exact h z hz
theorem Mf (own:List bD):ji (bW own)=true:=RG λy hy=>by obtain⟨zs,hzs,hy⟩:=xA.1 hy;exact(jW own zs hzs).2 y hy
theorem sr (a b:List bD):bW (a++b)=bW a++bW b:=by unfold bW eU;rw[aM,ye,eP,eP,eP,aM]
theorem Jy (a:bD):bW [a]=aH (cA a):=by unfold bW eU;simp
end Qv
namespace Qv
open Go Go.RowKit
variable {E:Env}{G:aV}{S:ai}{a:Act}{w:World}
theorem dh.unit {aZ qN:Nat->Nat->Prop}{w:World}{v:Value}(h:dh aZ w v (.eV [])):dh qN w v (.eV []):=by
 cases h with
 |eV cs xs hl hall=>exact .eV cs [] hl λi c x h1 h2=>by simp at h2
def AQ (C:Ctx)(rs:List ResultVar)(bs':List UInt8)(S:ai):Prop:=sH C S rs λvs=>(Nr vs).fh=some (.eV [])/\lN S.cL 999999=some bs'
def RQ (C:Ctx)(rs:List ResultVar)(bs':List UInt8):Exit->ai->Prop|.normal,S=>AQ C rs bs' S|.ret,S=>AQ C rs bs' S|_,_=>False
theorem OJ {C:Ctx}{f:FuncId}{fn:Func}{c:Code}{args:List AV}{bs bs':List UInt8}(hf:C.P.funcs[f]?=some fn)(hb:fn.body=some c)(hname:(fn.name== "runtime.NumGoroutine")=false)(hlen:args.length+1<=fn.ntmps)(h:ev C c (RQ C fn.results.toList bs') (VF fn.ntmps bs args)):vK C f args bs (some bs') (.eV []):=by
 refine⟨⟨fn,hf,by rw[hb];rfl,hname⟩,λaZ w b row vs hJ hn hi hbn hrn hbi hri vR hl hr=>?_⟩;obtain⟨p0,v0,hp0,hbk,hrow⟩:=vR;have vR:za C w b row bs:=⟨p0,v0,hp0,hbk,hrow⟩;have aed:=(bB.1 hbk).1;have acn:∀r,row=some r->b≠r/\r<w.heap.size/\∃cs T fr,w.heap[r]?=some (.cells cs T fr):=λr hr=>by subst hr;obtain⟨h1,cap,cur,h2,h3,-⟩:=hrow;exact⟨h1,(bB.1 h3).1,_,_,_,h3⟩
 have hown:∀k,k∈b::row.toList->C.oG<=k/\k<w.heap.size/\∀o,¬aZ k o:=λk hk=>by
  rcases aQ.1 hk with rfl|hk;exact⟨hbn,aed,hbi⟩;have hk:row=some k:=by
   cases row with
   |none=>simp at hk
   |some r=>simp at hk;rw[hk]
  exact⟨hrn k hk,(acn k hk).2.1,λo=>hri k o hk⟩
 let E:Env:={C:=C,w0:=w,BF:=aZ,hJ:=hJ.1,hn:=hn,mD:=none,bG:=[],loops:=[],fixed:=[],own:=b::row.toList,hown:=hown};let G0:aV:=⟨aZ,λo=>if o=999999 then some b else none,λ_=>none,λ_=>none,λo=>if o=999999 then row else none,λ_=>none,λ_=>none⟩;have oz:∀(i:Nat)(v:Value)(x:FV),(Value.pointer (some ⟨b,0,none⟩)::vs)[i]?=some v->(FV.ptr 999999 0::aH args)[i]?=some x->aT G0 w v x:=λi v x h1 h2=>by
  cases i with
  |zero=>simp at h1 h2;subst h1;subst h2;exact .ptr _ _ _ rfl
  |succ i=>
   simp only[mb,eP,aR]at h1 h2;cases hq:args[i]?with
   |none=>simp[hq]at h2
   |some y=>simp[hq]at h2;subst h2;exact .p _ _ (hr i v y h1 hq)
 obtain⟨hsz,ht⟩:=zN (n:=fn.ntmps) (vals:=Value.pointer (some ⟨b,0,none⟩)::vs) (args:=FV.ptr 999999 0::aH args) (by simp[eP,hl]) (by simp[eP];omega) oz;have hG:∀o b2,G0.loc o=some b2->o=999999/\b2=b:=λo b2 h=>by simp only[G0]at h;split at h;rename_i e;exact⟨e,(au h).symm⟩;cases h
 have hR:∀o r,G0.row o=some r->o=999999/\row=some r:=λo r h=>by simp only[G0]at h;split at h;rename_i e;exact⟨e,h⟩;cases h
 have hs:bp E G0 (VF fn.ntmps bs args) {tmps:=(Value.pointer (some ⟨b,0,none⟩)::vs).toArray++Array.replicate (fn.ntmps-(Value.pointer (some ⟨b,0,none⟩)::vs).toArray.size) undef,defers:=[]} w:=by refine⟨⟨rfl,rfl,rfl,ay _,λ_ _ _=>rfl,λk cs T fr _ q=>⟨cs,q,rfl⟩⟩,hsz,⟨⟨(λo l h=>by cases h),(λo b h=>by cases h),(λo o' b h=>by cases h),(λq x h=>by cases h),(λq r h=>by cases h),(λq q' r h=>by cases h),(λo o' b h=>by cases h),(λo T z k l b fW es h=>by cases h)⟩,rfl,λi vs fr h=>by simp[E]at h,rfl,λi k r st h=>by simp[E]at h,λi j k r r' h=>by simp[E]at h,λi k r h=>by simp[E]at h,λl h=>by simp[E]at h,⟨[],rfl,by simp[E],by simp[E]⟩,hJ.2⟩,⟨λo bs2 h=>?_,λo r h=>?_,λo r h=>?_⟩,λb o h=>.inl h,hi,λi hi'=>ht i hi',(λo cs ho=>by cases ho),(λo b2 h=>?_),(λo o' b2 h h'=>?_),(λo t b r _ h=>by cases h),(λt b s e T h=>by cases h),(λt t' b r r' h=>by cases h)⟩;simp only[VF,lN]at h;split at h;rename_i hq;obtain rfl:=aP hq;obtain rfl:=au h;exact⟨rfl,b,rfl,vR⟩;cases h;obtain⟨rfl,h⟩:=hR o r h;obtain⟨h1,h2,h3⟩:=acn r h;refine⟨.inr ⟨rfl,bq _ (Option.mem_toList.2 h)⟩,h2,λi=>hri r i h,λo' h'=>h1 (hG o' r h').2.symm,λt q h'=>(by cases h'),λo' h'=>(hR o' r h').1⟩;obtain⟨rfl,h⟩:=hR o r h;exact(acn r h).2.2;obtain⟨rfl,rfl⟩:=hG o b2 h;exact⟨aed,.inr ⟨rfl,_,rfl⟩,λi=>⟨hbi i,by simp[World.frozen?,hbk]⟩⟩;exact(hG o b2 h).1.trans (hG o' b2 h').1.symm
 refine(callsIn_wide (n:=0)).1 (callsIn_of_wp_marks hf hb trivial ?_ rfl);refine wpIn_mono (tN c (E:=E) (Dt C 6) (uS E) h ⟨_,hs⟩) ?_;have fin:∀{S':ai}{a':Act}{w':World},AQ C fn.results.toList bs' S'->pV E S' a' w'->LeavesInM Fence.wide 0 C.P fn a'.tmps (λe w'=>∃v,e=.returned v/\dh (λ_ _=>False) w' v (.eV [])/\(∃row',za C w' b row' bs'/\(row'=row\/row'=none\/∃x,row'=some x/\w.heap.size<=x))/\w'.os=w.os/\w'.tape=w.tape/\w'.output=w.output/\w.heap.size<=w'.heap.size/\∀k,k<w.heap.size->k≠b->row≠some k->w'.heap[k]?=w.heap[k]?) a'.defers .returning w':=λ{S' a' w'} hq ⟨G',hs'⟩=>by
  obtain⟨ms',hm',-,-⟩:=hs'.ext'.marks;rw[hm'];refine AE (E:=E) ms' rfl hs' rfl hm' λG2 a2 w2 hs2 ht2 hd2=>?_;unfold AQ at hq;obtain⟨vs,xs,r1,⟨r2,r7⟩,r3,r4,r5⟩:=qf hs2 _ _ hq;rw[<-ht2];obtain⟨-,b2,g1,g2⟩:=hs2.jl.at_ 999999 bs' r7;obtain rfl:b2=b:=by rcases(hs2.iz _ _ g1).2.1 with h|h;have :=h.2 rfl;cases this;obtain⟨q,h⟩:=h.2;injection h with h1 _;exact h1.symm
  refine⟨_,kS fn a2.tmps E.C.P w2 r1,_,rfl,((Ds r4 r5).fh r2).unit,⟨_,g2,?_⟩,hs2.kept.os,hs2.kept.tape,hs2.kept.output,hs2.kept.size,λk hk hkb hkr=>hs2.kept.block k hk (λhm=>?_)⟩;cases hq2:G2.row 999999 with
  |none=>exact .inr (.inl rfl)
  |some x=>
   rcases(hs2.jl.row _ x hq2).1 with h|h;exact .inr (.inr ⟨x,rfl,h⟩);left;rcases aQ.1 h.2 with rfl|hm;exact absurd g1 ((hs2.jl.row _ x hq2).2.2.2.1 999999);cases row with
   |none=>simp at hm
   |some r=>simp at hm;rw[hm]
  rcases aQ.1 hm with rfl|hm;exact hkb rfl;cases row with
  |none=>simp at hm
  |some r=>simp at hm;exact hkr (by rw[hm])
 rintro e a' w' ⟨S',hq,hs'⟩;cases e with
 |normal=>exact fin hq hs'
 |ret=>exact fin hq hs'
 |_=>exact hq.elim
theorem Bw {C:Ctx}(e:Extra)(l:List Nat){f:FuncId}{fn:Func}{args:List AV}{bs bs':List UInt8}(hf:C.P.funcs[f]?=some fn)(hb:fn.body.isSome=true)(hname:(fn.name== "runtime.NumGoroutine")=false)(hlen:Nat.ble (args.length+1) fn.ntmps=true)(h:ev ((C.cut l).open e) (match fn.body with|some c=>c|none=>.skip) (RQ ((C.cut l).open e) fn.results.toList bs') (VF fn.ntmps bs args)):vK C f args bs (some bs') (.eV []):=by obtain⟨c,hc⟩:=mg.1 hb;rw[hc]at h;exact OJ (C:=(C.cut l).open e) hf hc hname (gT hlen) h
end Qv
open Go Go.Proofs Go.RowKit
namespace Qv
def nG {α:Type}(p:α->Bool):List α->Nat->Int|[],_=>-1|x::l,i=>if p x=true then(i:Int)else nG p l (i+1)
theorem rE {α:Type}{p:α->Bool}{l:List α}{k:Nat}(h:k<l.length):nG p (l.drop k) k=if p l[k]=true then(k:Int)else nG p (l.drop (k+1)) (k+1):=by rw[bL h];rfl
theorem tU {α:Type}(p:α->Bool):∀(l:List α)(i:Nat),(nG p l i=-1/\l.find? p=none)\/∃k,∃h:k<l.length,nG p l i=((i+k:Nat):Int)/\l.find? p=some l[k]
 |[],i=>.inl ⟨rfl,rfl⟩
 |x::l,i=>by
  unfold nG;cases hp:p x with
  |true=>exact .inr ⟨0,by simp,by rw[af rfl];rfl,by simp[hp]⟩
  |false=>rw[aa dD];rcases tU p l (i+1)with⟨h1,h2⟩|⟨k,hk,h1,h2⟩;exact .inl ⟨h1,by rw[mw,hp];exact h2⟩;exact .inr ⟨k+1,by simpa using hk,by rw[h1];congr 1;omega,by rw[mw,hp];simpa using h2⟩
theorem ve {α:Type}(p:α->Bool)(l:List α):decide (0<=nG p l 0)=l.any p:=by
 rcases tU p l 0 with⟨h1,h2⟩|⟨k,hk,h1,h2⟩;rw[h1];have :l.any p=false:=by rw[oo]at h2;rw[Ej];exactλx hx=>h2 x hx
 rw[this];rfl;rw[h1];have :l.any p=true:=fR.2 ⟨l[k],aK hk,mz h2⟩;rw[this];exact an (DF _)
theorem JI (l:List bO)(g:FuncId)(c1:AV)(p:bO->Bool)(hp:∀x,x∈l->ak C g [.agg (mh x),c1] (λr=>r=.val (.bool (p x))))(hl:l.length<=2^47):ak C 119 [.sl (l.map mh),.fn (.func g) [] [c1]] (λr=>r=.val (.int .i64 (nG p l 0))):=by
 refine ag Tryz.func119 rfl rfl rfl ?_;refine bu 19 (λk:Nat=>[(0,.p (.sl (l.map mh))),(1,.p (.fn (.func g) [] [c1])),(7,.p (.int .i64 ((l.map mh).length:Int))),(8,.p (.int .i64 k))]) (λ_=>[]) (λk=>k<=l.length/\nG p l 0=nG p (l.drop k) k) (λk=>l.length-k) 0 ⟨zL,rfl⟩ rfl wS trivial ?_;rintro k ⟨hk,hE⟩;refine bQ (l:=l) (f:=mh) (λhlt=>?_) (λhge=>?_);rw[rE hlt]at hE;refine ix hlt ?_;refine cl (hp l[k] (aK _)) ?_;cases hq:p l[k]with
 |true=>rw[hq,af rfl]at hE;rw[hE];exact rfl
 |false=>rw[hq,aa dD]at hE;exact nx (k+1) (aO (k+1) ⟨hlt,hE⟩ oO rfl wS trivial)
 rw[cU oO]at hE;rw[hE];exact rfl
theorem UE (l:List bO)(g:FuncId)(c1 c2:AV)(p:bO->Bool)(hp:∀x,x∈l->ak C g [.agg (mh x),c1,c2] (λr=>r=.val (.bool (p x))))(hl:l.length<=2^47):ak C 119 [.sl (l.map mh),.fn (.func g) [] [c1,c2]] (λr=>r=.val (.int .i64 (nG p l 0))):=by
 refine ag Tryz.func119 rfl rfl rfl ?_;refine bu 19 (λk:Nat=>[(0,.p (.sl (l.map mh))),(1,.p (.fn (.func g) [] [c1,c2])),(7,.p (.int .i64 ((l.map mh).length:Int))),(8,.p (.int .i64 k))]) (λ_=>[]) (λk=>k<=l.length/\nG p l 0=nG p (l.drop k) k) (λk=>l.length-k) 0 ⟨zL,rfl⟩ rfl wS trivial ?_;rintro k ⟨hk,hE⟩;refine bQ (l:=l) (f:=mh) (λhlt=>?_) (λhge=>?_);rw[rE hlt]at hE;refine ix hlt ?_;refine cl (hp l[k] (aK _)) ?_;cases hq:p l[k]with
 |true=>rw[hq,af rfl]at hE;rw[hE];exact rfl
 |false=>rw[hq,aa dD]at hE;exact nx (k+1) (aO (k+1) ⟨hlt,hE⟩ oO rfl wS trivial)
 rw[cU oO]at hE;rw[hE];exact rfl
theorem UF (l:List Dg)(g:FuncId)(c1:AV)(p:Dg->Bool)(hp:∀x,x∈l->ak C g [.agg (cD x),c1] (λr=>r=.val (.bool (p x))))(hl:l.length<=2^47):ak C 244 [.sl (l.map cD),.fn (.func g) [] [c1]] (λr=>r=.val (.int .i64 (nG p l 0))):=by
 refine ag Tryz.func244 rfl rfl rfl ?_;refine bu 19 (λk:Nat=>[(0,.p (.sl (l.map cD))),(1,.p (.fn (.func g) [] [c1])),(7,.p (.int .i64 ((l.map cD).length:Int))),(8,.p (.int .i64 k))]) (λ_=>[]) (λk=>k<=l.length/\nG p l 0=nG p (l.drop k) k) (λk=>l.length-k) 0 ⟨zL,rfl⟩ rfl wS trivial ?_;rintro k ⟨hk,hE⟩;refine bQ (l:=l) (f:=cD) (λhlt=>?_) (λhge=>?_);rw[rE hlt]at hE;refine ix hlt ?_;refine cl (hp l[k] (aK _)) ?_;cases hq:p l[k]with
 |true=>rw[hq,af rfl]at hE;rw[hE];exact rfl
 |false=>rw[hq,aa dD]at hE;exact nx (k+1) (aO (k+1) ⟨hlt,hE⟩ oO rfl wS trivial)
 rw[cU oO]at hE;rw[hE];exact rfl
theorem acE (l:List Dg)(g:FuncId)(c1:AV)(p:Dg->Bool)(hp:∀x,x∈l->ak C g [.agg (cD x),c1] (λr=>r=.val (.bool (p x))))(hl:l.length<=2^47):ak C 208 [.sl (l.map cD),.fn (.func g) [] [c1]] (λr=>r=.val (.bool (l.any p))):=by refine ag Tryz.func208 rfl rfl rfl ?_;refine cl (UF l g c1 p hp hl) ?_;rw[<-ve p l];exact⟨λb hb=>by subst hb;rfl⟩
theorem AT (l:List bD)(g:FuncId)(c1:AV)(p:bD->Bool)(hp:∀x,x∈l->ak C g [.agg (cA x),c1] (λr=>r=.val (.bool (p x))))(hl:l.length<=2^47):ak C 88 [.sl (l.map cA),.fn (.func g) [] [c1]] (λr=>r=.val (.int .i64 (nG p l 0))):=by
 refine ag Tryz.func88 rfl rfl rfl ?_;refine bu 19 (λk:Nat=>[(0,.p (.sl (l.map cA))),(1,.p (.fn (.func g) [] [c1])),(7,.p (.int .i64 ((l.map cA).length:Int))),(8,.p (.int .i64 k))]) (λ_=>[]) (λk=>k<=l.length/\nG p l 0=nG p (l.drop k) k) (λk=>l.length-k) 0 ⟨zL,rfl⟩ rfl wS trivial ?_;rintro k ⟨hk,hE⟩;refine bQ (l:=l) (f:=cA) (λhlt=>?_) (λhge=>?_);rw[rE hlt]at hE;refine ix hlt ?_;refine cl (hp l[k] (aK _)) ?_;cases hq:p l[k]with
 |true=>rw[hq,af rfl]at hE;rw[hE];exact rfl
 |false=>rw[hq,aa dD]at hE;exact nx (k+1) (aO (k+1) ⟨hlt,hE⟩ oO rfl wS trivial)
 rw[cU oO]at hE;rw[hE];exact rfl
theorem Mz (l:List bD)(g:FuncId)(c1 c2:AV)(p:bD->Bool)(hp:∀x,x∈l->ak C g [.agg (cA x),c1,c2] (λr=>r=.val (.bool (p x))))(hl:l.length<=2^47):ak C 88 [.sl (l.map cA),.fn (.func g) [] [c1,c2]] (λr=>r=.val (.int .i64 (nG p l 0))):=by
 refine ag Tryz.func88 rfl rfl rfl ?_;refine bu 19 (λk:Nat=>[(0,.p (.sl (l.map cA))),(1,.p (.fn (.func g) [] [c1,c2])),(7,.p (.int .i64 ((l.map cA).length:Int))),(8,.p (.int .i64 k))]) (λ_=>[]) (λk=>k<=l.length/\nG p l 0=nG p (l.drop k) k) (λk=>l.length-k) 0 ⟨zL,rfl⟩ rfl wS trivial ?_;rintro k ⟨hk,hE⟩;refine bQ (l:=l) (f:=cA) (λhlt=>?_) (λhge=>?_);rw[rE hlt]at hE;refine ix hlt ?_;refine cl (hp l[k] (aK _)) ?_;cases hq:p l[k]with
 |true=>rw[hq,af rfl]at hE;rw[hE];exact rfl
 |false=>rw[hq,aa dD]at hE;exact nx (k+1) (aO (k+1) ⟨hlt,hE⟩ oO rfl wS trivial)
 rw[cU oO]at hE;rw[hE];exact rfl
theorem WH (l:List bD)(g:FuncId)(c1 c2:AV)(p:bD->Bool)(hp:∀x,x∈l->ak C g [.agg (cA x),c1,c2] (λr=>r=.val (.bool (p x))))(hl:l.length<=2^47):ak C 75 [.sl (l.map cA),.fn (.func g) [] [c1,c2]] (λr=>r=.val (.bool (l.any p))):=by refine ag Tryz.func75 rfl rfl rfl ?_;refine cl (Mz l g c1 c2 p hp hl) ?_;rw[<-ve p l];exact⟨λb hb=>by subst hb;rfl⟩
theorem UG (l:List bg)(g:FuncId)(c1 c2:AV)(p:bg->Bool)(hp:∀x,x∈l->ak C g [.agg (cI x),c1,c2] (λr=>r=.val (.bool (p x))))(hl:l.length<=2^47):ak C 154 [.sl (l.map cI),.fn (.func g) [] [c1,c2]] (λr=>r=.val (.int .i64 (nG p l 0))):=by
 refine ag Tryz.func154 rfl rfl rfl ?_;refine bu 19 (λk:Nat=>[(0,.p (.sl (l.map cI))),(1,.p (.fn (.func g) [] [c1,c2])),(7,.p (.int .i64 ((l.map cI).length:Int))),(8,.p (.int .i64 k))]) (λ_=>[]) (λk=>k<=l.length/\nG p l 0=nG p (l.drop k) k) (λk=>l.length-k) 0 ⟨zL,rfl⟩ rfl wS trivial ?_;rintro k ⟨hk,hE⟩;refine bQ (l:=l) (f:=cI) (λhlt=>?_) (λhge=>?_);rw[rE hlt]at hE;refine ix hlt ?_;refine cl (hp l[k] (aK _)) ?_;cases hq:p l[k]with
 |true=>rw[hq,af rfl]at hE;rw[hE];exact rfl
 |false=>rw[hq,aa dD]at hE;exact nx (k+1) (aO (k+1) ⟨hlt,hE⟩ oO rfl wS trivial)
 rw[cU oO]at hE;rw[hE];exact rfl
theorem acF (l:List bg)(g:FuncId)(c1 c2:AV)(p:bg->Bool)(hp:∀x,x∈l->ak C g [.agg (cI x),c1,c2] (λr=>r=.val (.bool (p x))))(hl:l.length<=2^47):ak C 124 [.sl (l.map cI),.fn (.func g) [] [c1,c2]] (λr=>r=.val (.bool (l.any p))):=by refine ag Tryz.func124 rfl rfl rfl ?_;refine cl (UG l g c1 c2 p hp hl) ?_;rw[<-ve p l];exact⟨λb hb=>by subst hb;rfl⟩
theorem Sc (l:List Dg)(d:Dg)(hl:l.length<=2^47):ak C 196 [.sl (jo l),.agg (cD d)] (λr=>r=.val (.int .i64 (nG (λx=>decide (d=x)) l 0))):=by unfold jo;refine ag Tryz.func196 rfl rfl rfl ?_;refine bu 19 (λk:Nat=>[(0,.p (.sl (l.map cD))),(3,.ptr 3 0),(7,.p (.int .i64 ((l.map cD).length:Int))),(8,.p (.int .i64 k))]) (λ_=>[(3,aH (cD d))]) (λk=>k<=l.length/\nG (λx=>decide (d=x)) l 0=nG (λx=>decide (d=x)) (l.drop k) k) (λk=>l.length-k) 0 ⟨zL,rfl⟩ rfl wS oS ?_;rintro k ⟨hk,hE⟩;refine bQ (l:=l) (f:=cD) (λhlt=>?_) (λhge=>?_);rw[rE hlt]at hE;refine cm 6 kK ?_;refine ix hlt ?_;refine⟨yX,dQ,lq,rfl,rfl,?_⟩;refine IQ (a:=d) (b:=l[k]) ?_;by_cases hq:d=l[k];rw[an hq];rw[af (an hq)]at hE;rw[hE];exact rfl;rw[ah hq];rw[aa (by rw[ah hq];decide)]at hE;exact nx (k+1) (aO (k+1) ⟨hlt,hE⟩ oO rfl wS oS);rw[cU oO]at hE;rw[hE];exact rfl
theorem JJ (l:List Dg)(d:Dg)(hl:l.length<=2^47):ak C 156 [.sl (jo l),.agg (cD d)] (λr=>r=.val (.bool (decide (d∈l)))):=by
 refine ag Tryz.func156 rfl rfl rfl ?_;refine cl (Sc l d hl) ?_;have e:decide (d∈l)=decide (0<=nG (λx=>decide (d=x)) l 0):=by rw[ve];by_cases h:d∈l;rw[an h];exact(fR.2 ⟨d,h,by simp⟩).symm;rw[ah h];refine(Ej.2 λx hx=>?_).symm;intro g;exact h (qx g▸hx)
 rw[e];exact⟨λb hb=>by subst hb;rfl⟩
theorem MA (x:bO)(d:Dg):ak C 120 [.agg (mh x),.imp (cD d)] (λr=>r=.val (.bool (decide (x.id=d)))):=by refine ag Tryz.func120 rfl rfl rfl ?_;refine⟨yX,dQ,lq,rfl,rfl,?_⟩;refine IQ (a:=x.id) (b:=d) ?_;exact rfl
theorem Sd (s:List bO)(x:bO)(d:Dg)(hx:s.find? (λx=>decide (x.id=d))=some x)(hl:s.length<=2^40):ak C 92 [.sl (cn s),.agg (cD d)] (λr=>r=.val (.eV [.agg (cP x.pat),.bool true])):=by unfold cn;refine ag Tryz.func92 rfl rfl rfl ?_;refine⟨[3],cu (cells:=aH (cD d)) (ys:=cD d) rfl (bk _) rfl ?_⟩;refine cl (JI s 120 (.imp (cD d)) (λx=>decide (x.id=d)) (λx _=>MA x d) oO) ?_;rcases tU (λx:bO=>decide (x.id=d)) s 0 with⟨-,h2⟩|⟨k,hk,h1,h2⟩;rw[hx]at h2;cases h2;rw[h1];rw[hx]at h2;obtain rfl:=au h2;refine az (λh=>absurd h oO) (λ_=>?_);refine⟨oO,mh s[k],by rw[cM];exact ct rfl hk,rfl,?_⟩;exact rfl
theorem HF (a b:Dg):kg (.agg (cD a)) (.agg (cD b))=decide (a=b):=Wc a b
theorem agx (d:Dg):gB true yX (.agg (cD d))=true:=rfl
def dE (l:List Dg):List (AV×FV):=l.map λd=>(.agg (cD d),.p (.bool true))
def dK (l:List Dg):List AV:=l.map λd=>.agg (cD d)
def dV (l:List Dg):List AV:=l.map λ_=>.bool true
theorem vg (l:List Dg):∀p,p∈dE l->gB true yX p.1=true:=by intro p hp;obtain⟨d,-,rfl⟩:=aI.1 hp;exact agx d
theorem AU (l:List Dg)(d:Dg):rW (.agg (cD d)) (dE l)=if d∈l then some (.p (.bool true))else none:=by
 induction l with
 |nil=>rfl
 |cons x l ih=>show(match kg (.agg (cD d)) (.agg (cD x))with|true=>some (FV.p (.bool true))|false=>rW (.agg (cD d)) (dE l))=_;rw[HF,ih];by_cases h:d=x;subst h;rw[an rfl,af (gq ..)];rw[ah h];by_cases h2:d∈l;rw[af h2,af (bq _ h2)];rw[aa h2,aa (by simp[h,h2])]
theorem acG {l:List Dg}{d:Dg}(h:d∉l):Cy (.agg (cD d)) (.p (.bool true)) (dE l)=dE (l++[d]):=by
 induction l with
 |nil=>rfl
 |cons x l ih=>show(match kg (.agg (cD d)) (.agg (cD x))with|true=>_|false=>(AV.agg (cD x),FV.p (.bool true))::Cy (.agg (cD d)) (.p (.bool true)) (dE l))=_;rw[HF,ah (λe=>h (by rw[e];simp)),ih (λg=>h (bq _ g))];rfl
theorem yp:∀l:List Dg,Cz (dK l) (aH (dV l))=dE l|[]=>rfl|d::l=>by show(_::Cz (dK l) (aH (dV l)))=_;rw[yp l];rfl
theorem WI:∀l:List Dg,gC (dE l)=dK l|[]=>rfl|d::l=>by show(_::gC (dE l))=_;rw[WI l];rfl
theorem WJ:∀l:List Dg,FV.fD (tY (dE l))=some (dV l)|[]=>rfl|d::l=>by show FV.fD (FV.p (.bool true)::tY (dE l))=_;simp only[FV.fD,FV.fh,WJ l];rfl
theorem rS (k:Nat):∀l:List Dg,Cu (FV.kill k) (dE l)=dE l|[]=>rfl|d::l=>by show((AV.agg (cD d),FV.p (.bool true))::Cu (FV.kill k) (dE l))=_;rw[rS k l];rfl
section
variable (N:ga->List Dg)
def gE (s:List bO):List (AV×FV):=s.map λx=>(.agg (cD x.id),.p (.sl (jo (N x.pat))))
def UH (s:List bO):List AV:=s.map λx=>.agg (cD x.id)
def UI (s:List bO):List AV:=s.map λx=>.sl (jo (N x.pat))
theorem Ek (s:List bO):∀p,p∈gE N s->gB true yX p.1=true:=by intro p hp;obtain⟨d,-,rfl⟩:=aI.1 hp;exact agx d.id
theorem HG (s:List bO)(d:Dg):rW (.agg (cD d)) (gE N s)=(s.find? λx=>decide (x.id=d)).map λx=>.p (.sl (jo (N x.pat))):=by
 induction s with
 |nil=>rfl
 |cons x s ih=>show(match kg (.agg (cD d)) (.agg (cD x.id))with|true=>some (FV.p (.sl (jo (N x.pat))))|false=>rW (.agg (cD d)) (gE N s))=_;rw[HF,ih,mw];by_cases h:d=x.id;rw[an h,an h.symm];rfl;rw[ah h,ah (eO h)]
theorem ahG {s:List bO}{x:bO}(h:x.id∉s.map λy=>y.id):Cy (.agg (cD x.id)) (.p (.sl (jo (N x.pat)))) (gE N s)=gE N (s++[x]):=by
 induction s with
 |nil=>rfl
 |cons y s ih=>show(match kg (.agg (cD x.id)) (.agg (cD y.id))with|true=>_|false=>(AV.agg (cD y.id),FV.p (.sl (jo (N y.pat))))::Cy (.agg (cD x.id)) (.p (.sl (jo (N x.pat)))) (gE N s))=_;rw[HF,ah (λe=>h (by rw[e];simp)),ih (λg=>h (by simp at g⊢;exact .inr g))];rfl
theorem yq:∀s:List bO,Cz (UH s) (aH (UI N s))=gE N s|[]=>rfl|x::s=>by show(_::Cz (UH s) (aH (UI N s)))=_;rw[yq s];rfl
theorem WK:∀s:List bO,gC (gE N s)=UH s|[]=>rfl|x::s=>by show(_::gC (gE N s))=_;rw[WK s];rfl
theorem WL:∀s:List bO,FV.fD (tY (gE N s))=some (UI N s)|[]=>rfl|x::s=>by show FV.fD (FV.p (.sl (jo (N x.pat)))::tY (gE N s))=_;simp only[FV.fD,FV.fh,WL s];rfl
theorem OQ (k:Nat):∀s:List bO,Cu (FV.kill k) (gE N s)=gE N s|[]=>rfl|x::s=>by show((AV.agg (cD x.id),FV.p (.sl (jo (N x.pat))))::Cu (FV.kill k) (gE N s))=_;rw[OQ k s];rfl
theorem dP {maps:List (Nat×List (AV×FV))}{o:Nat}{l0 l:List (AV×FV)}(h:getM maps o=some l0)(e:l0=l):∃l0,getM maps o=some l0/\l0.length=l.length/\∀(i:Nat)(p p':AV×FV),l0[i]?=some p->l[i]?=some p'->p'.1=p.1/\aF p.2 p'.2:=by subst e;exact nB h
def El (s:List bO):Prop:=∀x,x∈s->ak C 237 [.agg (cP x.pat)] (λr=>r=.val (.sl (jo (N x.pat))))
theorem GK (s:List bO)(hN:El N s)(hn:(s.map λx=>x.id).Nodup)(hl:s.length<=2^40):ak C 194 [.sl (cn s)] (λr=>r=.val (.mp (UH s) (UI N s))):=by
 unfold cn;refine bn {opens:=[],BB:=[],full:=false} [] Tryz.func194 rfl rfl rfl ?_;refine we 21 0 (λk:Nat=>[(3,.fI 6),(7,.p (.sl (s.map mh))),(8,.p (.int .i64 ((s.map mh).length:Int))),(9,.p (.int .i64 k))]) (λ_=>[]) (λ_=>[]) [] (λ_=>[]) (λk=>[(6,gE N (s.take k))]) (λ_=>[]) (λk=>k<=s.length) (λk=>s.length-k) 0 (zL) kK wS trivial trivial trivial ⟨nB kK,trivial⟩ trivial ?_;intro k hk;refine bQ (l:=s) (f:=mh) (λhlt=>?_) (λhge=>?_);have hne:=hN s[k] (aK _);have iX:(s.map mh)[((k:Nat):Int).toNat]?=some (mh s[k]):=ct rfl hlt;have hnew:s[k].id∉(s.take k).map λy=>y.id:=by
  intro hm;have h1:(s.map λx=>x.id)=(s.take k).map (λx=>x.id)++(s.drop k).map (λx=>x.id):=by rw[<-aM,cT]
  rw[h1,kz]at hn;exact hn.2.2 _ hm _ (aI.2 ⟨s[k],by rw[bL hlt];exact gq ..,rfl⟩) rfl
 have hup:=ahG N hnew;rw[<-ec hlt]at hup;generalize s[k]=x at hne iX hup;refine⟨oO,_,iX,rfl,?_⟩;refine cm 6 kK ?_;refine⟨_,hne.dN,?_⟩;refine⟨yX,dQ,rfl,(by rw[OQ];exact Ek N _),gE N (s.take (k+1)),(by rw[OQ];exact hup),?_⟩;exact nx (k+1) (mU (k+1) hlt oO kK wS trivial trivial trivial ⟨nB kK,trivial⟩ trivial);obtain rfl:k=s.length:=oO
 rw[aJ];exact⟨UH s,UI N s,⟨_,rfl,WK N s,WL N s⟩,rfl⟩
theorem Se (d:Dg)(out:List Dg):ak C 209 [.agg (cD d),.imp [.mp (dK out) (dV out)]] (λr=>r=.val (.bool (!decide (d∈out)))):=by refine ag Tryz.func209 rfl rfl rfl ?_;by_cases h:d∈out;rw[an h];refine⟨yX,dQ,rfl,(by rw[yp];exact vg out),some (.p (.bool true)),(by rw[yp];exact(AU out d).trans (af h)),?_⟩;refine bl ?_;exact rfl;rw[ah h];refine⟨yX,dQ,rfl,(by rw[yp];exact vg out),none,(by rw[yp];exact(AU out d).trans (aa h)),.bool false,kK,?_⟩;refine bl ?_;exact rfl
def Em (out:List Dg)(x:bO):Bool:=!decide (x.id∈out)&&!((N x.pat).any λd=>!decide (d∈out))
theorem Sf (s:List bO)(x:bO)(hx:s.find? (λy=>decide (y.id=x.id))=some x)(out:List Dg)(hl:(N x.pat).length<=2^47):ak C 207 [.agg (mh x),.imp [.mp (dK out) (dV out)],.imp [.mp (UH s) (UI N s)]] (λr=>r=.val (.bool (Em N out x))):=by refine bn {opens:=[],BB:=[],full:=false} [] Tryz.func207 rfl rfl rfl ?_;refine⟨none,?_⟩;unfold Em;by_cases h:x.id∈out;rw[an h];refine⟨yX,dQ,rfl,(by rw[yp];exact vg out),some (.p (.bool true)),(by rw[yp];exact(AU out x.id).trans (af h)),?_⟩;refine bl ?_;exact rfl;rw[ah h];refine⟨yX,dQ,rfl,(by rw[yp];exact vg out),none,(by rw[yp];exact(AU out x.id).trans (aa h)),.bool false,kK,?_⟩;refine bl ?_;refine⟨yX,dQ,rfl,(by rw[yq];exact Ek N s),some (.p (.sl (jo (N x.pat)))),(by rw[yq];exact(HG N s x.id).trans (by rw[hx];rfl)),?_⟩;refine⟨[],?_⟩;refine cl (acE (N x.pat) 209 (.imp [.mp (dK out) (dV out)]) (λd=>!decide (d∈out)) (λd _=>Se d out) hl).dN ?_;refine bl ?_;exact rfl
def Ho (s:List bO):Nat->List Dg->List Dg|0,out=>out|n+1,out=>match s.find? (Em N out)with|none=>out|some x=>Ho s n (out++[x.id])
theorem HH {s:List bO}(hn:(s.map λx=>x.id).Nodup){x:bO}(hx:x∈s):s.find? (λy=>decide (y.id=x.id))=some x:=by
 induction s with
 |nil=>cases hx
 |cons y s ih=>rw[cS,kD]at hn;rw[mw];rcases aQ.1 hx with rfl|hx;simp;have :y.id≠x.id:=λe=>hn.1 (aI.2 ⟨x,hx,e.symm⟩);rw[ah this];exact ih hn.2 hx
theorem Sg (s:List bO)(hN:El N s)(hn:(s.map λx=>x.id).Nodup)(hl:s.length<=2^30)(hNl:∀x,x∈s->(N x.pat).length<=2^47):ak C 179 [.sl (cn s)] (λr=>r=.val (.sl (jo (Ho N s s.length [])))):=by
 have hg:=GK N s hN hn oO;unfold cn at hg⊢;refine bn {opens:=[],BB:=[],full:=false} [] Tryz.func179 rfl rfl rfl ?_;refine cl hg.dN ?_;refine we 35 0 (λx:Nat×List Dg=>[(0,.p (.sl (s.map mh))),(3,.ptr 3 0),(4,.ptr 4 0),(5,.eH 32 31 32 (jo x.2)),(11,.p (.int .i64 ((s.map mh).length:Int))),(12,.p (.int .i64 x.1))]) (λ_=>[(3,[.p (.mp (UH s) (UI N s))]),(4,[.fI 9])]) (λ_=>[]) [] (λ_=>[]) (λx=>[(9,dE x.2)]) (λ_=>[]) (λx=>x.1<=s.length/\x.2.length<=x.1/\Ho N s s.length []=Ho N s (s.length-x.1) x.2) (λx=>s.length-x.1) (0,[]) ⟨zL,ay _,rfl⟩ kK ⟨aF.eq kK,aF.eq kK,aF.eq kK,aF.mI _ _ _,aF.eq kK,aF.eq kK,trivial⟩ oS trivial trivial ⟨nB kK,trivial⟩ trivial ?_;rintro⟨k,out⟩ ⟨hk,Ua,hE⟩;have hk:k<=s.length:=hk;have Ua:out.length<=k:=Ua;have hE:Ho N s s.length []=Ho N s (s.length-k) out:=hE;refine bQ (l:=s) (f:=mh) (λhlt=>?_) (λhge=>?_);rw[show s.length-k=(s.length-(k+1))+1 from oO]at hE;have hE:Ho N s s.length []=(match s.find? (Em N out)with|none=>out|some x=>Ho N s (s.length-(k+1)) (out++[x.id])):=hE;refine⟨[],?_⟩;refine .inr (.inl (.inr ⟨[.sl (s.map mh),.fn (.func 207) [] [.imp [.mp (dK out) (dV out)],.imp [.mp (UH s) (UI N s)]]],_,.cons (.plain rfl) (.cons (.fn .nil (.cons (.ptr rfl (.cons (.fI rfl (WI out) (.plain (WJ out))) .nil) (λy hy=>by rw[aS.1 hy];rfl)) (.cons (.ptr rfl (.plain rfl) (λy hy=>by rw[aS.1 hy];rfl)) .nil))) .nil),(UE s 207 _ _ (Em N out) (λx hx=>Sf N s x (HH hn hx) out (hNl x hx)) oO).dN,λr hr=>?_⟩));subst hr;refine⟨⟨_,rfl,rfl⟩,?_⟩;rcases tU (Em N out) s 0 with⟨h1,h2⟩|⟨i,hi,h1,h2⟩;rw[h1];rw[h2]at hE;refine az (λ_=>?_) (λh=>absurd (show(-1:Int)<0 by decide) h);rw[hE];exact .inr rfl;rw[h1];rw[h2]at hE;refine az (λh=>absurd h oO) (λ_=>?_);have BK:=mz h2;have hnew:s[i].id∉out:=by unfold Em at BK;simp only[aW,eC,decide_eq_false_iff_not]at BK;exact BK.1
 have iX:(s.map mh)[((0+i:Nat):Int).toNat]?=some (mh s[i]):=by rw[cM];exact ct rfl hi
 generalize s[i]=x at hE hnew iX;refine cm 6 kK ?_;refine⟨oO,_,iX,rfl,?_⟩;refine⟨yX,dQ,rfl,vg out,dE (out++[x.id]),acG hnew,?_⟩;refine⟨oO,_,iX,rfl,?_⟩;refine⟨(λzs hz=>by obtain⟨y,-,rfl⟩:=aI.1 hz;rfl),(λzs h=>by rw[aS.1 h];rfl),by show((jo out).length+1)*32<=_;rw[show(jo out).length=out.length from by simp[jo]];omega,jo (out++[x.id]),by unfold jo;rw[aM];rfl,?_⟩;exact nx (k+1) (mU (k+1,out++[x.id]) ⟨hlt,by show(out++[x.id]).length<=k+1;rw[aq];simp only[fP];omega,hE⟩ (by show s.length-(k+1)<s.length-k;omega) kK wS oS trivial trivial ⟨dP rfl (by simp only[rS]),trivial⟩ trivial);obtain rfl:k=s.length:=oO
 rw[Nat.sub_self]at hE;have hE:Ho N s s.length []=out:=hE;rw[hE];exact .inr rfl
end
end Qv
