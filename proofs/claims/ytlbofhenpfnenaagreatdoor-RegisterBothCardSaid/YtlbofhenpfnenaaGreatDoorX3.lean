/- Part 10 of the proof: its lemmas. No condition. -/
import Derived.Test.YtlbofhenpfnenaaGreatDoorW7
set_option maxRecDepth 10000
set_option maxHeartbeats 80000000
set_option linter.all false
open Go Go.Proofs Go.RowKit
namespace Qv
theorem uP {S:ah}(n off:Nat)(rel:List (Nat×FV))(aJ:List (Nat×List FV))(bF:List (Nat×Nat×List (Nat×FV)))(bV:List yg){K:ah->Prop}(hn:(n,off,bV)=(S.n,S.off,S.bV))(h1:yj S.tmps rel)(h2:AG S.aJ aJ)(h3:Kl S.bF bF)(h:K (rA n off rel aJ bF bV [])):∃T,bL S T/\K T:=⟨_,bu (cw:=[]) hn h1 h2 h3 trivial,h⟩
def bR (own:List bw):List FV:=aF (fH own).flatten
theorem ag8 (x:bw)(y:AV)(h:y∈cA x):y.one=true:=bU.1 (show(cA x).all AV.one=true from rfl) y h
theorem jG (own:List bw):∀ys,ys∈fH own->ys.length=172/\∀y,y∈ys->y.one=true:=by intro ys h;obtain⟨x,-,rfl⟩:=aA.1 h;exact⟨rfl,λy hy=>ag8 x y hy⟩
theorem jA (own:List bw):(bR own).length=own.length*172:=by unfold bR;rw[iP,gF (e:=172) λzs h=>(jG own zs h).1];simp[fH]
theorem qk (own:List bw)(o:Nat):FV.eL o (bR own)=bR own:=iX o _
theorem sQ {aJ:List (Nat×List FV)}{o:Nat}{own:List bw}(k:Nat)(h:Qv.getObj aJ o=some (FV.eL k (bR own))):∃ys,Qv.getObj aJ o=some ys/\ys.length=(bR own).length/\∀(i:Nat)(x y:FV),ys[i]?=some x->(bR own)[i]?=some y->aR x y:=by rw[qk]at h;exact aB h
theorem aeV {aJ:List (Nat×List FV)}{o:Nat}{own:List bw}(k j:Nat)(h:Qv.getObj aJ o=some (FV.eL k (FV.eL j (bR own)))):∃ys,Qv.getObj aJ o=some ys/\ys.length=(bR own).length/\∀(i:Nat)(x y:FV),ys[i]?=some x->(bR own)[i]?=some y->aR x y:=by rw[qk,qk]at h;exact aB h
theorem Du (own:List bw)(o:Nat):(FV.eL o (bR own)).length=own.length*172:=by rw[qk];exact jA own
theorem ag9 (own:List bw)(x:bw)(o:Nat):FV.eL o (bR own++aF [cA x].flatten)=bR (own++[x]):=by
 have :bR own++aF [cA x].flatten=bR (own++[x]):=by unfold bR fH;rw[aN,xy,eO,eO,eO,aN];rfl
 rw[this];exact iX o _
theorem GI (own:List bw)(x:bw)(o o2:Nat):FV.eL o (FV.eL o2 (bR own)++aF [cA x].flatten)=bR (own++[x]):=by rw[qk];exact ag9 own x o
theorem Rf {X:List AV}(h:∀y,y∈X->y.one=true):iW (aF X)=true:=by refine oP.2 λy hy=>?_;rw[eO]at hy;obtain⟨z,hz,rfl⟩:=aA.1 hy;exact h z hz
theorem LC (own:List bw):iW (bR own)=true:=Rf λy hy=>by obtain⟨zs,hzs,hy⟩:=wL.1 hy;exact(jG own zs hzs).2 y hy
theorem rR (a b:List bw):bR (a++b)=bR a++bR b:=by unfold bR fH;rw[aN,xy,eO,eO,eO,aN]
theorem IN (a:bw):bR [a]=aF (cA a):=by unfold bR fH;simp
def nD {α:Type}(p:α->Bool):List α->Nat->Int|[],_=>-1|x::l,i=>if p x=true then(i:Int)else nD p l (i+1)
theorem qZ {α:Type}{p:α->Bool}{l:List α}{k:Nat}(h:k<l.length):nD p (l.drop k) k=if p l[k]=true then(k:Int)else nD p (l.drop (k+1)) (k+1):=by rw[bQ h];rfl
theorem td {α:Type}(p:α->Bool):∀(l:List α)(i:Nat),(nD p l i=-1/\l.find? p=none)\/∃k,∃h:k<l.length,nD p l i=((i+k:Nat):Int)/\l.find? p=some l[k]
 |[],i=>.inl ⟨rfl,rfl⟩
 |x::l,i=>by
  unfold nD;cases hp:p x with
  |true=>exact .inr ⟨0,by simp,by rw[af rfl];rfl,by simp[hp]⟩
  |false=>rw[aa dD];rcases td p l (i+1)with⟨h1,h2⟩|⟨k,hk,h1,h2⟩;exact .inl ⟨h1,by rw[mo,hp];exact h2⟩;exact .inr ⟨k+1,by simpa using hk,by rw[h1];congr 1;omega,by rw[mo,hp];simpa using h2⟩
theorem uz {α:Type}(p:α->Bool)(l:List α):decide (0<=nD p l 0)=l.any p:=by
 rcases td p l 0 with⟨h1,h2⟩|⟨k,hk,h1,h2⟩;rw[h1];have :l.any p=false:=by rw[nW]at h2;rw[List.any_eq_false];exactλx hx=>h2 x hx
 rw[this];rfl;rw[h1];have :l.any p=true:=fS.2 ⟨l[k],aL hk,mq h2⟩;rw[this];exact av (De _)
theorem IZ (l:List bK)(g:FuncId)(c1:AV)(p:bK->Bool)(hp:∀x,x∈l->aj C g [.agg (mO x),c1] (λr=>r=.val (.bool (p x))))(hl:l.length<=2^47):aj C 119 [.sl (l.map mO),.fn (.func g) [] [c1]] (λr=>r=.val (.int .i64 (nD p l 0))):=by
 refine ag Tryz.func119 rfl rfl rfl ?_;refine bI 19 (λk:Nat=>[(0,.p (.sl (l.map mO))),(1,.p (.fn (.func g) [] [c1])),(7,.p (.int .i64 ((l.map mO).length:Int))),(8,.p (.int .i64 k))]) (λ_=>[]) (λk=>k<=l.length/\nD p l 0=nD p (l.drop k) k) (λk=>l.length-k) 0 ⟨zL,rfl⟩ rfl wS trivial ?_;rintro k ⟨hk,hE⟩;refine bY (l:=l) (f:=mO) (λhlt=>?_) (λhge=>?_);rw[qZ hlt]at hE;refine ix hlt ?_;refine cl (hp l[k] (aL _)) ?_;cases hq:p l[k]with
 |true=>rw[hq,af rfl]at hE;rw[hE];exact rfl
 |false=>rw[hq,aa dD]at hE;exact nx (k+1) (aU (k+1) ⟨hlt,hE⟩ oO rfl wS trivial)
 rw[dG oO]at hE;rw[hE];exact rfl
theorem Uf (l:List bK)(g:FuncId)(c1 c2:AV)(p:bK->Bool)(hp:∀x,x∈l->aj C g [.agg (mO x),c1,c2] (λr=>r=.val (.bool (p x))))(hl:l.length<=2^47):aj C 119 [.sl (l.map mO),.fn (.func g) [] [c1,c2]] (λr=>r=.val (.int .i64 (nD p l 0))):=by
 refine ag Tryz.func119 rfl rfl rfl ?_;refine bI 19 (λk:Nat=>[(0,.p (.sl (l.map mO))),(1,.p (.fn (.func g) [] [c1,c2])),(7,.p (.int .i64 ((l.map mO).length:Int))),(8,.p (.int .i64 k))]) (λ_=>[]) (λk=>k<=l.length/\nD p l 0=nD p (l.drop k) k) (λk=>l.length-k) 0 ⟨zL,rfl⟩ rfl wS trivial ?_;rintro k ⟨hk,hE⟩;refine bY (l:=l) (f:=mO) (λhlt=>?_) (λhge=>?_);rw[qZ hlt]at hE;refine ix hlt ?_;refine cl (hp l[k] (aL _)) ?_;cases hq:p l[k]with
 |true=>rw[hq,af rfl]at hE;rw[hE];exact rfl
 |false=>rw[hq,aa dD]at hE;exact nx (k+1) (aU (k+1) ⟨hlt,hE⟩ oO rfl wS trivial)
 rw[dG oO]at hE;rw[hE];exact rfl
theorem Ug (l:List Dg)(g:FuncId)(c1:AV)(p:Dg->Bool)(hp:∀x,x∈l->aj C g [.agg (cD x),c1] (λr=>r=.val (.bool (p x))))(hl:l.length<=2^47):aj C 244 [.sl (l.map cD),.fn (.func g) [] [c1]] (λr=>r=.val (.int .i64 (nD p l 0))):=by
 refine ag Tryz.func244 rfl rfl rfl ?_;refine bI 19 (λk:Nat=>[(0,.p (.sl (l.map cD))),(1,.p (.fn (.func g) [] [c1])),(7,.p (.int .i64 ((l.map cD).length:Int))),(8,.p (.int .i64 k))]) (λ_=>[]) (λk=>k<=l.length/\nD p l 0=nD p (l.drop k) k) (λk=>l.length-k) 0 ⟨zL,rfl⟩ rfl wS trivial ?_;rintro k ⟨hk,hE⟩;refine bY (l:=l) (f:=cD) (λhlt=>?_) (λhge=>?_);rw[qZ hlt]at hE;refine ix hlt ?_;refine cl (hp l[k] (aL _)) ?_;cases hq:p l[k]with
 |true=>rw[hq,af rfl]at hE;rw[hE];exact rfl
 |false=>rw[hq,aa dD]at hE;exact nx (k+1) (aU (k+1) ⟨hlt,hE⟩ oO rfl wS trivial)
 rw[dG oO]at hE;rw[hE];exact rfl
theorem ab3 (l:List Dg)(g:FuncId)(c1:AV)(p:Dg->Bool)(hp:∀x,x∈l->aj C g [.agg (cD x),c1] (λr=>r=.val (.bool (p x))))(hl:l.length<=2^47):aj C 208 [.sl (l.map cD),.fn (.func g) [] [c1]] (λr=>r=.val (.bool (l.any p))):=by refine ag Tryz.func208 rfl rfl rfl ?_;refine cl (Ug l g c1 p hp hl) ?_;rw[<-uz p l];exact⟨λb hb=>by subst hb;rfl⟩
theorem Ar (l:List bw)(g:FuncId)(c1:AV)(p:bw->Bool)(hp:∀x,x∈l->aj C g [.agg (cA x),c1] (λr=>r=.val (.bool (p x))))(hl:l.length<=2^47):aj C 88 [.sl (l.map cA),.fn (.func g) [] [c1]] (λr=>r=.val (.int .i64 (nD p l 0))):=by
 refine ag Tryz.func88 rfl rfl rfl ?_;refine bI 19 (λk:Nat=>[(0,.p (.sl (l.map cA))),(1,.p (.fn (.func g) [] [c1])),(7,.p (.int .i64 ((l.map cA).length:Int))),(8,.p (.int .i64 k))]) (λ_=>[]) (λk=>k<=l.length/\nD p l 0=nD p (l.drop k) k) (λk=>l.length-k) 0 ⟨zL,rfl⟩ rfl wS trivial ?_;rintro k ⟨hk,hE⟩;refine bY (l:=l) (f:=cA) (λhlt=>?_) (λhge=>?_);rw[qZ hlt]at hE;refine ix hlt ?_;refine cl (hp l[k] (aL _)) ?_;cases hq:p l[k]with
 |true=>rw[hq,af rfl]at hE;rw[hE];exact rfl
 |false=>rw[hq,aa dD]at hE;exact nx (k+1) (aU (k+1) ⟨hlt,hE⟩ oO rfl wS trivial)
 rw[dG oO]at hE;rw[hE];exact rfl
theorem LX (l:List bw)(g:FuncId)(c1 c2:AV)(p:bw->Bool)(hp:∀x,x∈l->aj C g [.agg (cA x),c1,c2] (λr=>r=.val (.bool (p x))))(hl:l.length<=2^47):aj C 88 [.sl (l.map cA),.fn (.func g) [] [c1,c2]] (λr=>r=.val (.int .i64 (nD p l 0))):=by
 refine ag Tryz.func88 rfl rfl rfl ?_;refine bI 19 (λk:Nat=>[(0,.p (.sl (l.map cA))),(1,.p (.fn (.func g) [] [c1,c2])),(7,.p (.int .i64 ((l.map cA).length:Int))),(8,.p (.int .i64 k))]) (λ_=>[]) (λk=>k<=l.length/\nD p l 0=nD p (l.drop k) k) (λk=>l.length-k) 0 ⟨zL,rfl⟩ rfl wS trivial ?_;rintro k ⟨hk,hE⟩;refine bY (l:=l) (f:=cA) (λhlt=>?_) (λhge=>?_);rw[qZ hlt]at hE;refine ix hlt ?_;refine cl (hp l[k] (aL _)) ?_;cases hq:p l[k]with
 |true=>rw[hq,af rfl]at hE;rw[hE];exact rfl
 |false=>rw[hq,aa dD]at hE;exact nx (k+1) (aU (k+1) ⟨hlt,hE⟩ oO rfl wS trivial)
 rw[dG oO]at hE;rw[hE];exact rfl
theorem VT (l:List bw)(g:FuncId)(c1 c2:AV)(p:bw->Bool)(hp:∀x,x∈l->aj C g [.agg (cA x),c1,c2] (λr=>r=.val (.bool (p x))))(hl:l.length<=2^47):aj C 75 [.sl (l.map cA),.fn (.func g) [] [c1,c2]] (λr=>r=.val (.bool (l.any p))):=by refine ag Tryz.func75 rfl rfl rfl ?_;refine cl (LX l g c1 c2 p hp hl) ?_;rw[<-uz p l];exact⟨λb hb=>by subst hb;rfl⟩
theorem Uh (l:List bf)(g:FuncId)(c1 c2:AV)(p:bf->Bool)(hp:∀x,x∈l->aj C g [.agg (cI x),c1,c2] (λr=>r=.val (.bool (p x))))(hl:l.length<=2^47):aj C 154 [.sl (l.map cI),.fn (.func g) [] [c1,c2]] (λr=>r=.val (.int .i64 (nD p l 0))):=by
 refine ag Tryz.func154 rfl rfl rfl ?_;refine bI 19 (λk:Nat=>[(0,.p (.sl (l.map cI))),(1,.p (.fn (.func g) [] [c1,c2])),(7,.p (.int .i64 ((l.map cI).length:Int))),(8,.p (.int .i64 k))]) (λ_=>[]) (λk=>k<=l.length/\nD p l 0=nD p (l.drop k) k) (λk=>l.length-k) 0 ⟨zL,rfl⟩ rfl wS trivial ?_;rintro k ⟨hk,hE⟩;refine bY (l:=l) (f:=cI) (λhlt=>?_) (λhge=>?_);rw[qZ hlt]at hE;refine ix hlt ?_;refine cl (hp l[k] (aL _)) ?_;cases hq:p l[k]with
 |true=>rw[hq,af rfl]at hE;rw[hE];exact rfl
 |false=>rw[hq,aa dD]at hE;exact nx (k+1) (aU (k+1) ⟨hlt,hE⟩ oO rfl wS trivial)
 rw[dG oO]at hE;rw[hE];exact rfl
theorem ab4 (l:List bf)(g:FuncId)(c1 c2:AV)(p:bf->Bool)(hp:∀x,x∈l->aj C g [.agg (cI x),c1,c2] (λr=>r=.val (.bool (p x))))(hl:l.length<=2^47):aj C 124 [.sl (l.map cI),.fn (.func g) [] [c1,c2]] (λr=>r=.val (.bool (l.any p))):=by refine ag Tryz.func124 rfl rfl rfl ?_;refine cl (Uh l g c1 c2 p hp hl) ?_;rw[<-uz p l];exact⟨λb hb=>by subst hb;rfl⟩
theorem RC (l:List Dg)(d:Dg)(hl:l.length<=2^47):aj C 196 [.sl (jJ l),.agg (cD d)] (λr=>r=.val (.int .i64 (nD (λx=>decide (d=x)) l 0))):=by unfold jJ;refine ag Tryz.func196 rfl rfl rfl ?_;refine bI 19 (λk:Nat=>[(0,.p (.sl (l.map cD))),(3,.ptr 3 0),(7,.p (.int .i64 ((l.map cD).length:Int))),(8,.p (.int .i64 k))]) (λ_=>[(3,aF (cD d))]) (λk=>k<=l.length/\nD (λx=>decide (d=x)) l 0=nD (λx=>decide (d=x)) (l.drop k) k) (λk=>l.length-k) 0 ⟨zL,rfl⟩ rfl wS oS ?_;rintro k ⟨hk,hE⟩;refine bY (l:=l) (f:=cD) (λhlt=>?_) (λhge=>?_);rw[qZ hlt]at hE;refine cG 6 kK ?_;refine ix hlt ?_;refine⟨yw,dR,kP,rfl,rfl,?_⟩;refine Ib (a:=d) (b:=l[k]) ?_;by_cases hq:d=l[k];rw[av hq];rw[af (av hq)]at hE;rw[hE];exact rfl;rw[ak hq];rw[aa (by rw[ak hq];decide)]at hE;exact nx (k+1) (aU (k+1) ⟨hlt,hE⟩ oO rfl wS oS);rw[dG oO]at hE;rw[hE];exact rfl
theorem Ja (l:List Dg)(d:Dg)(hl:l.length<=2^47):aj C 156 [.sl (jJ l),.agg (cD d)] (λr=>r=.val (.bool (decide (d∈l)))):=by
 refine ag Tryz.func156 rfl rfl rfl ?_;refine cl (RC l d hl) ?_;have e:decide (d∈l)=decide (0<=nD (λx=>decide (d=x)) l 0):=by rw[uz];by_cases h:d∈l;rw[av h];exact(fS.2 ⟨d,h,by simp⟩).symm;rw[ak h];refine(List.any_eq_false.2 λx hx=>?_).symm;intro g;exact h (qm g▸hx)
 rw[e];exact⟨λb hb=>by subst hb;rfl⟩
theorem LY (x:bK)(d:Dg):aj C 120 [.agg (mO x),.imp (cD d)] (λr=>r=.val (.bool (decide (x.id=d)))):=by refine ag Tryz.func120 rfl rfl rfl ?_;refine⟨yw,dR,kP,rfl,rfl,?_⟩;refine Ib (a:=x.id) (b:=d) ?_;exact rfl
end Qv
