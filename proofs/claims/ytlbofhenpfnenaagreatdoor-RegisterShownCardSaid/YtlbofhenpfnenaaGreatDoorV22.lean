/- Part 47 of the proof: its lemmas. No condition. -/
import Derived.Test.YtlbofhenpfnenaaGreatDoorV20
set_option maxRecDepth 10000
set_option maxHeartbeats 80000000
set_option linter.all false
open Go Go.Proofs Go.RowKit
namespace Qv
theorem vn {α:Type}(p:α->Bool):∀(l:List α)(n:Nat),(nG p l n=-1/\l.filter (λx=>!p x)=l)\/∃i,∃h:i<l.length,nG p l n=((n+i:Nat):Int)/\p l[i]=true/\(l.take i).filter (λx=>!p x)=l.take i
 |[],n=>.inl ⟨rfl,rfl⟩
 |x::l,n=>by
  unfold nG;cases h:p x with
  |true=>rw[af rfl];exact .inr ⟨0,Nat.succ_pos _,rfl,h,rfl⟩
  |false=>rw[aa dD];rcases vn p l (n+1)with⟨h1,h2⟩|⟨i,hi,h1,h2,h3⟩;exact .inl ⟨h1,by rw[qA (by simp[h]),h2]⟩;refine .inr ⟨i+1,by simp;omega,by rw[h1];congr 1;omega,h2,?_⟩;rw[CT,qA (by simp[h]),h3]
theorem Ew {α:Type}(xs:List α):∀n:Nat,(ov n xs).length=n*xs.length
 |0=>by simp[ov]
 |n+1=>by show(xs++ov n xs).length=_;rw[aq,Ew xs n,Nat.succ_mul];omega
theorem qB (a b:List bD)(x:bD):bW (a++x::b)=bW a++(aH (cA x)++bW b):=by rw[sr,<-gW,sr,Jy]
theorem tW (a b:List bD):(bW (a++b)).take (a.length*172)=bW a:=by rw[sr,nO (by rw[jN];exact ay _),ck (by rw[jN];exact ay _)]
theorem Cp (a:List bD)(b:List FV):(bW a++b).take (a.length*172)=bW a:=by rw[nO (by rw[jN];exact ay _),ck (by rw[jN];exact ay _)]
noncomputable abbrev CD:Ctx:=(C.cut []).open {vu with inl:=[54],frm:=[7]}
theorem ahT (l:List bD)(hl:l.length<=2^40)(c1 c2:AV)(p:bD->Bool)(hp:∀x,x∈l->ak C 91 [.agg (cA x),c1,c2] (λr=>r=.val (.bool (p x))))(hidx:ak C 88 [.sl (l.map cA),.fn (.func 91) [] [c1,c2]] (λr=>r=.val (.int .i64 (nG p l 0))))(m:Nat)(Y:pE)(K:FV->ai->Prop)(hK:K (.fe 20 48 172) (sg 23 0 [] ((20,bW (l.filter λx=>!p x))::[]) [] [] [])):jc CD (m+1) Y 54 [.fe 20 48 172,.fn (.func 91) [] [.p c1,.p c2]] K (sg 23 0 [] ((20,bW l)::[]) [] [] []):=by
 refine⟨_,Tryz.func54,rfl,rfl,rfl,_,bM.refl _,?_⟩;refine .inr (.inl (.inr ⟨[.sl (eU l),.fn (.func 91) [] [c1,c2]],_,.cons (.fe rfl (.plain (bk _)) (jW l)) (.cons (.plain rfl) .nil),hidx.dN,λr hr=>?_⟩));subst hr;refine⟨⟨_,rfl,rfl⟩,?_⟩;rcases vn p l 0 with⟨h1,h2⟩|⟨i,hi,h1,h2,h3⟩;rw[h1];rw[h2]at hK;refine aA (λ_=>?_) (λg=>absurd rfl g);exact⟨sg 23 0 [] ((20,bW l)::[]) [] [] [],bw kK trivial oS trivial trivial,hK⟩;rw[h1,cM];refine aA (λg=>absurd (show(i:Int)=-1 from g) oO) (λ_=>?_);refine nx (i+1) ?_;have hA0:(l.take (i+1)).filter (λx=>!p x)=l.take i:=by rw[ec hi,kM,h3,ot (by simp[h2])];simp
 have hkeep:∀j (hj:j<l.length),(l.take (j+1)).filter (λx=>!p x)=(l.take j).filter (λx=>!p x)++if p l[j]=true then[]else[l[j]]:=λj hj=>by rw[ec hj,kM];congr 1;cases h:p l[j]<;>simp[h]
 refine um 42 1000 (λx:Nat×List bD=>[(0,.fe 20 48 172),(1,.fn (.func 91) [] [.p c1,.p c2]),(5,.p (.int .i64 (((l.take x.1).filter λy=>!p y).length:Nat))),(6,.p (.int .i64 x.1))]) (λx=>(20,bW ((l.take x.1).filter (λy=>!p y)++(x.2++l.drop x.1)))::[]) (λ_=>(23,0,[])::[]) [] (λ_=>[]) (λx=>x.1<=l.length/\((l.take x.1).filter λy=>!p y).length+x.2.length=x.1/\x.2≠[]) (λx=>l.length-x.1) (i+1,[l[i]]) ⟨hi,by rw[hA0,aD];simp;omega,by simp⟩ kK ⟨aF.eq kK,aF.eq kK,aF.eq (by rw[hA0,aD,nY (Nat.le_of_lt hi)];kernel_rfl),aF.eq kK,trivial⟩ ⟨aC (by rw[hA0,gW,<-bL hi,cT];kernel_rfl),trivial⟩ ⟨rfl,trivial,trivial⟩ trivial ?_;rintro⟨j,M⟩ ⟨hj,hlen,hM⟩;have hj:j<=l.length:=hj;have hlen:((l.take j).filter λy=>!p y).length+M.length=j:=hlen;have hM:M≠[]:=hM;have hMl:0<M.length:=jr.2 hM;have jH:(bW ((l.take j).filter (λy=>!p y)++(M++l.drop j))).length=l.length*172:=by rw[jN];congr 1;rw[aq,aq,bV];omega
 refine⟨l.length,jH,?_⟩;refine az (λhlt=>?_) (λhge=>?_);have hlt:j<l.length:=by have :(j:Int)<(l.length:Int):=hlt;omega
 have hj1:j+1<=l.length:=hlt;have hk:=hkeep j hlt;have hd:l.drop j=l[j]::l.drop (j+1):=bL hlt;have de:=hp l[j] (aK _);have hsp:bW ((l.take j).filter (λy=>!p y)++(M++l.drop j))=bW ((l.take j).filter (λy=>!p y)++M)++(aH (cA l[j])++bW (l.drop (j+1))):=by rw[hd,<-bf];exact qB _ _ _
 have hfl:(bW ((l.take j).filter (λy=>!p y)++M)).length=j*172:=by rw[jN,aq,hlen]
 generalize l[j]=x at hk hd de hsp;refine⟨j,j*172,rfl,rfl,by rw[jH];omega,?_⟩;refine⟨bW ((l.take j).filter (λy=>!p y)++M),aH (cA x),bW (l.drop (j+1)),hsp,hfl,?_⟩;refine cl de.dN ?_;refine bl ?_;cases hpv:p x with
 |true=>rw[hpv,af rfl,aY]at hk;exact nx (j+1) (iH (j+1,M++[x]) ⟨hj1,by show((l.take (j+1)).filter λy=>!p y).length+(M++[x]).length=j+1;rw[hk,aq,fP];omega,by simp⟩ (by show l.length-(j+1)<l.length-j;omega) kK ⟨aF.eq kK,aF.eq kK,aF.eq (by rw[hk];kernel_rfl),aF.eq kK,trivial⟩ ⟨aC (show Qv.getObj _ _=some (bW ((l.take (j+1)).filter (λy=>!p y)++((M++[x])++l.drop (j+1))))by rw[hk,bf M,gW,<-hd];exact aB some (qw _ _)),trivial⟩ ⟨rfl,trivial,trivial⟩ trivial)
 |false=>
  rw[hpv,aa dD]at hk;obtain⟨m0,M',rfl⟩:∃m0 M',M=m0::M':=by
   cases M with
   |nil=>exact absurd rfl hM
   |cons a b=>exact⟨a,b,rfl⟩
  generalize hA:(l.take j).filter (λy=>!p y)=A at*;have hal:A.length<j:=by simp only[aL]at hlen;omega
  have ac5:FV.eL 1007 (bW (A++(m0::M'++l.drop j)))=bW A++(aH (cA m0)++bW (M'++l.drop j)):=by rw[qw];exact qB A (M'++l.drop j) m0
  have hnew:bW A++(aH (cA x)++bW (M'++l.drop j))=bW ((A++[x])++((M'++[x])++l.drop (j+1))):=by rw[<-qB,hd];congr 1;simp
  refine⟨A.length,A.length*172,rfl,rfl,by rw[qw,jH];omega,?_⟩;refine⟨bW A,aH (cA m0),bW (M'++l.drop j),ac5,jN A,?_⟩;refine⟨bW ((A++[x])++((M'++[x])++l.drop (j+1))),hnew,?_⟩;refine nx (A.length+1) ?_;exact nx (j+1) (iH (j+1,M'++[x]) ⟨hj1,by show((l.take (j+1)).filter λy=>!p y).length+(M'++[x]).length=j+1;rw[hk,aq,aq,fP];simp only[aL]at hlen;omega,by simp⟩ (by show l.length-(j+1)<l.length-j;omega) kK ⟨aF.eq kK,aF.eq kK,aF.eq (by rw[hk,aq];kernel_rfl),aF.eq kK,trivial⟩ ⟨aC (by rw[hk];kernel_rfl),trivial⟩ ⟨rfl,trivial,trivial⟩ trivial)
 obtain rfl:j=l.length:=by have :¬(j:Int)<(l.length:Int):=hge;omega
 rw[aJ]at hlen jH⊢;rw[qv,aY]at jH⊢;generalize l.filter (λy=>!p y)=A at*;refine⟨A.length,l.length,rfl,jH,oO,?_⟩;refine⟨kK,M.length,by rw[jH];congr 1;omega,_,rfl,?_⟩;refine⟨A.length,l.length,rfl,?_,oO,bW A,?_,?_⟩;rw[tW,aq,Ew,jN];exact(bC A.length M.length 172).symm.trans (aB (λz=>z*172) hlen);rw[tW,Cp,qw];exact⟨sg 23 0 [] ((20,bW A)::[]) [] [] [],bw kK trivial oS trivial trivial,hK⟩
theorem ac6 (l:List bD)(hl:l.length<=2^40)(c1:AV)(p:bD->Bool)(hp:∀x,x∈l->ak C 56 [.agg (cA x),c1] (λr=>r=.val (.bool (p x))))(hidx:ak C 88 [.sl (l.map cA),.fn (.func 56) [] [c1]] (λr=>r=.val (.int .i64 (nG p l 0))))(m:Nat)(Y:pE)(K:FV->ai->Prop)(hK:K (.fe 15 48 172) (sg 18 0 [] ((15,bW (l.filter λx=>!p x))::[]) [] [] [])):jc CD (m+1) Y 54 [.fe 15 48 172,.fn (.func 56) [] [.p c1]] K (sg 18 0 [] ((15,bW l)::[]) [] [] []):=by
 refine⟨_,Tryz.func54,rfl,rfl,rfl,_,bM.refl _,?_⟩;refine .inr (.inl (.inr ⟨[.sl (eU l),.fn (.func 56) [] [c1]],_,.cons (.fe rfl (.plain (bk _)) (jW l)) (.cons (.plain rfl) .nil),hidx.dN,λr hr=>?_⟩));subst hr;refine⟨⟨_,rfl,rfl⟩,?_⟩;rcases vn p l 0 with⟨h1,h2⟩|⟨i,hi,h1,h2,h3⟩;rw[h1];rw[h2]at hK;refine aA (λ_=>?_) (λg=>absurd rfl g);exact⟨sg 18 0 [] ((15,bW l)::[]) [] [] [],bw kK trivial oS trivial trivial,hK⟩;rw[h1,cM];refine aA (λg=>absurd (show(i:Int)=-1 from g) oO) (λ_=>?_);refine nx (i+1) ?_;have hA0:(l.take (i+1)).filter (λx=>!p x)=l.take i:=by rw[ec hi,kM,h3,ot (by simp[h2])];simp
 have hkeep:∀j (hj:j<l.length),(l.take (j+1)).filter (λx=>!p x)=(l.take j).filter (λx=>!p x)++if p l[j]=true then[]else[l[j]]:=λj hj=>by rw[ec hj,kM];congr 1;cases h:p l[j]<;>simp[h]
 refine um 42 1000 (λx:Nat×List bD=>[(0,.fe 15 48 172),(1,.fn (.func 56) [] [.p c1]),(5,.p (.int .i64 (((l.take x.1).filter λy=>!p y).length:Nat))),(6,.p (.int .i64 x.1))]) (λx=>(15,bW ((l.take x.1).filter (λy=>!p y)++(x.2++l.drop x.1)))::[]) (λ_=>(18,0,[])::[]) [] (λ_=>[]) (λx=>x.1<=l.length/\((l.take x.1).filter λy=>!p y).length+x.2.length=x.1/\x.2≠[]) (λx=>l.length-x.1) (i+1,[l[i]]) ⟨hi,by rw[hA0,aD];simp;omega,by simp⟩ kK ⟨aF.eq kK,aF.eq kK,aF.eq (by rw[hA0,aD,nY (Nat.le_of_lt hi)];kernel_rfl),aF.eq kK,trivial⟩ ⟨aC (by rw[hA0,gW,<-bL hi,cT];kernel_rfl),trivial⟩ ⟨rfl,trivial,trivial⟩ trivial ?_;rintro⟨j,M⟩ ⟨hj,hlen,hM⟩;have hj:j<=l.length:=hj;have hlen:((l.take j).filter λy=>!p y).length+M.length=j:=hlen;have hM:M≠[]:=hM;have hMl:0<M.length:=jr.2 hM;have jH:(bW ((l.take j).filter (λy=>!p y)++(M++l.drop j))).length=l.length*172:=by rw[jN];congr 1;rw[aq,aq,bV];omega
 refine⟨l.length,jH,?_⟩;refine az (λhlt=>?_) (λhge=>?_);have hlt:j<l.length:=by have :(j:Int)<(l.length:Int):=hlt;omega
 have hj1:j+1<=l.length:=hlt;have hk:=hkeep j hlt;have hd:l.drop j=l[j]::l.drop (j+1):=bL hlt;have de:=hp l[j] (aK _);have hsp:bW ((l.take j).filter (λy=>!p y)++(M++l.drop j))=bW ((l.take j).filter (λy=>!p y)++M)++(aH (cA l[j])++bW (l.drop (j+1))):=by rw[hd,<-bf];exact qB _ _ _
 have hfl:(bW ((l.take j).filter (λy=>!p y)++M)).length=j*172:=by rw[jN,aq,hlen]
 generalize l[j]=x at hk hd de hsp;refine⟨j,j*172,rfl,rfl,by rw[jH];omega,?_⟩;refine⟨bW ((l.take j).filter (λy=>!p y)++M),aH (cA x),bW (l.drop (j+1)),hsp,hfl,?_⟩;refine cl de.dN ?_;refine bl ?_;cases hpv:p x with
 |true=>rw[hpv,af rfl,aY]at hk;exact nx (j+1) (iH (j+1,M++[x]) ⟨hj1,by show((l.take (j+1)).filter λy=>!p y).length+(M++[x]).length=j+1;rw[hk,aq,fP];omega,by simp⟩ (by show l.length-(j+1)<l.length-j;omega) kK ⟨aF.eq kK,aF.eq kK,aF.eq (by rw[hk];kernel_rfl),aF.eq kK,trivial⟩ ⟨aC (show Qv.getObj _ _=some (bW ((l.take (j+1)).filter (λy=>!p y)++((M++[x])++l.drop (j+1))))by rw[hk,bf M,gW,<-hd];exact aB some (qw _ _)),trivial⟩ ⟨rfl,trivial,trivial⟩ trivial)
 |false=>
  rw[hpv,aa dD]at hk;obtain⟨m0,M',rfl⟩:∃m0 M',M=m0::M':=by
   cases M with
   |nil=>exact absurd rfl hM
   |cons a b=>exact⟨a,b,rfl⟩
  generalize hA:(l.take j).filter (λy=>!p y)=A at*;have hal:A.length<j:=by simp only[aL]at hlen;omega
  have ac5:FV.eL 1007 (bW (A++(m0::M'++l.drop j)))=bW A++(aH (cA m0)++bW (M'++l.drop j)):=by rw[qw];exact qB A (M'++l.drop j) m0
  have hnew:bW A++(aH (cA x)++bW (M'++l.drop j))=bW ((A++[x])++((M'++[x])++l.drop (j+1))):=by rw[<-qB,hd];congr 1;simp
  refine⟨A.length,A.length*172,rfl,rfl,by rw[qw,jH];omega,?_⟩;refine⟨bW A,aH (cA m0),bW (M'++l.drop j),ac5,jN A,?_⟩;refine⟨bW ((A++[x])++((M'++[x])++l.drop (j+1))),hnew,?_⟩;refine nx (A.length+1) ?_;exact nx (j+1) (iH (j+1,M'++[x]) ⟨hj1,by show((l.take (j+1)).filter λy=>!p y).length+(M'++[x]).length=j+1;rw[hk,aq,aq,fP];simp only[aL]at hlen;omega,by simp⟩ (by show l.length-(j+1)<l.length-j;omega) kK ⟨aF.eq kK,aF.eq kK,aF.eq (by rw[hk,aq];kernel_rfl),aF.eq kK,trivial⟩ ⟨aC (by rw[hk];kernel_rfl),trivial⟩ ⟨rfl,trivial,trivial⟩ trivial)
 obtain rfl:j=l.length:=by have :¬(j:Int)<(l.length:Int):=hge;omega
 rw[aJ]at hlen jH⊢;rw[qv,aY]at jH⊢;generalize l.filter (λy=>!p y)=A at*;refine⟨A.length,l.length,rfl,jH,oO,?_⟩;refine⟨kK,M.length,by rw[jH];congr 1;omega,_,rfl,?_⟩;refine⟨A.length,l.length,rfl,?_,oO,bW A,?_,?_⟩;rw[tW,aq,Ew,jN];exact(bC A.length M.length 172).symm.trans (aB (λz=>z*172) hlen);rw[tW,Cp,qw];exact⟨sg 18 0 [] ((15,bW A)::[]) [] [] [],bw kK trivial oS trivial trivial,hK⟩
end Qv
