/- Part 22 of the proof: its lemmas. No condition. -/
import Derived.Test.YtiboombocnfngaaGreatDoorV3
import Derived.Test.YtiboombocnfngaaGreatDoorV6
import Derived.Test.YtiboombocnfngaaGreatDoorV7
import Derived.Test.YtiboombocnfngaaGreatDoorV10
import Derived.Test.YtiboombocnfngaaGreatDoorV12
import Derived.Test.YtiboombocnfngaaGreatDoorV15
set_option maxRecDepth 10000
set_option maxHeartbeats 80000000
set_option linter.all false
open Go Go.Proofs Go.RowKit
namespace Qv
theorem Th {x:bV}{d:Dg}(h:x.p=aV)(h0:0<=x.n):bl x d=⟨d,x.n⟩:=ag ⟨h,h0⟩
theorem ry (x:bV)(d:Dg):aq C 235 [.agg (cI x),.imp (cD d)] (λr=>r=.val (.agg (cI (bl x d)))):=by refine ai Tryz.func235 rfl rfl rfl ?_;refine⟨none,?_⟩;refine cl (fD x) ?_;unfold bl;by_cases h:x.p=aV;rw[an h];refine aF (λh2=>?_) (λh2=>?_);rw[ag ⟨h,h2⟩];exact rfl;rw[af λg=>h2 g.2];exact rfl;rw[ak h,af λg=>h g.1];exact rfl
theorem UR {aI:List (Nat×List FV)}{o:Nat}{own:List cq}(k j i:Nat)(h:Qv.getObj aI o=some (FV.eD k (FV.eD j (FV.eD i (gO own))))):∃ys,Qv.getObj aI o=some ys/\ys.length=(gO own).length/\∀(i:Nat)(x y:FV),ys[i]?=some x->(gO own)[i]?=some y->bh x y:=by rw[Kr,Kr,Kr]at h;exact aH h
theorem ET (d E:Nat)(qK:List (List AV)):∀l:List AV,FV.Ck d E qK (aG l)=aG l|[]=>rfl|x::l=>by simp only[aG,FV.Ck,FV.JR,ET d E qK l]
def pR (own:List cq)(d:Dg)(k:Nat):List cq:=(own.take k).map (fO d)++own.drop k
theorem Ti (own:List cq)(d:Dg):pR own d 0=own:=rfl
theorem Xe (own:List cq)(d:Dg)(k:Nat):(pR own d k).length=own.length:=by unfold pR;simp;omega
theorem Xf (own:List cq)(d:Dg):pR own d own.length=own.map (fO d):=by unfold pR;simp
theorem aa7 {own:List cq}{k:Nat}(h:k<own.length)(d:Dg):gO (pR own d k)=gO ((own.take k).map (fO d))++(aG (cA own[k])++gO (own.drop (k+1))):=by unfold pR;rw[bZ h,DC,<-qb,DC,Qn]
theorem Tj {own:List cq}{k:Nat}(h:k<own.length)(d:Dg):gO (pR own d (k+1))=gO ((own.take k).map (fO d))++(aG (cA (fO d own[k]))++gO (own.drop (k+1))):=by unfold pR;rw[dr h,aD,bu,DC,DC,xz,Qn]
theorem QH {A B X:List FV}{z w:FV}(hz:bh z w){aI:List (Nat×List FV)}{o:Nat}(h:Qv.getObj aI o=some (A++((X++[z])++B))){Y:List FV}(hY:Y=A++((X++[w])++B)):∃ys,Qv.getObj aI o=some ys/\ys.length=Y.length/\∀(i:Nat)(x y:FV),ys[i]?=some x->Y[i]?=some y->bh x y:=by
 subst hY;refine⟨_,h,by simp,λi x y h1 h2=>?_⟩;have e1:A++((X++[z])++B)=(A++X)++(z::B):=by simp
 have e2:A++((X++[w])++B)=(A++X)++(w::B):=by simp
 rw[e1]at h1;rw[e2]at h2;by_cases hl:i<(A++X).length;rw[cG hl]at h1 h2;rw[h1]at h2;exact bh.eq (au h2);rw[dH oO]at h1 h2;cases hi:i-(A++X).length with
 |zero=>rw[hi]at h1 h2;cases h1;cases h2;exact hz
 |succ n=>rw[hi]at h1 h2;simp only[nT]at h1 h2;rw[h1]at h2;exact bh.eq (au h2)
theorem aiu (d:Dg)(a:cq):(st2 d a).kind=a.kind:=by unfold st2;split<;>rfl
theorem aiv (d:Dg)(a:cq):(II d a).kind=a.kind:=by unfold II;split<;>rfl
theorem US {l:List bV}:∀ys,ys∈oF l->ys.length=33/\∀y,y∈ys->y.one=true:=by intro ys h;obtain⟨x,-,rfl⟩:=aC.1 h;exact⟨rfl,λy hy=>bA.1 (show(cI x).all AV.one=true from rfl) y hy⟩
theorem aa8 (l:List bV):(oF l).flatten.length=l.length*33:=by rw[fR (e:=33) λzs h=>(US zs h).1];simp[oF]
theorem agD (x:bV):agA (cI x):=by intro y hy;have :=bA.1 (show(cI x).all (λy=>match y with|.int _ _=>true|_=>false)=true from rfl) y hy;cases y<;>first|exact⟨_,_,rfl⟩|cases this
theorem aeg (l:List bV)(x:bV)(o:Nat):FV.eD o (aG (oF l).flatten++aG [cI x].flatten)=aG (oF (l++[x])).flatten:=by
 have :aG (oF l).flatten++aG [cI x].flatten=aG (oF (l++[x])).flatten:=by unfold oF;rw[aD,ot,eN,eN,eN,aD];rfl
 rw[this];exact iY o _
theorem akX:Sort.SWO (Proofs.ltOf gV):=⟨λx=>by unfold Proofs.ltOf;exact ak (zC x),λx y z h1 h2=>by unfold Proofs.ltOf at*;exact an (rq (kM h1) (kM h2)),λx y z h1 h2=>by
 unfold Proofs.ltOf at*;refine ak λh=>?_;have h1:=xy h1;have h2:=xy h2;by_cases e:gV y x=0;rw[vN e]at h2;exact h2 h;have :=pO x y;have h3:gV y x<0:=oO
 exact h2 (rq h3 h)⟩
theorem Tk (Cx:Ctx)(hP:Cx.P=Tryz.prog)(l:List bV)(hl:l.length<=2^40):VC Cx 236 54 33 (oF l).flatten [.fn (.func 96) [] []] (λr ys=>r=false/\ys=(oF (ud l)).flatten):=Ly cI 33 (λ_=>rfl) agD Tryz.sortI152 dD Tryz.isAgg54 Tryz.sizeOf54 gV akX (λx y h1 h2=>by have :=pO x y;exact vN oO) 96 (enters_of Tryz.func96 kK rfl) Td Cx hP ⟨_,Tryz.func236,rfl,rfl⟩ 54 l oO
theorem aa9 (d:Nat)(ys X:List AV):FV.RF d ys (aG X)=aG X:=by rw[FV.uT,eN,fL];rfl
theorem afq (own:List cq)(k d:Nat)(ys:List AV):FV.RF d ys (FV.eD k (gO own))=gO own:=by rw[Kr];exact aa9 d ys _
theorem aba {aI:List (Nat×List FV)}{o:Nat}{own:List cq}(k d:Nat)(ys:List AV)(h:Qv.getObj aI o=some (FV.RF d ys (FV.eD k (gO own)))):∃zs,Qv.getObj aI o=some zs/\zs.length=(gO own).length/\∀(i:Nat)(x y:FV),zs[i]?=some x->(gO own)[i]?=some y->bh x y:=by rw[afq]at h;exact aH h
theorem Jj {p:gr}(h:xw p)(hn:∀a,a∈(dM p).1->(a.over.map λx=>bl x (lV p).1).Nodup)(hid:Nz (dM p).1):aq C 172 [.agg (cP p)] (λr=>r=.own (some [.int .i64 0]) 109 172 (iu ((dM p).1.map (fO (lV p).1)))):=by
 have hbd:=(qq p).2;have agE:=h.few;have hI:=Tc h.ok;refine aY {qu with opens:=[85],JL:=[25]} [14,16,18] Tryz.func172 rfl rfl rfl ?_;refine cl (zB h).dz ?_;generalize(dM p).1=own at hn hbd hid agE⊢;refine⟨gO own,rfl,?_⟩;refine cu (λg=>absurd rfl g) (λ_=>?_);refine cl (vL h).dz ?_;rw[hI]at hn⊢;generalize PT (eX (kD p))=d at hn⊢;refine cu (λg=>absurd rfl g) (λ_=>?_);refine⟨[7],dy (cells:=aG (cD d)) (ys:=cD d) rfl (bC _) rfl ?_⟩;refine⟨own.length,by rw[afq];exact NA own,?_⟩;refine bJ 97 (λk:Nat=>[(4,.gd 16 109 172),(8,.fn (.func 235) [] [.p (.imp (cD d))]),(32,.gd 16 109 172),(33,.p (.int .i64 (own.length:Int))),(34,.p (.int .i64 k))]) (λk=>[(16,gO (pR own d k))]) (λk=>k<=own.length) (λk=>own.length-k) 0 (zL) kK wS ⟨(by rw[Ti];exact aba 7 7 (cD d) kK),trivial⟩ ?_;intro k hk;refine aF (λhlt=>?_) (λhge=>?_)
 ·have hlt:k<own.length:=by have :(k:Int)<(own.length:Int):=hlt;omega
  have rQ:=aa7 hlt d;have hnext:=Tj hlt d;have MN:=hn own[k] (aO _);have Du:=hbd own[k] (aO _);have agF:=hid k hlt;have Oj:(gO ((own.take k).map (fO d))).length=k*172:=by rw[NA,ah,aL];congr 1;omega
  have hCl:(gO (pR own d k)).length=own.length*172:=by rw[NA,Xe]
  generalize own[k]=a at rQ hnext MN Du agF;generalize gO ((own.take k).map (fO d))=A at rQ hnext Oj;generalize gO (own.drop (k+1))=B at rQ hnext;have hle:k*172+172<=own.length*172:=oO
  refine⟨k,k*172,rfl,rfl,by rw[hCl];exact hle,?_⟩;refine⟨A,aG (cA a),B,rQ,Oj,?_⟩;refine cl (ry a.id d).dz ?_;have hw1:bl a.id d=⟨d,a.id.n⟩:=Th (by rw[agF]) (by rw[agF];exact Dm k);rw[hw1];have h1k:(st1 d a).kind=a.kind:=rfl;refine share (T:=?T1) (λH1=>?m1) ?r1;case m1=>refine cu (λh7=>?_) (λh7=>?_);refine cl (ry a.file d).dz ?_;refine dc 97 [(4,.gd 16 109 172),(8,.fn (.func 235) [] [.p (.imp (cD d))]),(32,.gd 16 109 172),(33,.p (.int .i64 (own.length:Int))),(34,.p (.int .i64 k)),(9,.p (.int .i64 k)),(10,.ptr 10 0)] [(10,aG (cA (st2 d (st1 d a)))),(16,gO (pR own d k))] kK wS ⟨(by rw[show st2 d (st1 d a)={st1 d a with file:=bl a.file d}from ag h7];exact aH kK),tf 10 kK,trivial⟩ ?_;exact H1.out;refine dc 97 [(4,.gd 16 109 172),(8,.fn (.func 235) [] [.p (.imp (cD d))]),(32,.gd 16 109 172),(33,.p (.int .i64 (own.length:Int))),(34,.p (.int .i64 k)),(9,.p (.int .i64 k)),(10,.ptr 10 0)] [(10,aG (cA (st2 d (st1 d a)))),(16,gO (pR own d k))] kK wS ⟨(by rw[show st2 d (st1 d a)=st1 d a from af (λg=>g h7)];exact aH kK),tf 10 kK,trivial⟩ ?_;exact H1.out
  case r1=>
   have hk2:=aiu d (st1 d a);rw[h1k]at hk2;generalize he2:st2 d (st1 d a)=a2 at hk2⊢;refine share (T:=?T2) (λH2=>?m2) ?r2;case m2=>refine aB (λh7=>?_) (λh7=>?_);refine cl (ry a2.parent d).dz ?_;refine dc 97 [(4,.gd 16 109 172),(8,.fn (.func 235) [] [.p (.imp (cD d))]),(32,.gd 16 109 172),(33,.p (.int .i64 (own.length:Int))),(34,.p (.int .i64 k)),(9,.p (.int .i64 k)),(10,.ptr 10 0)] [(10,aG (cA (II d a2))),(16,gO (pR own d k))] kK wS ⟨(by rw[show II d a2={a2 with parent:=bl a2.parent d}from ag h7];exact aH kK),aH kK,trivial⟩ ?_;exact H2.out;refine dc 97 [(4,.gd 16 109 172),(8,.fn (.func 235) [] [.p (.imp (cD d))]),(32,.gd 16 109 172),(33,.p (.int .i64 (own.length:Int))),(34,.p (.int .i64 k)),(9,.p (.int .i64 k)),(10,.ptr 10 0)] [(10,aG (cA (II d a2))),(16,gO (pR own d k))] kK wS ⟨(by rw[show II d a2=a2 from af h7];exact aH kK),aH kK,trivial⟩ ?_;exact H2.out
   case r2=>
    have hk3:=aiv d a2;generalize he3:II d a2=a3 at hk3⊢;refine share (T:=?T3) (λH3=>?m3) ?r3;case m3=>refine aB (λh7=>?_) (λh7=>?_);refine bW 9 kK ?_;refine⟨_,(ry a3.fr d).dz,?_⟩;refine⟨_,(ry a3.to d).dz,?_⟩;refine dc 97 [(4,.gd 16 109 172),(8,.fn (.func 235) [] [.p (.imp (cD d))]),(32,.gd 16 109 172),(33,.p (.int .i64 (own.length:Int))),(34,.p (.int .i64 k)),(9,.p (.int .i64 k)),(10,.ptr 10 0)] [(10,aG (cA (IJ d a3))),(16,gO (pR own d k))] kK wS ⟨(by rw[show IJ d a3={a3 with fr:=bl a3.fr d,to:=bl a3.to d}from ag h7];exact aH kK),aH kK,trivial⟩ ?_;exact H3.out;refine dc 97 [(4,.gd 16 109 172),(8,.fn (.func 235) [] [.p (.imp (cD d))]),(32,.gd 16 109 172),(33,.p (.int .i64 (own.length:Int))),(34,.p (.int .i64 k)),(9,.p (.int .i64 k)),(10,.ptr 10 0)] [(10,aG (cA (IJ d a3))),(16,gO (pR own d k))] kK wS ⟨(by rw[show IJ d a3=a3 from af h7];exact aH kK),aH kK,trivial⟩ ?_;exact H3.out
    case r3=>
     have abb:(IJ d a3).over=a.over:=by rw[IM,<-he3,IL,<-he2,IK];rfl
     have hfull:fO d a={IJ d a3 with over:=ud (a.over.map λx=>bl x d)}:=by have :JO d a.over=ud (a.over.map λx=>bl x d):=(Tg MN).symm;unfold fO UF;rw[he2,he3,abb,this]
     generalize IJ d a3=a4 at abb hfull⊢;have WA:a4.over.length<=400:=by rw[abb];exact Du
     refine bJ 97 (λx:Nat×Bool×List bV=>[(4,.gd 16 109 172),(8,.fn (.func 235) [] [.p (.imp (cD d))]),(32,.gd 16 109 172),(33,.p (.int .i64 (own.length:Int))),(34,.p (.int .i64 k)),(9,.p (.int .i64 k)),(10,.ptr 10 0),(11,match x.2.1 with|true=>.gd 85 54 33|false=>.full []),(74,.p (.sl (oF a4.over))),(75,.p (.int .i64 (((oF a4.over).length:Nat):Int))),(76,.p (.int .i64 x.1))]) (λx=>(10,aG (cA a4))::(16,gO (pR own d k))::(match x.2.1 with|true=>[(85,aG (oF x.2.2).flatten)]|false=>[])) (λx=>x.1<=a4.over.length/\x.2.2=(a4.over.take x.1).map (λy=>bl y d)/\(x.2.1=false->x.1=0)) (λx=>a4.over.length-x.1) (0,false,[]) ⟨zL,rfl,λ_=>rfl⟩ kK wS oS ?_;rintro⟨j,b,acc⟩ ⟨hj,hacc,hb⟩;have hj:j<=a4.over.length:=hj;have hacc:acc=(a4.over.take j).map (λy=>bl y d):=hacc;have aiw:acc.length=j:=by rw[hacc,ah,aL];omega
     have lU:(oF a4.over).length=a4.over.length:=by simp[oF]
     refine aF (λef=>?_) (λsq=>?_);have aeh:j<a4.over.length:=by have :(j:Int)<(((oF a4.over).length:Nat):Int):=ef;omega
     have jD:(oF a4.over)[((j:Nat):Int).toNat]?=some (cI a4.over[j]):=dL rfl aeh;have abc:acc++[bl a4.over[j] d]=(a4.over.take (j+1)).map (λy=>bl y d):=by rw[hacc,dr aeh,aD];rfl
     generalize a4.over[j]=y at jD abc;cases b with
     |false=>obtain rfl:j=0:=hb rfl;obtain rfl:acc=[]:=bQ.1 aiw;refine⟨oO,_,jD,rfl,?_⟩;refine cl (ry y d).dz ?_;refine⟨mF _ _,(λzs h=>by rw[aP.1 h];rfl),(show 1*40<=140737488355328 by decide),aG (oF [bl y d]).flatten,rfl,?_⟩;exact⟨1,dD,aQ (1,true,[bl y d]) ⟨aeh,abc,(λh=>nomatch h)⟩ (by show a4.over.length-1<a4.over.length-0;omega) kK wS ⟨aH kK,UR 85 84 13 kK,aH kK,trivial⟩⟩
     |true=>refine⟨oO,_,jD,rfl,?_⟩;refine cl (ry y d).dz ?_;refine⟨acc.length,by rw[iY,iY,iR];exact aa8 acc,(λzs h=>by rw[aP.1 h];rfl),by show(acc.length+1)*40<=_;omega,aG (oF (acc++[bl y d])).flatten,by rw[iY,iY];exact aeg acc (bl y d) _,?_⟩;exact nx (j+1) (aQ (j+1,true,acc++[bl y d]) ⟨aeh,abc,(λh=>nomatch h)⟩ (by show a4.over.length-(j+1)<a4.over.length-j;omega) kK wS ⟨aH kK,UR 85 84 13 kK,aH kK,trivial⟩)
     obtain rfl:j=a4.over.length:=by have :¬(j:Int)<(((oF a4.over).length:Nat):Int):=sq;omega
     rw[aU,abb]at hacc;subst hacc;have hcA:cA (fO d a)=(cA a4).take 171++[.sl (oF (ud (a.over.map λx=>bl x d)))]:=by rw[hfull];rfl
     have hmid:aG (cA (fO d a))=(aG ((cA a4).take 171))++[.p (.sl (oF (ud (a.over.map λx=>bl x d))))]:=by rw[hcA,eN,eN,aD];rfl
     rw[hmid]at hnext;cases b with
     |false=>
      have h0:a4.over.length=0:=hb rfl;have ho0:a.over=[]:=by rw[<-abb];exact bQ.1 h0
      refine cl (NH 96).dz ?_;refine .inr ?_;refine⟨k,k*172,rfl,rfl,by rw[hCl];exact hle,?_⟩;refine⟨A,aG (cA a),B,rQ,Oj,?_⟩;refine⟨A++((aG ((cA a4).take 171)++[.full []])++B),rfl,?_⟩;exact nx (k+1) (aQ (k+1) hlt oO kK wS ⟨QH (by rw[ho0,show ud (([]:List bV).map λx=>bl x d)=[]from by simp[ud]];exact bh.yY []) kK hnext,trivial⟩)
     |true=>refine .inr (.inr (DF rfl rfl (bC _) (Tk _ rfl (a.over.map λx=>bl x d) (by rw[ah];omega)) λr ys hr=>?_));obtain⟨rfl,rfl⟩:=hr;refine .inl ⟨85,33,oF (ud (a.over.map λx=>bl x d)),⟨⟨_,rfl,bC _⟩,US⟩,?_⟩;refine⟨k,k*172,rfl,rfl,by rw[show FV.Ck 85 33 (oF (ud (a.over.map λx=>bl x d))) (gO (pR own d k))=gO (pR own d k)from ET _ _ _ _,hCl];exact hle,?_⟩;refine⟨A,aG (cA a),B,(ET _ _ _ _).trans rQ,Oj,?_⟩;refine⟨A++((aG ((cA a4).take 171)++[.fM 85 54 33 (oF (ud (a.over.map λx=>bl x d)))])++B),rfl,?_⟩;exact nx (k+1) (aQ (k+1) hlt oO kK wS ⟨QH (bh.PJ 85 54 33 _) kK hnext,trivial⟩)
 obtain rfl:k=own.length:=by have :¬(k:Int)<(own.length:Int):=hge;omega
 rw[Xf];exact⟨iu (own.map (fO d)),DA _,bC _,rfl⟩
theorem Tl {p:gr}(h:xw p)(hn:∀a,a∈(dM p).1->(a.over.map λx=>bl x (lV p).1).Nodup)(hid:Nz (dM p).1):aq C 93 [.agg (cP p)] (λr=>r=.own (some [.int .i64 0]) 109 172 (iu ((dM p).1.map (fO (lV p).1)))):=by refine aY qu [] Tryz.func93 rfl rfl rfl ?_;refine cl (Jj h hn hid).dz ?_;generalize(dM p).1.map (fO (lV p).1)=l;refine⟨gO l,rfl,?_⟩;exact⟨iu l,DA _,bC _,rfl⟩
theorem EU:∀l:List Dg,(dB l).length<=l.length|[]=>aA _|[_]=>aA _|x::y::l=>by have :=EU (y::l);unfold dB;split;simp only[aR]at this⊢;omega;simp only[aR]at this⊢;omega
theorem Jk:∀(l:List Dg)(x:Dg)(h:l≠[]),dB (l++[x])=if l.getLast h=x then dB l else dB l++[x]
 |[y],x,_=>by show dB [y,x]=if y=x then[y]else[y]++[x];unfold dB;by_cases e:y=x;rw[ag e,ag e,e];rfl;rw[af e,af e];rfl
 |y::z::l,x,_=>by have ih:=Jk (z::l) x (mF _ _);rw[List.getLast_cons (mF _ _)];show(if y=z then dB ((z::l)++[x])else y::dB ((z::l)++[x]))=if _ then(if y=z then dB (z::l)else y::dB (z::l))else(if y=z then dB (z::l)else y::dB (z::l))++[x];rw[ih];by_cases e:y=z;rw[ag e,ag e];rw[af e,af e];split;rfl;rfl
theorem xA {l:List Dg}{j:Nat}(h0:0<j)(h:j<l.length):dB (l.take (j+1))=if l[j-1]=l[j]then dB (l.take j)else dB (l.take j)++[l[j]]:=by
 have hne:l.take j≠[]:=by intro e;have :=bg List.length e;rw[aL]at this;simp only[bn]at this;omega
 rw[dr h,Jk _ _ hne];have e:(l.take j).getLast hne=l[j-1]:=by rw[List.getLast_eq_getElem,DH];congr 1;rw[aL];omega
 rw[e]
def DI (c:dn):List Dg:=((dG c).map λe=>e.1.p).filter λd=>!decide (d=aV)
def pS (c:dn)(j:Nat):List Dg:=(((dG c).take j).map λe=>e.1.p).filter λd=>!decide (d=aV)
theorem BM {c:dn}{j:Nat}(h:j<(dG c).length):pS c (j+1)=pS c j++(if(dG c)[j].1.p=aV then[]else[(dG c)[j].1.p]):=by unfold pS;rw[dr h,aD,qv];congr 1;by_cases e:(dG c)[j].1.p=aV;rw[ag e];simp[e];rw[af e];simp[e]
def BN (p:gr):List Dg:=p.deps++p.changes.flatMap DI
def sr (p:gr)(k:Nat):List Dg:=p.deps++(p.changes.take k).flatMap DI
theorem FZ {p:gr}{k:Nat}(h:k<p.changes.length):sr p (k+1)=sr p k++DI p.changes[k]:=by unfold sr;rw[dr h,kC,<-bu];simp
theorem EV (c:dn)(j:Nat):(pS c j).length<=(dG c).length:=by unfold pS;refine ck (mA _ _) ?_;rw[ah,aL];omega
theorem Jl (c:dn):(dG c).length<=c.over.length+8:=by
 unfold dG;simp only[ay,ah];repeat' split
 all_goals simp only[aR,bn];omega
theorem GQ {xs:List (List AV)}{K:Bool->Prop}(h1:xs=[]->K true)(h2:K false):Al λb:Bool=>(xs≠[]->b=false)->K b:=⟨λb hb=>by
 cases b with
 |false=>exact h2
 |true=>exact h1 (ia λhne=>absurd (hb hne) dD)⟩
theorem uS {p:gr}(h:xw p):aq C 45 [.agg (cP p)] (λr=>r=.val (.sl (jW (dB (AZ (BN p)))))):=by
 refine aq.NJ (T:=33) (bM:=32) ?_;have ho:=h.UP;have hdl:=zm ho;have lU:=ho.changes;have Du:∀c,c∈p.changes->1<=c.kind/\c.kind<=7/\c.over.length<=400:=λc hc=>by obtain⟨g1,g2,-⟩:=fu (ho.each c hc);exact⟨g1,g2,IN ho hc⟩
 refine aY {qu with inl:=[111,115],rel:=[111,115],opens:=[5,37]} [] Tryz.func45 rfl rfl rfl ?_;refine cl (FU h).dz ?_;refine cu (λg=>absurd rfl g) (λ_=>?_);refine .inl ⟨_,Tryz.func111,rfl,rfl,rfl,?_⟩;refine GQ (xs:=jW p.deps) (λabd=>?_) ?_
 ·have VO:p.deps=[]:=by have :=bg List.length abd;simpa[jW]using this
  refine dc 44 [(1,.ptr 1 0),(13,.full [])] [(1,aG (cP p))] kK wS oS ?_;refine bJ 44 (λx:Nat×Bool×List Dg=>[(1,.ptr 1 0),(3,match x.2.1 with|true=>.gd 37 33 32|false=>.full []),(15,.p (.sl (p.changes.map cC))),(16,.p (.int .i64 ((p.changes.map cC).length:Int))),(17,.p (.int .i64 x.1))]) (λx=>(1,aG (cP p))::(match x.2.1 with|true=>[(37,di x.2.2)]|false=>[])) (λx=>x.1<=p.changes.length/\x.2.2=sr p x.1/\(x.2.1=false->x.2.2=[])/\x.2.2.length<=409*x.1) (λx=>p.changes.length-x.1) (0,false,[]) ⟨zL,by show[]=p.deps++[];rw[VO];rfl,λ_=>rfl,zL⟩ kK wS oS ?_;rintro⟨k,b,L⟩ ⟨hk,hL,hb,hLl⟩;replace hk:k<=p.changes.length:=hk;replace hL:L=sr p k:=hL;replace hLl:L.length<=409*k:=hLl;refine cg (l:=p.changes) (f:=cC) (λhlt=>?_) (λhge=>?_);obtain⟨q1,q7,qo⟩:=Du p.changes[k] (aO _);have AQ:=FZ hlt;have jD:(p.changes.map cC)[((k:Nat):Int).toNat]?=some (cC p.changes[k]):=dL rfl hlt;generalize p.changes[k]=c at q1 q7 qo AQ jD;have hrl:=Jl c;rw[<-hL]at AQ;cases b with
  |false=>
   obtain rfl:L=[]:=hb rfl;refine⟨oO,_,jD,rfl,?_⟩;refine cl (xl c q1 q7 oO).dz ?_;refine bJ 44 (λx:Nat×Bool×List Dg=>[(1,.ptr 1 0),(3,match x.2.1 with|true=>.gd 37 33 32|false=>.full []),(15,.p (.sl (p.changes.map cC))),(16,.p (.int .i64 ((p.changes.map cC).length:Int))),(17,.p (.int .i64 k)),(22,.p (.sl ((dG c).map (Ed c)))),(23,.p (.int .i64 (((dG c).map (Ed c)).length:Int))),(24,.p (.int .i64 x.1))]) (λx=>(1,aG (cP p))::(match x.2.1 with|true=>[(37,di x.2.2)]|false=>[])) (λx=>x.1<=(dG c).length/\x.2.2=pS c x.1/\(x.2.1=false->x.2.2=[])) (λx=>(dG c).length-x.1) (0,false,[]) ⟨zL,rfl,λ_=>rfl⟩ kK wS oS ?_;rintro⟨j,b,M⟩ ⟨hj,hM,Cg⟩;replace hj:j<=(dG c).length:=hj;replace hM:M=pS c j:=hM;have hMl:=EV c j;refine cg (l:=dG c) (f:=Ed c) (λef=>?_) (λsq=>?_);have rz:=BM ef;have tg:((dG c).map (Ed c))[((j:Nat):Int).toNat]?=some (Ed c (dG c)[j]):=dL rfl ef;generalize(dG c)[j]=xe at rz tg;obtain⟨x,n⟩:=xe;obtain⟨g,cap,hfn⟩:∃g cap,fnK c n=.fn (.func g) [] cap:=by unfold fnK;by_cases hn:n<185;exact⟨n,[],ag hn⟩;exact⟨n,[.imp (cC c)],af hn⟩
   replace tg:((dG c).map (Ed c))[((j:Nat):Int).toNat]?=some (cI x++[fnK c n]):=tg;rw[hfn]at tg;replace rz:pS c (j+1)=pS c j++(if x.p=aV then[]else[x.p]):=rz;cases b with
   |false=>obtain rfl:M=[]:=Cg rfl;refine⟨oO,_,tg,rfl,?_⟩;refine cl (fD x).dz ?_;refine bH ?_;by_cases hz:x.p=aV;rw[an hz];rw[ag hz,aW]at rz;exact nx (j+1) (aQ (j+1,false,[]) ⟨ef,by rw[rz];exact hM,λ_=>rfl⟩ (by show(dG c).length-(j+1)<(dG c).length-j;omega) kK wS oS);rw[ak hz];rw[af hz]at rz;refine⟨mF _ _,(λzs h=>by rw[aP.1 h];rfl),(show 1*32<=140737488355328 by decide),di [x.p],rfl,?_⟩;exact nx (j+1) (aQ (j+1,true,[x.p]) ⟨ef,by rw[rz,<-hM];rfl,(λh=>nomatch h)⟩ (by show(dG c).length-(j+1)<(dG c).length-j;omega) kK wS oS)
   |true=>refine⟨oO,_,tg,rfl,?_⟩;refine cl (fD x).dz ?_;refine bH ?_;by_cases hz:x.p=aV;rw[an hz];rw[ag hz,aW]at rz;exact nx (j+1) (aQ (j+1,true,M) ⟨ef,by rw[rz];exact hM,(λh=>nomatch h)⟩ (by show(dG c).length-(j+1)<(dG c).length-j;omega) kK wS ⟨aH kK,QG 7 kK,trivial⟩);rw[ak hz];rw[af hz]at rz;refine⟨M.length,by rw[nK,nK];exact dS M,(λzs h=>by rw[aP.1 h];rfl),by show(M.length+1)*32<=_;rw[hM];omega,di (M++[x.p]),by rw[nK,nK];exact ES _ _ _,?_⟩;exact nx (j+1) (aQ (j+1,true,M++[x.p]) ⟨ef,by rw[rz,hM],(λh=>nomatch h)⟩ (by show(dG c).length-(j+1)<(dG c).length-j;omega) kK wS oS)
   obtain rfl:j=(dG c).length:=oO
   have hM2:M=sr p (k+1):=by rw[AQ,hM];unfold pS DI;rw[aU];rfl
   cases b with
   |false=>obtain rfl:M=[]:=Cg rfl;exact nx (k+1) (aQ (k+1,false,[]) ⟨hlt,hM2,(λ_=>rfl),zL⟩ (by show p.changes.length-(k+1)<p.changes.length-k;omega) kK wS oS)
   |true=>exact nx (k+1) (aQ (k+1,true,M) ⟨hlt,hM2,(λh=>nomatch h),by show M.length<=409*(k+1);rw[hM];omega⟩ (by show p.changes.length-(k+1)<p.changes.length-k;omega) kK wS oS)
  |true=>
   refine⟨oO,_,jD,rfl,?_⟩;refine cl (xl c q1 q7 oO).dz ?_;refine bJ 44 (λx:Nat×List Dg=>[(1,.ptr 1 0),(3,.gd 37 33 32),(15,.p (.sl (p.changes.map cC))),(16,.p (.int .i64 ((p.changes.map cC).length:Int))),(17,.p (.int .i64 k)),(22,.p (.sl ((dG c).map (Ed c)))),(23,.p (.int .i64 (((dG c).map (Ed c)).length:Int))),(24,.p (.int .i64 x.1))]) (λx=>[(1,aG (cP p)),(37,di x.2)]) (λx=>x.1<=(dG c).length/\x.2=L++pS c x.1) (λx=>(dG c).length-x.1) (0,L) ⟨zL,by show L=L++[];rw[aW]⟩ kK wS ⟨aH kK,QG 5 kK,trivial⟩ ?_;rintro⟨j,M⟩ ⟨hj,hM⟩;replace hj:j<=(dG c).length:=hj;replace hM:M=L++pS c j:=hM;have hMl:=EV c j;refine cg (l:=dG c) (f:=Ed c) (λef=>?_) (λsq=>?_);have rz:=BM ef;have tg:((dG c).map (Ed c))[((j:Nat):Int).toNat]?=some (Ed c (dG c)[j]):=dL rfl ef;generalize(dG c)[j]=xe at rz tg;obtain⟨x,n⟩:=xe;obtain⟨g,cap,hfn⟩:∃g cap,fnK c n=.fn (.func g) [] cap:=by unfold fnK;by_cases hn:n<185;exact⟨n,[],ag hn⟩;exact⟨n,[.imp (cC c)],af hn⟩
   replace tg:((dG c).map (Ed c))[((j:Nat):Int).toNat]?=some (cI x++[fnK c n]):=tg;rw[hfn]at tg;refine⟨oO,_,tg,rfl,?_⟩;refine cl (fD x).dz ?_;refine bH ?_;replace rz:pS c (j+1)=pS c j++(if x.p=aV then[]else[x.p]):=rz;by_cases hz:x.p=aV;rw[an hz];rw[ag hz,aW]at rz;exact nx (j+1) (aQ (j+1,M) ⟨ef,by rw[rz];exact hM⟩ (by show(dG c).length-(j+1)<(dG c).length-j;omega) kK wS ⟨aH kK,QG 7 kK,trivial⟩);rw[ak hz];rw[af hz]at rz;refine⟨M.length,by rw[nK,nK];exact dS M,(λzs h=>by rw[aP.1 h];rfl),by show(M.length+1)*32<=_;rw[hM,ay];omega,di (M++[x.p]),by rw[nK,nK];exact ES _ _ _,?_⟩;exact nx (j+1) (aQ (j+1,M++[x.p]) ⟨ef,by rw[rz,hM,bu]⟩ (by show(dG c).length-(j+1)<(dG c).length-j;omega) kK wS oS);obtain rfl:j=(dG c).length:=oO
   have hM2:M=sr p (k+1):=by rw[AQ,hM];unfold pS DI;rw[aU]
   exact nx (k+1) (aQ (k+1,true,M) ⟨hlt,hM2,(λh=>nomatch h),by show M.length<=409*(k+1);rw[hM,ay];omega⟩ (by show p.changes.length-(k+1)<p.changes.length-k;omega) kK wS oS)
  obtain rfl:k=p.changes.length:=oO
  have hLn:BN p=L:=by rw[hL];unfold sr BN;rw[aU]
  rw[hLn];have hLb:L.length<=2^40:=oO
  cases b with
  |false=>obtain rfl:L=[]:=hb rfl;refine cl (NI 75).dz ?_;refine .inl ⟨_,Tryz.func115,rfl,rfl,rfl,?_⟩;refine aF (λ_=>?_) (λh2=>absurd (show(0:Int)<2 by decide) h2);refine dc 44 [(43,.full [])] [] kK wS trivial ?_;exact .inr (.inr (by rw[show AZ ([]:List Dg)=[]from by simp[AZ]];rfl))
  |true=>
   refine .inr (.inr (DF rfl rfl (bC _) (Ji _ rfl L hLb) λr ys hr=>?_));obtain⟨rfl,rfl⟩:=hr;have RX:=LG L;generalize AZ L=l at RX⊢;have afW:(dB l).length<=l.length:=EU l;refine .inl ⟨_,Tryz.func115,rfl,rfl,rfl,?_⟩;refine⟨l.length,by exact dS l,?_⟩;refine aF (λh2=>?_) (λh2=>?_);have h2:l.length<2:=by have :(l.length:Int)<2:=h2;omega
   have hc:dB l=l:=by
    match l,h2 with
     |[],_=>rfl
     |[_],_=>rfl
   rw[hc];refine dc 44 [(1,.ptr 1 0),(43,.gd 37 33 32)] [(37,di l)] kK wS oS ?_;exact⟨jW l,uR,bC _,.inl rfl⟩;have h2:2<=l.length:=by have :¬(l.length:Int)<2:=h2;omega
   refine Dd 61 1000 (λk:Nat=>[(0,.gd 37 33 32),(3,.p (.int .i64 k))]) (λ_=>[(37,di l)]) (λ_=>[(44,0,[(1,.ptr 1 0)])]) [] (λ_=>[]) (λk=>1<=k/\k<=l.length/\dB (l.take k)=l.take k) (λk=>l.length-k) 1 ⟨aA _,oO,by(match l,h2 with|a::l,_=>rfl)⟩ kK wS oS ⟨rfl,wS,trivial⟩ trivial ?_;rintro k ⟨Zg,hk,hck⟩;refine⟨l.length,by exact dS l,?_⟩;refine aF (λhlt=>?_) (λhge=>?_);rotate_left;obtain rfl:k=l.length:=by have :¬(k:Int)<(l.length:Int):=hge;omega
   rw[aU]at hck;rw[hck];refine dc 44 [(1,.ptr 1 0),(43,.gd 37 33 32)] [(37,di l)] kK wS oS ?_;exact⟨jW l,uR,bC _,.inl rfl⟩;have hlt:k<l.length:=by have :(k:Int)<(l.length:Int):=hlt;omega
   have hct:=xA (oO:0<k) hlt;have hrl:=dS l;refine bW 10 kK ?_;refine⟨k,k*32,rfl,rfl,by rw[hrl];omega,?_⟩;refine⟨_,aG (cD l[k]),_,GP hlt,by rw[dS,aL];congr 1;omega,?_⟩;refine nx (k-1) ?_;refine⟨k-1,(k-1)*32,rfl,rfl,by rw[hrl];omega,?_⟩;refine⟨_,aG (cD l[k-1]),_,GP (oO:k-1<l.length),by rw[dS,aL];congr 1;omega,?_⟩;refine⟨qC,bY,lC,rfl,rfl,?_⟩;refine By (a:=l[k]) (b:=l[k-1]) ?_;by_cases he:l[k]=l[k-1];rotate_left;rw[ak he];rw[af (eu he),hck,<-dr hlt]at hct;exact nx (k+1) (sk (k+1) ⟨oO,hlt,hct⟩ oO kK wS oS ⟨rfl,wS,trivial⟩ trivial);rw[an he];rw[ag he.symm,hck]at hct;refine⟨k,l.length,rfl,by exact dS l,oO,?_⟩;refine Dd 61 1000 (λx:Nat×List Dg×List Dg=>[(0,.gd 37 33 32),(4,.uk 37 k 33 32),(3,.p (.int .i64 (x.2.1.length:Int))),(5,.p (.int .i64 x.1))]) (λx=>[(37,di (x.2.1++x.2.2++l.drop (k+x.1-1)))]) (λ_=>[(44,0,[(1,.ptr 1 0)])]) [] (λ_=>[]) (λx=>1<=x.1/\k+x.1<=l.length/\dB (l.take (k+x.1))=x.2.1/\x.2.1.length+x.2.2.length=k+x.1-1) (λx=>l.length-(k+x.1)) (1,l.take k,[]) ⟨aA _,hlt,hct,by show(l.take k).length+0=k+1-1;rw[aL];omega⟩ kK ⟨bh.eq kK,bh.eq kK,bh.eq (by rw[aL,ou hk];kernel_rfl),bh.eq kK,trivial⟩ ⟨(by rw[show l.take k++[]++l.drop (k+1-1)=l from by rw[aW,DJ,dI]];exact aH kK),trivial⟩ ⟨rfl,wS,trivial⟩ trivial ?_;rintro⟨q,K,M⟩ ⟨hq1,hq,hK,hKM⟩;replace hq:k+q<=l.length:=hq;replace hK:dB (l.take (k+q))=K:=hK;replace hKM:K.length+M.length=k+q-1:=hKM;replace hq1:1<=q:=hq1;have BO:(di (K++M++l.drop (k+q-1))).length=l.length*32:=by rw[dS,ay,ay,cQ];congr 1;omega
   refine⟨l.length-k,by rw[show(di (K++M++l.drop (k+q-1))).length=l.length*32 from BO];congr 1;omega,?_⟩;refine aF (λef=>?_) (λsq=>?_);have ef:k+q<l.length:=by have :(q:Int)<((l.length-k:Nat):Int):=ef;omega
   have BP:=xA (oO:0<k+q) ef;rw[hK]at BP;have Oe:l.drop (k+q-1)=l[k+q-1]::(l[k+q]::l.drop (k+q+1)):=by rw[bZ (oO:k+q-1<l.length),show k+q-1+1=k+q from oO,bZ ef]
   have hd2:l.drop (k+q)=l[k+q]::l.drop (k+q+1):=bZ ef;generalize l[k+q]=x at BP Oe hd2;generalize l[k+q-1]=y at BP Oe;generalize l.drop (k+q+1)=R at Oe hd2;have hr1:di (K++M++l.drop (k+q-1))=di (K++M++[y])++(aG (cD x)++di R):=by rw[Oe,<-ru,<-jN];simp
   have hr0:di (K++M++l.drop (k+q-1))=di (K++M)++(aG (cD y)++di (x::R)):=by rw[Oe,<-ru,<-jN]
   have NK:(K++M).length=k+q-1:=by rw[ay];exact hKM
   refine bW 10 kK ?_;refine⟨q,(k+q)*32,rfl,rfl,by rw[BO];omega,?_⟩;refine⟨_,aG (cD x),_,hr1,by rw[dS,ay,NK];show(k+q-1+1)*32=_;congr 1;omega,?_⟩;refine nx (q-1) ?_;refine⟨q-1,(k+q-1)*32,rfl,by congr 1;omega,by rw[BO];omega,?_⟩;refine⟨_,aG (cD y),_,hr0,by rw[dS,NK],?_⟩;refine⟨qC,bY,lC,rfl,rfl,?_⟩;refine nE (a:=x) (b:=y) ?_;obtain⟨e,M2,hM2⟩:∃e M2,M++[y]=e::M2:=by
    cases M with
    |nil=>exact⟨y,[],rfl⟩
    |cons a M=>exact⟨a,M++[y],rfl⟩
   have ak1:M.length=M2.length:=by have :=bg List.length hM2;simpa using this
   by_cases hxy:x=y;rw[an hxy];rw[ag hxy.symm]at BP;exact nx (q+1) (sk (q+1,K,M++[y]) ⟨oO,ef,BP,by show K.length+(M++[y]).length=k+(q+1)-1;rw[ay];simp only[ic];omega⟩ (by show l.length-(k+(q+1))<l.length-(k+q);omega) kK wS ⟨(by rw[show K++(M++[y])++l.drop (k+(q+1)-1)=K++M++l.drop (k+q-1)from by rw[show k+(q+1)-1=k+q from oO,hd2,Oe];simp];exact aH kK),trivial⟩ ⟨rfl,wS,trivial⟩ trivial);rw[ak hxy];rw[af (eu hxy)]at BP;refine⟨q,(k+q)*32,rfl,rfl,by rw[BO];omega,?_⟩;refine⟨_,aG (cD x),_,hr1,by rw[dS,ay,NK];show(k+q-1+1)*32=_;congr 1;omega,?_⟩;refine⟨K.length,K.length*32,rfl,rfl,by rw[BO];omega,?_⟩;have Zf:di (K++M++l.drop (k+q-1))=di K++(aG (cD e)++di (M2++x::R)):=by rw[Oe,show K++M++y::x::R=K++((M++[y])++x::R)from by simp,hM2,jN,dm,ru]
   refine⟨di K,aG (cD e),di (M2++x::R),Zf,dS K,?_⟩;refine⟨di (K++[x]++(M2++l.drop (k+q))),by rw[hd2];exact(show di (K++[x]++(M2++x::R))=di K++(aG (cD x)++di (M2++x::R))from by rw[jN (K++[x]),jN K,DG,bu]).symm,?_⟩;refine⟨((K.length+1:Nat):Int),(show IntKind.i64.wrap ((K.length:Int)+1)=_ from by rw[ay]at NK;rw[wrap64 oO oO];omega),?_⟩;exact nx (q+1) (sk (q+1,K++[x],M2) ⟨oO,ef,BP,by show(K++[x]).length+M2.length=k+(q+1)-1;rw[ay];simp only[ic];omega⟩ (by show l.length-(k+(q+1))<l.length-(k+q);omega) kK ⟨bh.eq kK,bh.eq kK,bh.eq (by rw[ay];kernel_rfl),bh.eq kK,trivial⟩ ⟨(by rw[show K++[x]++M2++l.drop (k+(q+1)-1)=K++[x]++(M2++l.drop (k+q))from by rw[show k+(q+1)-1=k+q from oO,bu (K++[x])]];exact aH kK),trivial⟩ ⟨rfl,wS,trivial⟩ trivial);obtain rfl:q=l.length-k:=by have :¬(q:Int)<((l.length-k:Nat):Int):=sq;omega
   rw[show k+(l.length-k)=l.length from oO,aU]at hK;subst hK;refine⟨(dB l).length,l.length,rfl,by rw[show(di (dB l++M++l.drop (k+(l.length-k)-1))).length=l.length*32 from BO],oO,?_⟩;refine⟨rfl,l.length-(dB l).length,by rw[show(di (dB l++M++l.drop (k+(l.length-k)-1))).length=l.length*32 from BO];congr 1;omega,_,rfl,?_⟩;have htk:(di (dB l++M++l.drop (k+(l.length-k)-1))).take ((dB l).length*32)=di (dB l):=by rw[bu,jN];exact LF _ _
   refine⟨(dB l).length,l.length,rfl,by rw[show(List.take ((dB l).length*32) (di (dB l++M++l.drop (k+(l.length-k)-1))))=di (dB l)from htk,ay,dS,(lF _ _).1];show(dB l).length*32+(l.length-(dB l).length)*32=l.length*32;omega,oO,di (dB l),?_,?_⟩;rw[show(List.take ((dB l).length*32) (di (dB l++M++l.drop (k+(l.length-k)-1))))=di (dB l)from htk,sG (by rw[dS];exact aA _),cU (by rw[dS];exact aA _)];exact nK _ _;refine dc 44 [(1,.ptr 1 0),(43,.gd 37 33 32)] [(37,di (dB l))] kK wS oS ?_;exact⟨jW (dB l),uR,bC _,.inl rfl⟩
 refine⟨0,rfl,(λzs hz=>(uR zs hz).1),by show(0+(jW p.deps).length)*32<=_;rw[show(jW p.deps).length=p.deps.length from by simp[jW]];omega,di p.deps,by show FV.eD _ (([]:List FV)++di p.deps)=di p.deps;rw[gx];exact nK _ _,?_⟩;refine dc 44 [(1,.ptr 1 0),(13,.gd 1005 33 32)] [(1,aG (cP p)),(1005,di p.deps)] kK wS oS ?_;refine bJ 44 (λx:Nat×List Dg=>[(1,.ptr 1 0),(3,.gd 1005 33 32),(15,.p (.sl (p.changes.map cC))),(16,.p (.int .i64 ((p.changes.map cC).length:Int))),(17,.p (.int .i64 x.1))]) (λx=>[(1,aG (cP p)),(1005,di x.2)]) (λx=>x.1<=p.changes.length/\x.2=sr p x.1/\x.2.length<=100+409*x.1) (λx=>p.changes.length-x.1) (0,p.deps) ⟨zL,by show p.deps=p.deps++[];rw[aW],oO⟩ kK wS oS ?_;rintro⟨k,L⟩ ⟨hk,hL,hLl⟩;replace hk:k<=p.changes.length:=hk;replace hL:L=sr p k:=hL;replace hLl:L.length<=100+409*k:=hLl;refine cg (l:=p.changes) (f:=cC) (λhlt=>?_) (λhge=>?_);obtain⟨q1,q7,qo⟩:=Du p.changes[k] (aO _);have AQ:=FZ hlt;have jD:(p.changes.map cC)[((k:Nat):Int).toNat]?=some (cC p.changes[k]):=dL rfl hlt;generalize p.changes[k]=c at q1 q7 qo AQ jD;have hrl:=Jl c;rw[<-hL]at AQ;refine⟨oO,_,jD,rfl,?_⟩;refine cl (xl c q1 q7 oO).dz ?_;refine bJ 44 (λx:Nat×List Dg=>[(1,.ptr 1 0),(3,.gd 1005 33 32),(15,.p (.sl (p.changes.map cC))),(16,.p (.int .i64 ((p.changes.map cC).length:Int))),(17,.p (.int .i64 k)),(22,.p (.sl ((dG c).map (Ed c)))),(23,.p (.int .i64 (((dG c).map (Ed c)).length:Int))),(24,.p (.int .i64 x.1))]) (λx=>[(1,aG (cP p)),(1005,di x.2)]) (λx=>x.1<=(dG c).length/\x.2=L++pS c x.1) (λx=>(dG c).length-x.1) (0,L) ⟨zL,by show L=L++[];rw[aW]⟩ kK wS ⟨aH kK,QG 5 kK,trivial⟩ ?_;rintro⟨j,M⟩ ⟨hj,hM⟩;replace hj:j<=(dG c).length:=hj;replace hM:M=L++pS c j:=hM;have hMl:=EV c j;refine cg (l:=dG c) (f:=Ed c) (λef=>?_) (λsq=>?_);have rz:=BM ef;have tg:((dG c).map (Ed c))[((j:Nat):Int).toNat]?=some (Ed c (dG c)[j]):=dL rfl ef;generalize(dG c)[j]=xe at rz tg;obtain⟨x,n⟩:=xe;obtain⟨g,cap,hfn⟩:∃g cap,fnK c n=.fn (.func g) [] cap:=by unfold fnK;by_cases hn:n<185;exact⟨n,[],ag hn⟩;exact⟨n,[.imp (cC c)],af hn⟩
 replace tg:((dG c).map (Ed c))[((j:Nat):Int).toNat]?=some (cI x++[fnK c n]):=tg;rw[hfn]at tg;refine⟨oO,_,tg,rfl,?_⟩;refine cl (fD x).dz ?_;refine bH ?_;replace rz:pS c (j+1)=pS c j++(if x.p=aV then[]else[x.p]):=rz;by_cases hz:x.p=aV;rw[an hz];rw[ag hz,aW]at rz;exact nx (j+1) (aQ (j+1,M) ⟨ef,by rw[rz];exact hM⟩ (by show(dG c).length-(j+1)<(dG c).length-j;omega) kK wS ⟨aH kK,QG 7 kK,trivial⟩);rw[ak hz];rw[af hz]at rz;refine⟨M.length,by rw[nK,nK];exact dS M,(λzs h=>by rw[aP.1 h];rfl),by show(M.length+1)*32<=_;rw[hM,ay];omega,di (M++[x.p]),by rw[nK,nK];exact ES _ _ _,?_⟩;exact nx (j+1) (aQ (j+1,M++[x.p]) ⟨ef,by rw[rz,hM,bu]⟩ (by show(dG c).length-(j+1)<(dG c).length-j;omega) kK wS oS);obtain rfl:j=(dG c).length:=oO
 have hM2:M=sr p (k+1):=by rw[AQ,hM];unfold pS DI;rw[aU]
 exact nx (k+1) (aQ (k+1,M) ⟨hlt,hM2,by show M.length<=100+409*(k+1);rw[hM,ay];omega⟩ (by show p.changes.length-(k+1)<p.changes.length-k;omega) kK wS oS);obtain rfl:k=p.changes.length:=oO
 have hLn:BN p=L:=by rw[hL];unfold sr BN;rw[aU]
 rw[hLn];have hLb:L.length<=2^40:=oO
 refine .inr (.inr (DF rfl rfl (bC _) (Ji _ rfl L hLb) λr ys hr=>?_));obtain⟨rfl,rfl⟩:=hr;have RX:=LG L;generalize AZ L=l at RX⊢;have afW:(dB l).length<=l.length:=EU l;refine .inl ⟨_,Tryz.func115,rfl,rfl,rfl,?_⟩;refine⟨l.length,by exact dS l,?_⟩;refine aF (λh2=>?_) (λh2=>?_);have h2:l.length<2:=by have :(l.length:Int)<2:=h2;omega
 have hc:dB l=l:=by
  match l,h2 with
   |[],_=>rfl
   |[_],_=>rfl
 rw[hc];refine dc 44 [(1,.ptr 1 0),(43,.gd 1005 33 32)] [(1005,di l)] kK wS oS ?_;exact⟨jW l,uR,bC _,.inl rfl⟩;have h2:2<=l.length:=by have :¬(l.length:Int)<2:=h2;omega
 refine Dd 61 1000 (λk:Nat=>[(0,.gd 1005 33 32),(3,.p (.int .i64 k))]) (λ_=>[(1005,di l)]) (λ_=>[(44,0,[(1,.ptr 1 0)])]) [] (λ_=>[]) (λk=>1<=k/\k<=l.length/\dB (l.take k)=l.take k) (λk=>l.length-k) 1 ⟨aA _,oO,by(match l,h2 with|a::l,_=>rfl)⟩ kK wS oS ⟨rfl,wS,trivial⟩ trivial ?_;rintro k ⟨Zg,hk,hck⟩;refine⟨l.length,by exact dS l,?_⟩;refine aF (λhlt=>?_) (λhge=>?_);rotate_left;obtain rfl:k=l.length:=by have :¬(k:Int)<(l.length:Int):=hge;omega
 rw[aU]at hck;rw[hck];refine dc 44 [(1,.ptr 1 0),(43,.gd 1005 33 32)] [(1005,di l)] kK wS oS ?_;exact⟨jW l,uR,bC _,.inl rfl⟩;have hlt:k<l.length:=by have :(k:Int)<(l.length:Int):=hlt;omega
 have hct:=xA (oO:0<k) hlt;have hrl:=dS l;refine bW 10 kK ?_;refine⟨k,k*32,rfl,rfl,by rw[hrl];omega,?_⟩;refine⟨_,aG (cD l[k]),_,GP hlt,by rw[dS,aL];congr 1;omega,?_⟩;refine nx (k-1) ?_;refine⟨k-1,(k-1)*32,rfl,rfl,by rw[hrl];omega,?_⟩;refine⟨_,aG (cD l[k-1]),_,GP (oO:k-1<l.length),by rw[dS,aL];congr 1;omega,?_⟩;refine⟨qC,bY,lC,rfl,rfl,?_⟩;refine By (a:=l[k]) (b:=l[k-1]) ?_;by_cases he:l[k]=l[k-1];rotate_left;rw[ak he];rw[af (eu he),hck,<-dr hlt]at hct;exact nx (k+1) (sk (k+1) ⟨oO,hlt,hct⟩ oO kK wS oS ⟨rfl,wS,trivial⟩ trivial);rw[an he];rw[ag he.symm,hck]at hct;refine⟨k,l.length,rfl,by exact dS l,oO,?_⟩;refine Dd 61 1000 (λx:Nat×List Dg×List Dg=>[(0,.gd 1005 33 32),(4,.uk 1005 k 33 32),(3,.p (.int .i64 (x.2.1.length:Int))),(5,.p (.int .i64 x.1))]) (λx=>[(1005,di (x.2.1++x.2.2++l.drop (k+x.1-1)))]) (λ_=>[(44,0,[(1,.ptr 1 0)])]) [] (λ_=>[]) (λx=>1<=x.1/\k+x.1<=l.length/\dB (l.take (k+x.1))=x.2.1/\x.2.1.length+x.2.2.length=k+x.1-1) (λx=>l.length-(k+x.1)) (1,l.take k,[]) ⟨aA _,hlt,hct,by show(l.take k).length+0=k+1-1;rw[aL];omega⟩ kK ⟨bh.eq kK,bh.eq kK,bh.eq (by rw[aL,ou hk];kernel_rfl),bh.eq kK,trivial⟩ ⟨(by rw[show l.take k++[]++l.drop (k+1-1)=l from by rw[aW,DJ,dI]];exact aH kK),trivial⟩ ⟨rfl,wS,trivial⟩ trivial ?_;rintro⟨q,K,M⟩ ⟨hq1,hq,hK,hKM⟩;replace hq:k+q<=l.length:=hq;replace hK:dB (l.take (k+q))=K:=hK;replace hKM:K.length+M.length=k+q-1:=hKM;replace hq1:1<=q:=hq1;have BO:(di (K++M++l.drop (k+q-1))).length=l.length*32:=by rw[dS,ay,ay,cQ];congr 1;omega
 refine⟨l.length-k,by rw[show(di (K++M++l.drop (k+q-1))).length=l.length*32 from BO];congr 1;omega,?_⟩;refine aF (λef=>?_) (λsq=>?_);have ef:k+q<l.length:=by have :(q:Int)<((l.length-k:Nat):Int):=ef;omega
 have BP:=xA (oO:0<k+q) ef;rw[hK]at BP;have Oe:l.drop (k+q-1)=l[k+q-1]::(l[k+q]::l.drop (k+q+1)):=by rw[bZ (oO:k+q-1<l.length),show k+q-1+1=k+q from oO,bZ ef]
 have hd2:l.drop (k+q)=l[k+q]::l.drop (k+q+1):=bZ ef;generalize l[k+q]=x at BP Oe hd2;generalize l[k+q-1]=y at BP Oe;generalize l.drop (k+q+1)=R at Oe hd2;have hr1:di (K++M++l.drop (k+q-1))=di (K++M++[y])++(aG (cD x)++di R):=by rw[Oe,<-ru,<-jN];simp
 have hr0:di (K++M++l.drop (k+q-1))=di (K++M)++(aG (cD y)++di (x::R)):=by rw[Oe,<-ru,<-jN]
 have NK:(K++M).length=k+q-1:=by rw[ay];exact hKM
 refine bW 10 kK ?_;refine⟨q,(k+q)*32,rfl,rfl,by rw[BO];omega,?_⟩;refine⟨_,aG (cD x),_,hr1,by rw[dS,ay,NK];show(k+q-1+1)*32=_;congr 1;omega,?_⟩;refine nx (q-1) ?_;refine⟨q-1,(k+q-1)*32,rfl,by congr 1;omega,by rw[BO];omega,?_⟩;refine⟨_,aG (cD y),_,hr0,by rw[dS,NK],?_⟩;refine⟨qC,bY,lC,rfl,rfl,?_⟩;refine nE (a:=x) (b:=y) ?_;obtain⟨e,M2,hM2⟩:∃e M2,M++[y]=e::M2:=by
  cases M with
  |nil=>exact⟨y,[],rfl⟩
  |cons a M=>exact⟨a,M++[y],rfl⟩
 have ak1:M.length=M2.length:=by have :=bg List.length hM2;simpa using this
 by_cases hxy:x=y;rw[an hxy];rw[ag hxy.symm]at BP;exact nx (q+1) (sk (q+1,K,M++[y]) ⟨oO,ef,BP,by show K.length+(M++[y]).length=k+(q+1)-1;rw[ay];simp only[ic];omega⟩ (by show l.length-(k+(q+1))<l.length-(k+q);omega) kK wS ⟨(by rw[show K++(M++[y])++l.drop (k+(q+1)-1)=K++M++l.drop (k+q-1)from by rw[show k+(q+1)-1=k+q from oO,hd2,Oe];simp];exact aH kK),trivial⟩ ⟨rfl,wS,trivial⟩ trivial);rw[ak hxy];rw[af (eu hxy)]at BP;refine⟨q,(k+q)*32,rfl,rfl,by rw[BO];omega,?_⟩;refine⟨_,aG (cD x),_,hr1,by rw[dS,ay,NK];show(k+q-1+1)*32=_;congr 1;omega,?_⟩;refine⟨K.length,K.length*32,rfl,rfl,by rw[BO];omega,?_⟩;have Zf:di (K++M++l.drop (k+q-1))=di K++(aG (cD e)++di (M2++x::R)):=by rw[Oe,show K++M++y::x::R=K++((M++[y])++x::R)from by simp,hM2,jN,dm,ru]
 refine⟨di K,aG (cD e),di (M2++x::R),Zf,dS K,?_⟩;refine⟨di (K++[x]++(M2++l.drop (k+q))),by rw[hd2];exact(show di (K++[x]++(M2++x::R))=di K++(aG (cD x)++di (M2++x::R))from by rw[jN (K++[x]),jN K,DG,bu]).symm,?_⟩;refine⟨((K.length+1:Nat):Int),(show IntKind.i64.wrap ((K.length:Int)+1)=_ from by rw[ay]at NK;rw[wrap64 oO oO];omega),?_⟩;exact nx (q+1) (sk (q+1,K++[x],M2) ⟨oO,ef,BP,by show(K++[x]).length+M2.length=k+(q+1)-1;rw[ay];simp only[ic];omega⟩ (by show l.length-(k+(q+1))<l.length-(k+q);omega) kK ⟨bh.eq kK,bh.eq kK,bh.eq (by rw[ay];kernel_rfl),bh.eq kK,trivial⟩ ⟨(by rw[show K++[x]++M2++l.drop (k+(q+1)-1)=K++[x]++(M2++l.drop (k+q))from by rw[show k+(q+1)-1=k+q from oO,bu (K++[x])]];exact aH kK),trivial⟩ ⟨rfl,wS,trivial⟩ trivial);obtain rfl:q=l.length-k:=by have :¬(q:Int)<((l.length-k:Nat):Int):=sq;omega
 rw[show k+(l.length-k)=l.length from oO,aU]at hK;subst hK;refine⟨(dB l).length,l.length,rfl,by rw[show(di (dB l++M++l.drop (k+(l.length-k)-1))).length=l.length*32 from BO],oO,?_⟩;refine⟨rfl,l.length-(dB l).length,by rw[show(di (dB l++M++l.drop (k+(l.length-k)-1))).length=l.length*32 from BO];congr 1;omega,_,rfl,?_⟩;have htk:(di (dB l++M++l.drop (k+(l.length-k)-1))).take ((dB l).length*32)=di (dB l):=by rw[bu,jN];exact LF _ _
 refine⟨(dB l).length,l.length,rfl,by rw[show(List.take ((dB l).length*32) (di (dB l++M++l.drop (k+(l.length-k)-1))))=di (dB l)from htk,ay,dS,(lF _ _).1];show(dB l).length*32+(l.length-(dB l).length)*32=l.length*32;omega,oO,di (dB l),?_,?_⟩;rw[show(List.take ((dB l).length*32) (di (dB l++M++l.drop (k+(l.length-k)-1))))=di (dB l)from htk,sG (by rw[dS];exact aA _),cU (by rw[dS];exact aA _)];exact nK _ _;refine dc 44 [(1,.ptr 1 0),(43,.gd 1005 33 32)] [(1005,di (dB l))] kK wS oS ?_;exact⟨jW (dB l),uR,bC _,.inl rfl⟩
theorem QO {c:dn}(h:cO c=0){d:Dg}(hd:d≠aV):(∃x,x∈refsOf c/\x.p=d)↔∃e,e∈dG c/\e.1.p=d:=by
 obtain⟨g1,g2,-,-,g5,-⟩:=fu h;have hz:∀x:bV,x=aS->x.p≠d:=λx e q=>hd (by rw[<-q,e];rfl);have hr:∀x:bV,x=kX->x.p≠d:=λx e q=>hd (by rw[<-q,e];rfl);simp only[bB,br,decide_eq_true_eq]at g5;obtain⟨e1,-,e3,-,-,-,e7,e8,-,e10⟩:=g5;have Du:(∃e:bV×Nat,e∈(c.over.map λx=>((x,186):bV×Nat))/\e.1.p=d)↔∃x,x∈c.over/\x.p=d:=by constructor;rintro⟨e,he,hp⟩;obtain⟨x,hx,rfl⟩:=aC.1 he;exact⟨x,hx,hp⟩;rintro⟨x,hx,hp⟩;exact⟨(x,186),aC.2 ⟨x,hx,rfl⟩,hp⟩
 have hL:(∃x,x∈refsOf c/\x.p=d)↔c.file.p=d\/c.parent.p=d\/c.cS.p=d\/c.cZ.p=d\/∃x,x∈c.over/\x.p=d:=by unfold refsOf;constructor;rintro⟨x,hx,hp⟩;rcases aZ.1 hx with hx|hx;simp only[aK,gy,or_false]at hx;rcases hx with rfl|rfl|rfl|rfl;exact .inl hp;exact .inr (.inl hp);exact .inr (.inr (.inl hp));exact .inr (.inr (.inr (.inl hp)));exact .inr (.inr (.inr (.inr ⟨x,hx,hp⟩)));rintro(hp|hp|hp|hp|⟨x,hx,hp⟩);exact⟨_,by simp,hp⟩;exact⟨c.parent,by simp,hp⟩;exact⟨c.cS,by simp,hp⟩;exact⟨c.cZ,by simp,hp⟩;exact⟨x,aZ.2 (.inr hx),hp⟩
 rw[hL,<-Du];have app:∀A B:List (bV×Nat),(∃e,e∈A++B/\e.1.p=d)↔(∃e,e∈A/\e.1.p=d)\/∃e,e∈B/\e.1.p=d:=λA B=>by constructor;rintro⟨e,he,hp⟩;rcases aZ.1 he with he|he;exact .inl ⟨e,he,hp⟩;exact .inr ⟨e,he,hp⟩;rintro(⟨e,he,hp⟩|⟨e,he,hp⟩);exact⟨e,aZ.2 (.inl he),hp⟩;exact⟨e,aZ.2 (.inr he),hp⟩
 unfold dG;rw[app,app,app];have aaW:c.file.p=d↔∃e,e∈(if 2<=c.kind/\c.kind<=6 then[(c.file,if c.kind<=3 then 181 else if c.kind=4 then 182 else 183)]else([]:List (bV×Nat)))/\e.1.p=d:=by
  by_cases hk:2<=c.kind/\c.kind<=6;rw[ag hk];simp;rw[af hk];have hf:c.file=aS:=by
   have :c.kind=1\/c.kind=7:=oO
   rcases this with q|q;rw[BE c q]at e1;exact e1;rw[EL c q]at e1;exact e1
  exact⟨λq=>absurd q (hz _ hf),λ⟨e,he,_⟩=>by cases he⟩
 have hpar:c.parent.p=d↔∃e,e∈(if c.kind=2/\c.parent≠kX then[(c.parent,184)]else([]:List (bV×Nat)))/\e.1.p=d:=by
  by_cases hk:c.kind=2/\c.parent≠kX;rw[ag hk];simp;rw[af hk];refine⟨λq=>?_,λ⟨e,he,_⟩=>by cases he⟩;by_cases q2:c.kind=2;exact absurd q (hr _ (fA.1 λq3=>hk ⟨q2,q3⟩));have hf:c.parent=aS:=by
   have :c.kind=1\/c.kind=3\/c.kind=4\/c.kind=5\/c.kind=6\/c.kind=7:=oO
   rcases this with q|q|q|q|q|q;rw[BE c q]at e3;exact e3;rw[Ng c q]at e3;exact e3;rw[IC c q]at e3;exact e3;rw[Nh c q]at e3;exact e3;rw[Ni c q]at e3;exact e3;rw[EL c q]at e3;exact e3
  exact absurd q (hz _ hf)
 have aiz:(c.cS.p=d\/c.cZ.p=d)↔∃e,e∈(if fS c.kind=true then[(c.cS,185),(c.cZ,185)]else([]:List (bV×Nat)))/\e.1.p=d:=by
  by_cases hk:fS c.kind=true;rw[ag hk];constructor;rintro(q|q);exact⟨(c.cS,185),by simp,q⟩;exact⟨(c.cZ,185),by simp,q⟩;rintro⟨e,he,q⟩;simp only[aK,gy,or_false]at he;rcases he with rfl|rfl;exact .inl q;exact .inr q;rw[af hk];have h56:¬c.kind=5/\¬c.kind=6:=by constructor<;>intro q<;>exact hk (by simp[fS,q])
  have hf:c.cS=aS/\c.cZ=aS:=by
   have :c.kind=1\/c.kind=2\/c.kind=3\/c.kind=4\/c.kind=7:=oO
   rcases this with q|q|q|q|q;rw[BE c q]at e7 e8;exact⟨e7,e8⟩;rw[Nf c q]at e7 e8;exact⟨e7,e8⟩;rw[Ng c q]at e7 e8;exact⟨e7,e8⟩;rw[IC c q]at e7 e8;exact⟨e7,e8⟩;rw[EL c q]at e7 e8;exact⟨e7,e8⟩
  exact⟨λq=>q.elim (λq=>absurd q (hz _ hf.1)) (λq=>absurd q (hz _ hf.2)),λ⟨e,he,_⟩=>by cases he⟩
 rw[<-aaW,<-hpar,<-aiz];constructor;rintro(q|q|q|q|q);exact .inl q;exact .inr (.inl q);exact .inr (.inr (.inl (.inl q)));exact .inr (.inr (.inl (.inr q)));exact .inr (.inr (.inr q));rintro(q|q|(q|q)|q);exact .inl q;exact .inr (.inl q);exact .inr (.inr (.inl q));exact .inr (.inr (.inr (.inl q)));exact .inr (.inr (.inr (.inr q)))
theorem An {d:Dg}:∀{l:List bV}{acc:List Dg},d∈l.foldl xb acc↔d∈acc\/(d≠aV/\∃x,x∈l/\x.p=d)
 |[],acc=>by simp
 |x::l,acc=>by have ih:=An (d:=d) (l:=l) (acc:=xb acc x);rw[fI,ih];unfold xb;by_cases hx:x.p=aV;rw[ag hx];constructor;rintro(h|⟨h,y,hy,e⟩);exact .inl h;exact .inr ⟨h,y,cR _ hy,e⟩;rintro(h|⟨h,y,hy,e⟩);exact .inl h;rcases aK.1 hy with rfl|hy;exact absurd (e.symm.trans hx) h;exact .inr ⟨h,y,hy,e⟩;rw[af hx,Jh];constructor;rintro((rfl|h)|⟨h,y,hy,e⟩);exact .inr ⟨hx,x,by simp,rfl⟩;exact .inl h;exact .inr ⟨h,y,cR _ hy,e⟩;rintro(h|⟨h,y,hy,e⟩);exact .inl (.inr h);rcases aK.1 hy with rfl|hy;exact .inl (.inl e.symm);exact .inr ⟨h,y,hy,e⟩
theorem DO {p:gr}(h:xw p):dB (AZ (BN p))=bI p:=by
 refine QF (ER (Te _)) (LI p) λd=>?_;rw[Ak,Xb];unfold bI BN;rw[af (λg=>g h.ok),aZ,An,WZ];have he:=h.UP.each;have hc:(∃c,c∈p.changes/\d∈DI c)↔d≠aV/\∃x,x∈p.changes.flatMap refsOf/\x.p=d:=by
  constructor;rintro⟨c,hc,hd⟩;unfold DI at hd;obtain⟨h1,h2⟩:=jl.1 hd;obtain⟨e,h3,h4⟩:=aC.1 h1;have hz:d≠aV:=by simpa using h2
  obtain⟨x,h5,h6⟩:=(QO (he c hc) hz).2 ⟨e,h3,h4⟩;exact⟨hz,x,gC.2 ⟨c,hc,h5⟩,h6⟩;rintro⟨hz,x,hx,hp⟩;obtain⟨c,hc,hx⟩:=gC.1 hx;obtain⟨e,h3,h4⟩:=(QO (he c hc) hz).1 ⟨x,hx,hp⟩;refine⟨c,hc,?_⟩;unfold DI;exact jl.2 ⟨aC.2 ⟨e,h3,h4⟩,by simpa using hz⟩
 rw[gC,<-hc];simp
theorem find_congr {α:Type}{f g:α->Bool}:∀{l:List α},(∀x,x∈l->f x=g x)->l.find? f=l.find? g|[],_=>rfl|x::l,h=>by rw[kO,kO,h x (by simp),find_congr λy hy=>h y (cR _ hy)]
theorem abg {N:gr->List Dg}{x:cL}(h:N x.pat=bI x.pat)(out:List Dg):DL N out x=qI out x:=by unfold DL qI kH;rw[h];congr 1;rw[om];simp
theorem Va {N:gr->List Dg}{s:List cL}(h:∀x,x∈s->N x.pat=bI x.pat):∀(n:Nat)(out:List Dg),Gv N s n out=ue s n out
 |0,_=>rfl
 |n+1,out=>by
  unfold Gv ue;rw[find_congr λx hx=>abg (h x hx) out];cases s.find? (qI out)with
  |none=>rfl
  |some x=>exact Va h n _
theorem Tr {N:gr->List Dg}{s:List cL}(h:∀x,x∈s->N x.pat=bI x.pat)(hA:lu s):Gv N s s.length []=gH s:=by rw[Va h,DM hA];rfl
inductive Reach (s:List cL)(p:Dg):Dg->Prop where|self:Reach s p p|step {d e:Dg}:Reach s p d->e∈aiy s d->Reach s p e
theorem LJ {s:List cL}(hA:lu s):∀(n:Nat)(out:List Dg),(∀x,x∈s->x.id∈out->x.id∉bI x.pat)->∀x,x∈s->x.id∈ue s n out->x.id∉bI x.pat
 |0,out,h=>h
 |n+1,out,h=>by
  unfold ue;cases hf:s.find? (qI out)with
  |none=>exact h
  |some y=>refine LJ hA n _ λx hx hm=>?_;rcases aZ.1 hm with hm|hm;exact h x hx hm;have hy:=th hf;have hn:=mG hf;obtain rfl:=Jn hA hx hy (aP.1 hm);unfold qI at hn;simp only[br,dY,decide_eq_false_iff_not,kH,bA,decide_eq_true_eq]at hn;exactλg=>hn.1 (hn.2 _ g)
theorem GV {s:List cL}(h:OkS s){x:cL}(hx:x∈s):x.id∉bI x.pat:=by refine LJ h.uY s.length [] (λy _ hm=>by cases hm) x hx ?_;rw[DM h.uY];exact(rB h x.id).2 (aC.2 ⟨x,hx,rfl⟩)
theorem LK:∀(l:List dn)(own:List cq),Nz own->(iF l own).2=0->Nz (iF l own).1|[],own,h,_=>h|c::l,own,hn,h=>by rw[jM]at h⊢;by_cases h1:cO c≠0;rw[ag h1]at h;exact absurd h h1;rw[af h1]at h⊢;by_cases h2:me c own≠0;rw[ag h2]at h;exact absurd h h2;rw[af h2]at h⊢;exact LK l _ (Qy hn c) h
theorem Jo {p:gr}(h:xw p):Nz (dM p).1:=by rw[h.UP.all];refine LK _ _ (λn hn=>absurd hn (jm _)) ?_;rw[<-h.UP.all];exact h.Yt
theorem EX:∀{l:List bV},ye l=true->Jg l|[],_=>List.Pairwise.nil|[_],_=>List.pairwise_singleton _ _|a::b::r,h=>by rw[ye,br,decide_eq_true_eq]at h;have ih:=EX h.2;refine dF.2 ⟨λx hx=>?_,ih⟩;rcases aK.1 hx with rfl|hx;exact h.1;exact rq h.1 ((dF.1 ih).1 x hx)
theorem Jp {c:dn}(h:cO c=0)(h5:c.kind≠5):ye c.over=true:=by
 unfold cO at h;by_cases h1:c.kind<1\/7<c.kind;rw[ag h1]at h;exact absurd h dD;rw[af h1]at h;by_cases h2:bB (eC c)=false;rw[ag h2]at h;exact absurd h dD;rw[af h2]at h;by_cases h3:c.kind=1/\(c.type<1\/4<c.type);rw[ag h3]at h;exact absurd h dD;rw[af h3]at h;by_cases h4:c.kind=2/\iz c.name=false;rw[ag h4]at h;exact absurd h dD;rw[af h4]at h;by_cases h6:c.kind=3/\(c.mode<0\/511<c.mode);rw[ag h6]at h;exact absurd h dD;rw[af h6]at h;by_cases h7:65536<c.data.length;rw[ag h7]at h;exact absurd h dD;rw[af h7,af h5]at h;by_cases h8:c.kind=7/\c.over.length=0;rw[ag h8]at h;exact absurd h dD;rw[af h8]at h;by_cases h9:400<c.over.length;rw[ag h9]at h;exact absurd h dD;rw[af h9]at h;cases ha:ye c.over with
 |true=>rfl
 |false=>rw[ha,ag rfl]at h;exact absurd h dD
theorem QS {c:dn}(h:cO c=0)(f:Nat):∀a,a∈dw c f->a.over=[]\/(a.over=c.over/\c.kind≠5):=by
 intro a ha;unfold dw at ha;by_cases e:c.kind=5;rw[ag e]at ha;rcases aZ.1 ha with ha|ha;obtain⟨i,-,rfl⟩:=aC.1 ha;exact .inl rfl;obtain⟨i,-,rfl⟩:=aC.1 ha;exact .inl rfl;rw[af e]at ha;obtain rfl:=aP.1 ha;unfold kG;repeat' split
 all_goals first|exact .inr ⟨rfl,e⟩|exact .inl rfl
theorem LL:∀(l:List dn)(own:List cq),(iF l own).2=0->∀a,a∈(iF l own).1->a∈own\/a.over=[]\/∃c,c∈l/\a.over=c.over/\ye c.over=true|[],own,_,a,ha=>.inl ha|c::l,own,h,a,ha=>by rw[jM]at h ha;by_cases h1:cO c≠0;rw[ag h1]at h;exact absurd h h1;rw[af h1]at h ha;by_cases h2:me c own≠0;rw[ag h2]at h;exact absurd h h2;rw[af h2]at h ha;have h1:cO c=0:=fA.1 h1;rcases LL l _ h a ha with q|q|⟨c',hc',q⟩;rcases aZ.1 q with q|q;exact .inl q;rcases QS h1 _ a q with q|⟨q,h5⟩;exact .inr (.inl q);exact .inr (.inr ⟨c,by simp,q,Jp h1 h5⟩);exact .inr (.inl q);exact .inr (.inr ⟨c',cR _ hc',q⟩)
theorem LM {α β:Type}{f:α->β}:∀{l:List α},l.Nodup->(∀x y,x∈l->y∈l->f x=f y->x=y)->(l.map f).Nodup|[],_,_=>xD|x::l,h,hi=>by rw[mC]at h;rw[bR,mC];refine⟨λhm=>?_,LM h.2 λa b ha hb=>hi a b (cR _ ha) (cR _ hb)⟩;obtain⟨y,hy,e⟩:=aC.1 hm;have :=hi y x (cR _ hy) (by simp) e;subst this;exact h.1 hy
theorem Ts {p:gr}(h:xw p){d:Dg}(hd:d∉bI p):∀a,a∈(dM p).1->(a.over.map λx=>bl x d).Nodup:=by
 intro a ha;have hz:(iF p.changes []).2=0:=by rw[<-h.UP.all];exact h.Yt
 rw[h.UP.all]at ha;rcases LL _ _ hz a ha with q|q|⟨c,hc,q,ael⟩;cases q;rw[q];exact xD;rw[q];have hn:∀x,x∈c.over->x.p≠aV->x.p∈bI p:=λx hx hp=>by unfold bI;rw[af (λg=>g h.ok)];exact An.2 (.inr ⟨hp,x,gC.2 ⟨c,hc,by unfold refsOf;exact aZ.2 (.inr hx)⟩,rfl⟩)
 refine LM ((EX ael).imp λ{a b} h e=>by subst e;exact zC a h) λx y hx hy e=>?_;have mixed:∀x y:bV,x∈c.over->¬(x.p=aV/\0<=x.n)->0<=y.n->x≠⟨d,y.n⟩:=λx y hx h1 h2 e=>by
  have hp:x.p=d:=by rw[e]
  have hnn:x.n=y.n:=by rw[e]
  have :x.p≠aV:=λg=>h1 ⟨g,by rw[hnn];exact h2⟩;exact hd (hp▸hn x hx this)
 unfold bl at e;by_cases h1:x.p=aV/\0<=x.n;rw[ag h1]at e;by_cases h2:y.p=aV/\0<=y.n;rw[ag h2]at e;injection e with _ e;cases x;cases y;simp_all;rw[af h2]at e;exact absurd e.symm (mixed y x hy h2 h1.2);rw[af h1]at e;by_cases h2:y.p=aV/\0<=y.n;rw[ag h2]at e;exact absurd e (mixed x y hx h1 h2.2);rw[af h2]at e;exact e
structure vk (s:List cL):Prop where
 fit:Nn s
 ok:OkS s
 q:∀x,x∈s->xw x.pat
theorem vk.nodup {s:List cL}(h:vk s):(s.map λx=>x.id).Nodup:=NN h.ok.uY
theorem vk.idE {s:List cL}(h:vk s){x:cL}(hx:x∈s):lV x.pat=(x.id,0):=h.ok.id x hx
theorem vk.abh {s:List cL}(h:vk s){x:cL}(hx:x∈s):(bI x.pat).length<=s.length:=abf (LI _) (h.ok.jU x hx)
theorem aen {s:List cL}(h:vk s):NM bI s:=λx hx=>by have :=uS (h.q x hx);rwa[DO (h.q x hx)]at this
theorem Xh {s:List cL}(h:vk s):aq C 77 [.sl (eS s)] (λr=>r=.val (.sl (jW (gH s)))):=by have hl:=h.ok.few;have :=QN bI s (aen h) h.nodup oO (λx hx=>by have :=h.abh hx;omega);rwa[Tr (λ_ _=>rfl) h.ok.uY]at this
def jE (p:gr):List cq:=(lK p).1
theorem zF {p:gr}(h:xw p):jE p=(dM p).1.map (fO (lV p).1):=by unfold jE lK;rw[af (show¬(lV p).2≠0 by rw[Tc h.ok];simp)]
theorem aeo {s:List cL}(h:vk s):aem jE s:=λx hx=>by
 have hd:(lV x.pat).1∉bI x.pat:=by rw[h.idE hx];exact GV h.ok hx
 rw[zF (h.q x hx)];exact Tl (h.q x hx) (Ts (h.q x hx) hd) (Jo (h.q x hx))
theorem QT (d:Dg)(a:cq):(fO d a).id=⟨d,a.id.n⟩:=by
 unfold fO UF IJ II st2 st1;repeat' split
 all_goals rfl
theorem NO {α β:Type}{f:α->β}{l:List β}{m:List α}(e:l=m.map f)(n:Nat)(h1:n<l.length)(h2:n<m.length):l[n]=f m[n]:=by subst e;exact qm _
theorem Vb {s:List cL}(h:vk s){x:cL}(hx:x∈s)(n:Nat)(hn:n<(jE x.pat).length):n<(dM x.pat).1.length:=by have e:=zF (h.q x hx);rw[e,ah]at hn;exact hn
theorem aep {s:List cL}(h:vk s){x:cL}(hx:x∈s)(n:Nat)(a b:cq)(h1:a=fO (lV x.pat).1 b)(h2:b.id=⟨aV,(n:Int)⟩):a.id=⟨x.id,(n:Int)⟩:=by have h3:=h.idE hx;rw[h1,QT,h2,h3]
theorem BR {s:List cL}(h:vk s){x:cL}(hx:x∈s)(n:Nat)(hn:n<(jE x.pat).length):(jE x.pat)[n].id=⟨x.id,(n:Int)⟩:=aep h hx n _ _ (NO (zF (h.q x hx)) n hn (Vb h hx n hn)) (Jo (h.q x hx) n (Vb h hx n hn))
theorem Xi {d:Dg}{i j:Int}(h:i<j):gV ⟨d,i⟩ ⟨d,j⟩<0:=by unfold gV;rw[rj,af dD,ag h];decide
theorem Xj {x y:bV}(h:ee x.p y.p<0):gV x y<0:=by unfold gV;rw[ag oO];exact h
structure LN where
 id:Dg
 jU:List Dg deriving DecidableEq,Inhabited
structure vO where
 pats:List LN
 atoms:List cq deriving DecidableEq,Inhabited
def mM (k:LN):List AV:=cD k.id++[.sl (jW k.jU)]
def ov (x:vO):List AV:=[.sl (x.pats.map mM),.sl (iu x.atoms)]
def jV:vO:=⟨[],[]⟩
def leK (a b:LN):Bool:=decide (ee a.id b.id<=0)
def leA (a b:cq):Bool:=decide (gV a.id b.id<=0)
def Jq (x:vO)(d:Dg)(n:List Dg)(l:List cq):vO:=⟨x.pats.merge [⟨d,n⟩] leK,x.atoms.merge l leA⟩
def jy (x:vO)(p:cL):vO:=Jq x p.id (bI p.pat) (jE p.pat)
def abi (s:List cL):vO:=s.foldl jy jV
theorem zG {α:Type}{le:α->α->Bool}{l:List α}:∀{A B:List α},(∀a,a∈A->∀b,b∈l->le a b=true)->(A++B).merge l le=A++B.merge l le
 |[],B,_=>rfl
 |a::A,B,h=>by
  have ih:=zG (l:=l) (A:=A) (B:=B) λx hx=>h x (.tail _ hx);cases l with
  |nil=>simp
  |cons b l=>rw[dm,dm,DP,ag (h a (.head _) b (.head _)),ih]
theorem BS {α:Type}{le:α->α->Bool}{B:List α}:∀{l:List α},(∀a,a∈B->∀b,b∈l->le a b=false)->B.merge l le=l++B
 |[],_=>by simp
 |b::l,h=>by
  have ih:=BS (B:=B) (l:=l) λx hx y hy=>h x hx y (.tail _ hy);cases B with
  |nil=>simp
  |cons a B=>rw[DP,af (by rw[h a (.head _) b (.head _)];decide),ih];rfl
def Tt (x:cL):LN:=⟨x.id,bI x.pat⟩
def lR (s:List cL):vO:=⟨s.map Tt,s.flatMap λx=>jE x.pat⟩
theorem LO {a b:bV}(h:ee a.p b.p<0):gV a b<0:=by unfold gV;rw[ag (show ee a.p b.p≠0 by omega)];exact h
theorem aes {a b:Dg}(h:a≠b)(h2:¬ee a b<0):ee b a<0:=by have :=lN a b;have h3:ee a b≠0:=λe=>h (kf e);omega
def aet (s:List cL):Prop:=∀x,x∈s->∀a,a∈jE x.pat->a.id.p=x.id
theorem DQ {x:cL}(hx:∀a,a∈jE x.pat->a.id.p=x.id):∀{s:List cL},lu s->aet s->(∀y,y∈s->y.id≠x.id)->jy (lR s) x=lR (lW s x)
 |[],_,_,_=>by simp[jy,Jq,lR,lW,Tt]
 |y::s,hA,ho,hn=>by
  have hA':=dF.1 hA;have ih:=DQ hx (s:=s) hA'.2 (λz hz=>ho z (.tail _ hz)) (λz hz=>hn z (.tail _ hz));have hp:=bg vO.pats ih;have ha:=bg vO.atoms ih;simp only[jy,Jq,lR]at hp ha;unfold lW;by_cases h:ee y.id x.id<0;rw[ag h];simp only[jy,Jq,lR,bR,ow,vO.mk.injEq];refine⟨?_,?_⟩;have :=zG (le:=leK) (l:=[⟨x.id,bI x.pat⟩]) (A:=[Tt y]) (B:=s.map Tt) (λa q b r=>by rw[aP.1 q,aP.1 r];exact an (show ee y.id x.id<=0 by omega));rw[hp]at this;exact this;rw[zG (le:=leA) (λa q b r=>by have :=LO (a:=a.id) (b:=b.id) (by rw[ho y (.head _) a q,hx b r];exact h);exact an (show gV a.id b.id<=0 by omega)),ha];rw[af h];have hlt:∀z,z∈y::s->ee x.id z.id<0:=λz hz=>by have h1:=aes (hn y (.head _)) h;rcases aK.1 hz with rfl|hz;exact h1;exact ij h1 (hA'.1 z hz)
  have e1:=BS (le:=leK) (l:=[⟨x.id,bI x.pat⟩]) (B:=(y::s).map Tt) (λa q b r=>by obtain⟨z,hz,rfl⟩:=aC.1 q;rw[aP.1 r];have :=hlt z hz;have :=lN x.id z.id;exact ak (show¬ee z.id x.id<=0 by omega));have e2:=BS (le:=leA) (l:=jE x.pat) (B:=(y::s).flatMap λz=>jE z.pat) (λa q b r=>by obtain⟨z,hz,q⟩:=gC.1 q;have :=LO (a:=b.id) (b:=a.id) (by rw[ho z hz a q,hx b r];exact hlt z hz);have :=pO a.id b.id;exact ak (show¬gV a.id b.id<=0 by omega));unfold jy Jq;simp only[lR];rw[e1,e2];rfl
theorem QU:∀(l t:List cL),lu (t++l)->aet (t++l)->l.foldl jy (lR t)=lR (t++l)
 |[],t,_,_=>by rw[aW];rfl
 |x::l,t,hA,ho=>by
  have hlt:∀y,y∈t->ee y.id x.id<0:=λy hy=>(List.pairwise_append.1 hA).2.2 y hy x (.head _);have h1:jy (lR t) x=lR (t++[x]):=by rw[DQ (ho x (by simp)) (List.pairwise_append.1 hA).1 (λy hy=>ho y (by simp[hy])) (λy hy e=>by have :=hlt y hy;rw[e]at this;exact gP _ this)];have :=Qi t [] x hlt;rw[aW]at this;rw[this];rfl
  rw[fI,h1,QU l (t++[x]) (by simpa using hA) (by simpa using ho)];simp
theorem Ao {s:List cL}(hA:lu s)(ho:aet s):abi s=lR s:=QU s [] hA ho
theorem aeu {p:gr}(h:xw p):∀a,a∈jE p->a.id.p=(lV p).1:=λa ha=>by rw[zF h]at ha;obtain⟨b,-,rfl⟩:=aC.1 ha;rw[QT]
theorem tj {s:List cL}(h:vk s):aet s:=λx hx a ha=>by rw[aeu (h.q x hx) a ha,h.idE hx]
def xE (f:bV)(b:cq):Bool:=decide (b.id=f)||gj f b
def iT (k:Int)(f:bV)(b:cq):Bool:=decide (k=7)||(decide (b.kind=k)&&decide (b.file=f))
def uf (a:cq):List (bV×(cq->Bool)):=(if a.kind≠1/\a.kind≠7 then[(a.file,bF a.kind)]else[])++((if a.kind=2/\a.parent≠kX then[(a.parent,lq)]else[])++((if a.kind=6 then[(a.fr,xE a.file),(a.to,xE a.file)]else[])++a.over.map λi=>(i,iT a.kind a.file)))
def zH (x:vO)(i:bV):Option cq:=x.atoms.find? λa=>decide (a.id=i)
def stepG (L:bV->Option cq)(d:Dg)(r:bV×(cq->Bool)):Int:=if r.1.p=d then 0 else match L r.1 with|none=>7|some b=>if r.2 b=true then 0 else 8
def pF (p:gr)(i:Nat):Nat:=((p.changes.take i).map λc=>(dw c 0).length).sum
def DR (p:gr)(d:Dg)(l:List cq)(i:Nat):cq:=let a:=l.getD (pF p i) iA;let c:=p.changes.getD i default;if c.kind=5 then⟨a.id,6,a.file,0,aS,[],0,[],[],bl c.cS d,bl c.cZ d,[]⟩else a
def QV (x:vO)(p:cL):Int:=bz ((List.range p.pat.changes.length).flatMap λi=>(uf (DR p.pat p.id (jE p.pat) i)).map (stepG (zH x) p.id))
def DS (x:vO):List Dg:=x.pats.map λk=>k.id
def EY (x:vO)(p:cL):vO×Int:=if(lV p.pat).2≠0 then(jV,(lV p.pat).2)else if(lV p.pat).1≠p.id then(jV,13)else if p.id∈DS x then(jV,6)else if kH (DS x) (bI p.pat)=false then(jV,19)else if QV x p≠0 then(jV,QV x p)else if 400<=x.pats.length then(jV,4)else(jy x p,0)
def agJ (x:vO×Int):AV:=.eW [.agg (ov x.1),.int .i64 x.2]
theorem KA (k:Int):aq C 190 [.int .i64 k] (λr=>r=.val (.fn (.func 267) [] [.imp [.int .i64 k]])):=by refine ai Tryz.func190 rfl rfl rfl ?_;refine⟨[1],dy (cells:=aG [.int .i64 k]) (ys:=[.int .i64 k]) rfl rfl rfl ?_⟩;exact rfl
theorem Gh (f:bV):aq C 192 [.agg (cI f)] (λr=>r=.val (.fn (.func 268) [] [.imp (cI f)])):=by refine ai Tryz.func192 rfl rfl rfl ?_;refine⟨[1],dy (cells:=aG (cI f)) (ys:=cI f) rfl (bC _) rfl ?_⟩;exact rfl
theorem TH (x:cq)(k:Int):aq C 267 [.agg (cA x),.imp [.int .i64 k]] (λr=>r=.val (.bool (bF k x))):=by
 refine ai Tryz.func267 rfl rfl rfl ?_;unfold bF fS;refine cu (λh=>?_) (λh=>?_);have h:¬x.kind=1:=h;rw[ak h];exact rfl;have h:x.kind=1:=h;rw[an h,iI];refine aB (λh5=>?_) (λh5=>?_);have h5:k=5:=h5;subst h5;refine aB (λh1=>?_) (λh1=>?_);have h1:x.type=1:=h1;simp only[h1];exact rfl;have h1:¬x.type=1:=h1;simp only[h1];exact rfl;have h5:¬k=5:=h5;refine aB (λh6=>?_) (λh6=>?_);have h6:k=6:=h6;subst h6;refine aB (λh1=>?_) (λh1=>?_);have h1:x.type=1:=h1;simp only[h1];exact rfl;have h1:¬x.type=1:=h1;simp only[h1];exact rfl;have h6:¬k=6:=h6;have e56:(decide (k=5)||decide (k=6))=false:=by simp[h5,h6]
 rw[e56,af (show¬false=true by decide)];refine aB (λh4=>?_) (λh4=>?_);have h4:k=4:=h4;subst h4;refine⟨none,?_⟩;refine aB (λh2=>?_) (λh2=>?_);have h2:x.type=2:=h2;simp only[h2];exact rfl;have h2:¬x.type=2:=h2;refine aB (λh3=>?_) (λh3=>?_);have h3:x.type=3:=h3;simp only[h3];exact rfl;have h3:¬x.type=3:=h3;simp only[h2,h3];exact rfl;have h4:¬k=4:=h4;have :decide (k≠4)=true:=an h4;rw[this];exact rfl
theorem Xw (x:cq):aq C 191 [.agg (cA x)] (λr=>r=.val (.bool (lq x))):=by refine ai Tryz.func191 rfl rfl rfl ?_;unfold lq;refine⟨none,?_⟩;refine aB (λh=>?_) (λh=>?_);have h:x.kind=1:=h;rw[an h];refine aB (λh4=>?_) (λh4=>?_);have h4:x.type=4:=h4;rw[an h4];exact rfl;have h4:¬x.type=4:=h4;rw[ak h4];exact rfl;have h:¬x.kind=1:=h;rw[ak h];exact rfl
theorem Ma (x:cq)(f:bV):aq C 268 [.agg (cA x),.imp (cI f)] (λr=>r=.val (.bool (xE f x))):=by refine ai Tryz.func268 rfl rfl rfl ?_;unfold xE gj;refine⟨none,?_⟩;refine qT ?_;refine jC (a:=x.id) (b:=f) ?_;by_cases h:x.id=f;rw[an h];exact rfl;rw[ak h];refine aB (λh5=>?_) (λh5=>?_);have h5:x.kind=5:=h5;rw[an h5];refine qT ?_;refine jC (a:=x.file) (b:=f) ?_;by_cases h2:x.file=f;rw[an h2];exact rfl;rw[ak h2];exact rfl;have h5:¬x.kind=5:=h5;rw[ak h5];exact rfl
theorem Xx (x:cq):aq C 269 [.agg (cA x)] (λr=>r=.val (.bool true)):=by refine ai Tryz.func269 rfl rfl rfl ?_;exact rfl
theorem TI (x:cq)(k:Int)(f:bV):aq C 270 [.agg (cA x),.imp [.int .i64 k],.imp (cI f)] (λr=>r=.val (.bool (decide (x.kind=k)&&decide (x.file=f)))):=by refine ai Tryz.func270 rfl rfl rfl ?_;refine⟨none,?_⟩;refine aB (λh=>?_) (λh=>?_);have h:x.kind=k:=h;rw[an h];refine qT ?_;refine jC (a:=x.file) (b:=f) ?_;by_cases h2:x.file=f;rw[an h2];exact rfl;rw[ak h2];exact rfl;have h:¬x.kind=k:=h;rw[ak h];exact rfl
theorem ve (k:Int)(f:bV):aq C 193 [.int .i64 k,.agg (cI f)] (λr=>r=.val (if k=7 then .fn (.func 269) [] []else .fn (.func 270) [] [.imp [.int .i64 k],.imp (cI f)])):=by refine ai Tryz.func193 rfl rfl rfl ?_;refine aB (λh=>?_) (λh=>?_);have h:k=7:=h;rw[ag h];exact rfl;have h:¬k=7:=h;rw[af h];refine⟨[2,3],dy (cells:=aG [.int .i64 k]) (ys:=[.int .i64 k]) rfl rfl rfl (dy (cells:=aG (cI f)) (ys:=cI f) rfl (bC _) rfl ?_)⟩;exact rfl
structure jr where
 id:bV
 g:Nat
 caps:List AV
 sem:cq->Bool
def tw (r:jr):List AV:=cI r.id++[.fn (.func r.g) [] r.caps]
def jr.OK (r:jr):Prop:=∀x,aq C r.g ([.agg (cA x)]++r.caps) (λq=>q=.val (.bool (r.sem x)))
theorem dO {l:List jr}:∀zs,zs∈l.map tw->zs.length=34:=by intro zs h;obtain⟨x,-,rfl⟩:=aC.1 h;rfl
def iH (k:Int)(f:bV)(i:bV):jr:=if k=7 then⟨i,269,[],iT k f⟩else⟨i,270,[.imp [.int .i64 k],.imp (cI f)],iT k f⟩
def Bb (a:cq):List jr:=(if a.kind≠1/\a.kind≠7 then[⟨a.file,267,[.imp [.int .i64 a.kind]],bF a.kind⟩]else[])++((if a.kind=2/\a.parent≠kX then[⟨a.parent,191,[],lq⟩]else[])++((if a.kind=6 then[⟨a.fr,268,[.imp (cI a.file)],xE a.file⟩,⟨a.to,268,[.imp (cI a.file)],xE a.file⟩]else[])++a.over.map (iH a.kind a.file)))
theorem Xy (a:cq):(Bb a).map (λr=>(r.id,r.sem))=uf a:=by unfold Bb uf;simp only[aD,fL];congr 1;split<;>rfl;congr 1;split<;>rfl;congr 1;split<;>rfl;refine dZ λi _=>?_;show((iH a.kind a.file i).id,(iH a.kind a.file i).sem)=_;unfold iH;split<;>rfl
theorem abH (a:cq):∀r,r∈Bb a->r.OK:=by
 intro r hr;unfold Bb at hr;simp only[aZ]at hr;rcases hr with hr|hr|hr|hr;split at hr;rw[aP.1 hr];exactλx=>TH x _;cases hr;split at hr;rw[aP.1 hr];exactλx=>Xw x;cases hr;split at hr;rcases aK.1 hr with rfl|hr;exactλx=>Ma x _;rw[aP.1 hr];exactλx=>Ma x _;cases hr;obtain⟨i,-,rfl⟩:=aC.1 hr;unfold iH;by_cases h:a.kind=7;rw[ag h];intro x;have :iT a.kind a.file x=true:=by unfold iT;rw[an h];rfl
 show aq C 269 [.agg (cA x)] (λq=>q=.val (.bool (iT a.kind a.file x)));rw[this];exact Xx x;rw[af h];intro x;have :iT a.kind a.file x=(decide (x.kind=a.kind)&&decide (x.file=a.file)):=by unfold iT;rw[ak h];rfl
 show aq C 270 [.agg (cA x),.imp [.int .i64 a.kind],.imp (cI a.file)] (λq=>q=.val (.bool (iT a.kind a.file x)));rw[this];exact TI x _ _
theorem TP (k:Int)(x:cq):aq C 215 [.int .i64 k,.agg (cA x)] (λr=>r=.val (.bool (bF k x))):=by
 refine ai Tryz.func215 rfl rfl rfl ?_;unfold bF fS;refine cu (λh=>?_) (λh=>?_);have h:¬x.kind=1:=h;rw[ak h];exact rfl;have h:x.kind=1:=h;rw[an h,iI];refine aB (λh5=>?_) (λh5=>?_);have h5:k=5:=h5;subst h5;refine aB (λh1=>?_) (λh1=>?_);have h1:x.type=1:=h1;simp only[h1];exact rfl;have h1:¬x.type=1:=h1;simp only[h1];exact rfl;have h5:¬k=5:=h5;refine aB (λh6=>?_) (λh6=>?_);have h6:k=6:=h6;subst h6;refine aB (λh1=>?_) (λh1=>?_);have h1:x.type=1:=h1;simp only[h1];exact rfl;have h1:¬x.type=1:=h1;simp only[h1];exact rfl;have h6:¬k=6:=h6;have e56:(decide (k=5)||decide (k=6))=false:=by simp[h5,h6]
 rw[e56,af (show¬false=true by decide)];refine aB (λh4=>?_) (λh4=>?_);have h4:k=4:=h4;subst h4;refine⟨none,?_⟩;refine aB (λh2=>?_) (λh2=>?_);have h2:x.type=2:=h2;simp only[h2];exact rfl;have h2:¬x.type=2:=h2;refine aB (λh3=>?_) (λh3=>?_);have h3:x.type=3:=h3;simp only[h3];exact rfl;have h3:¬x.type=3:=h3;simp only[h2,h3];exact rfl;have h4:¬k=4:=h4;have :decide (k≠4)=true:=an h4;rw[this];exact rfl
theorem TQ (x:cq)(c:dn):aq C 214 [.agg (cA x),.imp (cC c)] (λr=>r=.val (.bool (bF c.kind x))):=by refine ai Tryz.func214 rfl rfl rfl ?_;refine cl (TP c.kind x) ?_;exact rfl
theorem XD (x:cq):aq C 216 [.agg (cA x)] (λr=>r=.val (.bool (lq x))):=by refine ai Tryz.func216 rfl rfl rfl ?_;unfold lq;refine⟨none,?_⟩;refine aB (λh=>?_) (λh=>?_);have h:x.kind=1:=h;rw[an h];refine aB (λh4=>?_) (λh4=>?_);have h4:x.type=4:=h4;rw[an h4];exact rfl;have h4:¬x.type=4:=h4;rw[ak h4];exact rfl;have h:¬x.kind=1:=h;rw[ak h];exact rfl
theorem Md (x:cq)(i:bV)(c:dn)(f:bV):aq C 217 [.agg (cA x),.imp (cI i),.imp (cC c),.imp (cI f)] (λr=>r=.val (.bool (decide (i=c.file)||gj f x))):=by refine ai Tryz.func217 rfl rfl rfl ?_;unfold gj;refine⟨none,?_⟩;refine qT ?_;refine jC (a:=i) (b:=c.file) ?_;by_cases h:i=c.file;rw[an h];exact rfl;rw[ak h];refine aB (λh5=>?_) (λh5=>?_);have h5:x.kind=5:=h5;rw[an h5];refine qT ?_;refine jC (a:=x.file) (b:=f) ?_;by_cases h2:x.file=f;rw[an h2];exact rfl;rw[ak h2];exact rfl;have h5:¬x.kind=5:=h5;rw[ak h5];exact rfl
def sv (k:Int):Int:=if k=2 then 2 else if k=3 then 3 else if k=4 then 4 else if k=6 then 6 else 0
theorem As (k:Int):aq C 218 [.int .i64 k] (λr=>r=.val (.int .i64 (sv k))):=by refine ai Tryz.func218 rfl rfl rfl ?_;unfold sv;refine aB (λh=>?_) (λh=>?_);rw[ag (show k=2 from h)];exact rfl;rw[af (show¬k=2 from h)];refine aB (λh=>?_) (λh=>?_);rw[ag (show k=3 from h)];exact rfl;rw[af (show¬k=3 from h)];refine aB (λh=>?_) (λh=>?_);rw[ag (show k=4 from h)];exact rfl;rw[af (show¬k=4 from h)];refine aB (λh=>?_) (λh=>?_);rw[ag (show k=6 from h)];exact rfl;rw[af (show¬k=6 from h)];exact rfl
theorem TR (x:cq)(k:Int)(f:bV):aq C 219 [.agg (cA x),.imp [.int .i64 k],.imp (cI f)] (λr=>r=.val (.bool (decide (k=0)||(decide (x.kind=k)&&decide (x.file=f))))):=by refine ai Tryz.func219 rfl rfl rfl ?_;refine⟨none,?_⟩;refine aB (λh=>?_) (λh=>?_);have h:k=0:=h;rw[an h];exact rfl;have h:¬k=0:=h;rw[ak h];refine aB (λh5=>?_) (λh5=>?_);have h5:x.kind=k:=h5;rw[an h5];refine qT ?_;refine jC (a:=x.file) (b:=f) ?_;by_cases h2:x.file=f;rw[an h2];exact rfl;rw[ak h2];exact rfl;have h5:¬x.kind=k:=h5;rw[ak h5];exact rfl
def gR {α:Type}(f:α->List AV)(l:List α):List FV:=aG (l.map f).flatten
section
variable {α:Type}{f:α->List AV}{e:Nat}
theorem rE (h:∀x,(f x).length=e)(l:List α):(gR f l).length=l.length*e:=by unfold gR;rw[iR,fR (e:=e) λzs hz=>by obtain⟨x,-,rfl⟩:=aC.1 hz;exact h x];simp
theorem NT (l m:List α):gR f (l++m)=gR f l++gR f m:=by unfold gR;rw[aD,ot,eN,eN,eN,aD]
theorem agS (l:List α)(o:Nat):FV.eD o (gR f l)=gR f l:=iY o _
theorem NU (l m:List α)(o:Nat):FV.eD o (gR f l++aG (m.map f).flatten)=gR f (l++m):=by rw[NT];show FV.eD o (gR f l++gR f m)=_;rw[<-NT];exact agS _ _
end
theorem aeD (x:LN)(y:AV)(h:y∈mM x):y.one=true:=bA.1 (show(mM x).all AV.one=true from rfl) y h
theorem abx (l:List LN):∀ys,ys∈l.map mM->ys.length=33/\∀y,y∈ys->y.one=true:=by intro ys h;obtain⟨x,-,rfl⟩:=aC.1 h;exact⟨rfl,λy hy=>aeD x y hy⟩
theorem pg {l:List LN}:∀ys,ys∈l.map mM->ys.length=33:=λys h=>(abx l ys h).1
theorem Ar {aI:List (Nat×List FV)}{o:Nat}{xs ys:List FV}{v v':FV}(h:Qv.getObj aI o=some (xs++[v]))(e:xs++[v']=ys)(hw:bh v v'):∃zs,Qv.getObj aI o=some zs/\zs.length=ys.length/\∀(i:Nat)(x y:FV),zs[i]?=some x->ys[i]?=some y->bh x y:=by
 subst e;refine⟨_,h,by simp,λi x y h1 h2=>?_⟩;by_cases hi:i<xs.length;rw[cG hi]at h1 h2;rw[h1]at h2;obtain rfl:=au h2;exact bh.refl _;rw[dH oO]at h1 h2;cases hj:i-xs.length with
 |zero=>rw[hj]at h1 h2;cases h1;cases h2;exact hw
 |succ n=>rw[hj]at h1;cases h1
theorem zK {aI:List (Nat×List FV)}{o:Nat}{v1 v2 w1 w2:FV}(h:Qv.getObj aI o=some [v1,v2])(h1:bh v1 w1)(h2:bh v2 w2):∃zs,Qv.getObj aI o=some zs/\zs.length=[w1,w2].length/\∀(i:Nat)(x y:FV),zs[i]?=some x->[w1,w2][i]?=some y->bh x y:=by
 refine⟨_,h,rfl,λi x y a b=>?_⟩;match i with
  |0=>cases a;cases b;exact h1
  |1=>cases a;cases b;exact h2
  |n+2=>cases a
theorem kP {s:List cL}{x y:cL}:y∈lW s x↔y=x\/y∈s:=by
 induction s with
 |nil=>simp[lW]
 |cons z l ih=>unfold lW;split;simp only[aK,ih];constructor;rintro(g|g|g);exact .inr (.inl g);exact .inl g;exact .inr (.inr g);rintro(g|g|g);exact .inr (.inl g);exact .inl g;exact .inr (.inr g);simp only[aK]
theorem DU (x:cL):∀s:List cL,(lW s x).length=s.length+1|[]=>rfl|y::l=>by unfold lW;split;rw[aR,DU x l,aR];rfl
theorem DV {x:cL}:∀{s:List cL},lu s->(∀y,y∈s->y.id≠x.id)->lu (lW s x)
 |[],_,_=>List.pairwise_singleton _ _
 |y::l,h,hn=>by
  have h1:=dF.1 h;unfold lW;by_cases e:ee y.id x.id<0;rw[ag e];refine dF.2 ⟨λz hz=>?_,DV h1.2 λz hz=>hn z (cR _ hz)⟩;rcases kP.1 hz with rfl|hz;exact e;exact h1.1 z hz;rw[af e];have hxy:ee x.id y.id<0:=by have h2:=lN y.id x.id;have h3:ee y.id x.id≠0:=λg=>hn y (by simp) (kf g);omega
  refine dF.2 ⟨λz hz=>?_,h⟩;rcases aK.1 hz with rfl|hz;exact hxy;exact ij hxy (h1.1 z hz)
theorem DW {s:List cL}{x:cL}{d:Dg}:d∈dN (lW s x)↔d=x.id\/d∈dN s:=by unfold dN;simp only[aC,kP];constructor;rintro⟨y,rfl|hy,rfl⟩;exact .inl rfl;exact .inr ⟨y,hy,rfl⟩;rintro(rfl|⟨y,hy,rfl⟩);exact⟨x,.inl rfl,rfl⟩;exact⟨y,.inr hy,rfl⟩
theorem abp {s:List cL}{x:cL}(hA:lu s)(hn:x.id∉dN s){d:Dg}(hd:d≠x.id):nk (lW s x) d=nk s d:=by have hA2:lu (lW s x):=DV hA λy hy e=>hn (e▸aC.2 ⟨y,hy,rfl⟩);by_cases h:d∈dN s;obtain⟨y,hy,rfl⟩:=aC.1 h;rw[oT hA hy,oT hA2 (kP.2 (.inr hy))];rw[EW h,EW (λg=>(DW.1 g).elim hd h)]
theorem Xm {s:List cL}{x:cL}(hA:lu s)(hn:x.id∉dN s){i:bV}(hi:i.p≠x.id):gm (lW s x) i=gm s i:=by unfold gm;rw[abp hA hn hi]
theorem vP {p:gr}(h:(oP p).2=0){c:dn}(hc:c∈p.changes){i:bV}(hi:i∈refsOf c)(hz:i.p≠aV):i.p∈bI p:=by unfold bI;rw[af (λg=>g h)];exact An.2 (.inr ⟨hz,i,gC.2 ⟨c,hc,hi⟩,rfl⟩)
theorem aez {s:List cL}{x:cL}(hA:lu s)(hn:x.id∉dN s){p:gr}(hp:(oP p).2=0)(hne:x.id∉bI p){c:dn}(hc:c∈p.changes)(d:Dg):RE (lW s x) c d=RE s c d:=by
 have key:∀i,i∈refsOf c->¬i.p=aV->gm (lW s x) i=gm s i:=λi hi hz=>Xm hA hn λe=>hne (e▸vP hp hc hi hz);have e1:c.file∈refsOf c:=by unfold refsOf;simp
 have e2:c.parent∈refsOf c:=by unfold refsOf;simp
 have e3:c.cS∈refsOf c:=by unfold refsOf;simp
 have e4:c.cZ∈refsOf c:=by unfold refsOf;simp
 have e5:∀i,i∈c.over->i∈refsOf c:=λi hi=>by unfold refsOf;simp[hi]
 have hend:∀i,i∈refsOf c->No (lW s x) i c.file d=No s i c.file d:=λi hi=>by unfold No;by_cases g:i.p=aV\/i=c.file;rw[ag g,ag g];rw[af g,af g,key i hi λq=>g (.inl q)]
 have Du:c.over.map (WE (lW s x) c d)=c.over.map (WE s c d):=dZ λi hi=>by unfold WE;by_cases g:i.p=aV;rw[ag g,ag g];rw[af g,af g,key i (e5 i hi) g]
 have hfi:(if c.file.p=aV then(0:Int)else if(gm (lW s x) c.file).2=false then 7 else if bF c.kind (gm (lW s x) c.file).1=false then 8 else 0)=(if c.file.p=aV then 0 else if(gm s c.file).2=false then 7 else if bF c.kind (gm s c.file).1=false then 8 else 0):=by by_cases g:c.file.p=aV;rw[ag g,ag g];rw[af g,af g,key _ e1 g]
 have hpa:(if c.parent.p=aV then(0:Int)else if(gm (lW s x) c.parent).2=false then 7 else if lq (gm (lW s x) c.parent).1=false then 8 else 0)=(if c.parent.p=aV then 0 else if(gm s c.parent).2=false then 7 else if lq (gm s c.parent).1=false then 8 else 0):=by by_cases g:c.parent.p=aV;rw[ag g,ag g];rw[af g,af g,key _ e2 g]
 unfold RE;rw[hfi,hpa,hend _ e3,hend _ e4,Du]
theorem LS {s:List cL}{x:cL}(hA:lu s)(hn:x.id∉dN s){p:gr}(hp:(oP p).2=0)(hne:x.id∉bI p)(d:Dg):nH (lW s x) p d=nH s p d:=by unfold nH;rw[dZ λc hc=>aez hA hn hp hne hc d]
def Aq (s:List cL)(o:List Dg):Prop:=∀(a b:List Dg)(e:Dg),o=a++e::b->∀y,y∈s->y.id=e->∀q,q∈bI y.pat->q∈a
theorem Gc {s:List cL}{o:List Dg}(h:Aq s o){e:Dg}(he:∀y,y∈s->y.id=e->∀q,q∈bI y.pat->q∈o):Aq s (o++[e]):=by
 intro a b e' hab y hy Vm q hq;rcases List.eq_nil_or_concat b with rfl|⟨b',z,rfl⟩;have h1:=List.append_inj' hab rfl;obtain⟨rfl,h2⟩:=h1;injection h2 with h2 _;subst h2;exact he y hy Vm q hq;have h1:o++[e]=(a++e'::b')++[z]:=by rw[hab];simp
 have h2:=(List.append_inj' h1 rfl).1;exact h a b' e' h2 y hy Vm q hq
theorem Gd {s:List cL}(hA:lu s):∀(n:Nat)(out:List Dg),Aq s out->Aq s (ue s n out)
 |0,out,h=>h
 |n+1,out,h=>by
  unfold ue;cases hf:s.find? (qI out)with
  |none=>exact h
  |some x=>refine Gd hA n _ (Gc h λy hy Vm q hq=>?_);have hx:=th hf;obtain rfl:=Jn hA hy hx Vm;have hn:=mG hf;unfold qI at hn;simp only[br,dY,decide_eq_false_iff_not,kH,bA,decide_eq_true_eq]at hn;exact hn.2 q hq
theorem xH {s:List cL}(hA:lu s):Aq s (gH s):=by unfold gH;rw[<-DM hA];exact Gd hA _ _ λa b e h=>by simp at h
theorem Fe {out:List Dg}{P:Dg->Prop}:∀{o:List Dg}{d:Dg},d∈o->d∉out->P d->∃a e b,o=a++e::b/\e∉out/\P e/\∀q,q∈a->q∈out\/¬P q|x::o,d,hd,hn,hp=>by by_cases hx:x∉out/\P x;exact⟨[],x,o,rfl,hx.1,hx.2,λq hq=>by cases hq⟩;have hdo:d∈o:=(aK.1 hd).resolve_left λe=>hx ⟨e▸hn,e▸hp⟩;obtain⟨a,e,b,h1,h2,h3,h4⟩:=Fe hdo hn hp;refine⟨x::a,e,b,by rw[h1];rfl,h2,h3,λq hq=>?_⟩;rcases aK.1 hq with rfl|hq;by_cases g:q∈out;exact .inl g;exact .inr λgp=>hx ⟨g,gp⟩;exact h4 q hq
theorem Ju {t:List cL}(hA:lu t)(hc:∀x,x∈t->∀d,d∈bI x.pat->d∈dN t){o:List Dg}(ho:Aq t o)(hall:∀d,d∈dN t->d∈o):(gH t).length=t.length:=by
 have go:∀(n:Nat)(out:List Dg),out.Nodup->(∀d,d∈out->d∈dN t)->out.length+n=t.length->(ue t n out).length=t.length:=λn=>by
  induction n with
  |zero=>intro out _ _ h;exact h
  |succ n ih=>
   intro out hn hm hl;have hex:∃d,d∈dN t/\d∉out:=by refine ia λg=>?_;have :∀d,d∈dN t->d∈out:=λd hd=>ia λq=>g ⟨d,hd,q⟩;have :=DN (NN hA) this;unfold dN at this;rw[ah]at this;omega
   obtain⟨d,hd,hdo⟩:=hex;obtain⟨a,e,b,h1,h2,h3,h4⟩:=Fe (P:=λq=>q∈dN t) (hall d hd) hdo hd;obtain⟨y,hy,Vm⟩:=aC.1 h3;have hny:qI out y=true:=by unfold qI;simp only[br,dY,decide_eq_false_iff_not,kH,bA,decide_eq_true_eq];refine⟨by rw[Vm];exact h2,λq hq=>?_⟩;have :=ho a b e h1 y hy Vm q hq;rcases h4 q this with g|g;exact g;exact absurd (hc y hy q hq) g
   unfold ue;cases hf:t.find? (qI out)with
   |none=>rw[xB]at hf;exact absurd hny (hf y hy)
   |some x=>have hx:=th hf;have AQ:=mG hf;unfold qI at AQ;simp only[br,dY,decide_eq_false_iff_not]at AQ;refine ih (out++[x.id]) ?_ (λq hq=>?_) (by rw[ay,ic];omega);rw[kz];refine⟨hn,by simp,λu hu v hv e=>?_⟩;rw[aP.1 hv]at e;exact AQ.1 (e▸hu);rcases aZ.1 hq with hq|hq;exact hm q hq;rw[aP.1 hq];exact aC.2 ⟨x,hx,rfl⟩
 unfold gH;rw[<-DM hA];exact go t.length [] xD (λd h=>by cases h) (by simp)
theorem aeA {s:List cL}(h:OkS s){p:gr}{d:Dg}(hl:s.length<400)(hid:lV p=(d,0))(hp:(oP p).2=0)(hnew:(nk s d).2=false)(hn:kH (dN s) (bI p)=true)(hr:nH s p d=0):OkS (lW s ⟨d,p⟩):=by
 have hdn:d∉dN s:=λg=>by obtain⟨y,hy,rfl⟩:=aC.1 g;rw[oT h.uY hy]at hnew;cases hnew
 have Un:∀q,q∈bI p->q∈dN s:=λq hq=>by unfold kH at hn;simpa using bA.1 hn q hq
 have hA:lu (lW s ⟨d,p⟩):=DV h.uY λy hy e=>hdn (by rw[<-(show y.id=d from e)];exact aC.2 ⟨y,hy,rfl⟩);have hc:∀x,x∈lW s ⟨d,p⟩->∀q,q∈bI x.pat->q∈dN (lW s ⟨d,p⟩):=λx hx q hq=>by rcases kP.1 hx with rfl|hx;exact DW.2 (.inr (Un q hq));exact DW.2 (.inr (h.jU x hx q hq))
 have aiP:∀y,y∈s->(oP y.pat).2=0:=λy hy=>by have :=h.id y hy;unfold lV at this;by_cases g:(oP y.pat).2≠0;rw[ag g]at this;exact absurd (bg Prod.snd this) g;exact fA.1 g
 refine⟨by rw[DU];omega,hA,λx hx=>?_,hc,?_,λx hx=>?_⟩;rcases kP.1 hx with rfl|hx;exact hid;exact h.id x hx;refine Ju hA hc (o:=gH s++[d]) (Gc (λa b e hab y hy Vm q hq=>?_) λy hy Vm q hq=>?_) λq hq=>?_;rcases kP.1 hy with rfl|hy;exfalso;have he:e∈gH s:=by rw[hab];simp
 exact hdn (by rw[show d=e from Vm];exact(rB h e).1 he);exact xH h.uY a b e hab y hy Vm q hq;rcases kP.1 hy with rfl|hy;exact(rB h q).2 (Un q hq);exact absurd (show d∈dN s from by rw[<-(show y.id=d from Vm)];exact aC.2 ⟨y,hy,rfl⟩) hdn;rcases DW.1 hq with rfl|hq;simp;exact jj _ ((rB h q).2 hq);rcases kP.1 hx with rfl|hx;rw[LS h.uY hdn hp (λg=>hdn (Un _ g))];exact hr;rw[LS h.uY hdn (aiP x hx) (λg=>hdn (h.jU x hx _ g))];exact h.refs x hx
theorem Vn {s:List cL}(h:vk s){p:gr}(hf:IS p)(agE:(dM p).1.length<=100000)(h0:(Ko s p).2.2=0):vk (Ko s p).1/\(Ko s p).1=lW s ⟨(lV p).1,p⟩/\(Ko s p).2.1=(lV p).1/\lV p=((Ko s p).2.1,0)/\(lV p).1∉dN s:=by
 unfold Ko at h0⊢;by_cases h1:(lV p).2≠0;rw[ag h1]at h0;exact absurd h0 h1;rw[af h1]at h0⊢;by_cases h2:(nk s (lV p).1).2=true;rw[ag h2]at h0;exfalso;split at h0;exact absurd h0 dD;exact absurd h0 dD;rw[af h2]at h0⊢;by_cases h3:kH (dN s) (bI p)=false;rw[ag h3]at h0;exact absurd h0 dD;rw[af h3]at h0⊢;by_cases h4:nH s p (lV p).1≠0;rw[ag h4]at h0;exact absurd h0 h4;rw[af h4]at h0⊢;by_cases h5:400<=s.length;rw[ag h5]at h0;exact absurd h0 dD;rw[af h5]at h0⊢;have hid:lV p=((lV p).1,0):=Prod.ext rfl (fA.1 h1);have acG:(oP p).2=0:=by have :=hid;unfold lV at this;by_cases g:(oP p).2≠0;exfalso;rw[ag g]at this;exact g (bg Prod.snd this);exact fA.1 g
 have hnew:(nk s (lV p).1).2=false:=by simpa using h2
 have hdn:(lV p).1∉dN s:=λg=>by obtain⟨y,hy,e⟩:=aC.1 g;rw[<-e,oT h.ok.uY hy]at hnew;cases hnew
 have hok:=aeA h.ok (p:=p) (d:=(lV p).1) oO hid acG hnew (by simpa using h3) (fA.1 h4);refine⟨⟨⟨by rw[DU];omega,λx hx=>?_⟩,hok,λx hx=>?_⟩,rfl,rfl,hid,hdn⟩;rcases kP.1 hx with rfl|hx;exact hf;exact h.fit.each x hx;rcases kP.1 hx with rfl|hx;exact⟨hf,acG,agE⟩;exact h.q x hx
def iG (L:bV->Option cq)(i:bV)(f:cq->Bool):Int:=if i.p=aV then 0 else match L i with|none=>7|some b=>if f b=true then 0 else 8
def zI (L:bV->Option cq)(x file:bV)(d:Dg):Int:=if x=file then 0 else iG L x (gj (bl file d))
def chL (L:bV->Option cq)(c:dn)(d:Dg):Int:=bz (iG L c.file (bF c.kind)::iG L c.parent lq::zI L c.cS c.file d::zI L c.cZ c.file d::c.over.map λi=>iG L i (dU c.kind (bl c.file d)))
def kQ (s:List cL)(i:bV):Option cq:=if(gm s i).2=true then some (gm s i).1 else none
theorem Vo (s:List cL)(i:bV)(f:cq->Bool):(if i.p=aV then(0:Int)else if(gm s i).2=false then 7 else if f (gm s i).1=false then 8 else 0)=iG (kQ s) i f:=by
 unfold iG kQ;by_cases h:i.p=aV;rw[ag h,ag h];rw[af h,af h];cases h2:(gm s i).2 with
 |false=>rfl
 |true=>
  rw[af dD,ag rfl];cases h3:f (gm s i).1 with
  |false=>simp[h3]
  |true=>simp[h3]
theorem NR (s:List cL)(c:dn)(d:Dg):RE s c d=chL (kQ s) c d:=by
 have he:∀x,No s x c.file d=zI (kQ s) x c.file d:=λx=>by have :=Vo s x (gj (bl c.file d));unfold No zI;by_cases h:x=c.file;rw[ag (.inr h),ag h];rw[af h,<-this];by_cases h2:x.p=aV;rw[ag (.inl h2),ag h2];rw[af h2,af (λg=>g.elim h2 h)]
 unfold RE chL;rw[he,he,Vo,Vo,aW];congr 5;exact dZ λi _=>Vo s i _
theorem rX {L L':bV->Option cq}{i:bV}(h:i.p≠aV->L i=L' i)(f:cq->Bool):iG L i f=iG L' i f:=by unfold iG;by_cases g:i.p=aV;rw[ag g,ag g];rw[af g,af g,h g]
theorem LU {L L':bV->Option cq}{c:dn}(h:∀i,i∈refsOf c->i.p≠aV->L i=L' i)(d:Dg):chL L c d=chL L' c d:=by
 have e1:c.file∈refsOf c:=by unfold refsOf;simp
 have e2:c.parent∈refsOf c:=by unfold refsOf;simp
 have e3:c.cS∈refsOf c:=by unfold refsOf;simp
 have e4:c.cZ∈refsOf c:=by unfold refsOf;simp
 have e5:∀i,i∈c.over->i∈refsOf c:=λi hi=>by unfold refsOf;simp[hi]
 unfold chL zI;rw[rX (h _ e1),rX (h _ e2),rX (h _ e3),rX (h _ e4)];rw[dZ λi hi=>rX (h _ (e5 i hi)) _]
structure Clean (c:dn):Prop where
 lo:1<=c.kind
 hi:c.kind<=7
 par:c.kind≠2->c.parent=aS
 ends:¬(c.kind=5\/c.kind=6)->c.cS=aS/\c.cZ=aS
 file:c.kind=1\/c.kind=7->c.file=aS
 over:c.kind=1\/c.kind=5->c.over=[]
 uY:Jg c.over
theorem Ra {c:dn}(h:cO c=0):Clean c:=by
 obtain⟨g1,g2,-,-,g5,-⟩:=fu h;have ael:c.kind≠5->Jg c.over:=λh5=>EX (Jp h h5);have h7:c.kind=1\/c.kind=2\/c.kind=3\/c.kind=4\/c.kind=5\/c.kind=6\/c.kind=7:=oO
 cases c with
 |mk kind file type parent name mode data cS cZ lines over=>simp only at h7 ael;rcases h7 with rfl|rfl|rfl|rfl|rfl|rfl|rfl<;>simp[bB,eC]at g5<;>exact⟨g1,g2,by simp_all,by simp_all,by simp_all,by simp_all,by first|exact ael dD|(simp_all)⟩
theorem uZ {α:Type}{P:α->Bool}{g:α->Int}:∀{l:List α},(∀x,x∈l->P x=false->g x=0)->bz (l.map g)=bz ((l.filter P).map g)
 |[],_=>rfl
 |x::l,h=>by
  have ih:=uZ (l:=l) λy hy=>h y (.tail _ hy);cases hp:P x with
  |true=>rw[List.filter_cons_of_pos hp,bR,bR,bz,bz,ih]
  |false=>rw[List.filter_cons_of_neg (by rw[hp];decide),bR,cn (h x (.head _) hp),ih]
theorem pG:∀(a b:List Int),bz (a++b)=if bz a≠0 then bz a else bz b
 |[],b=>by simp[bz]
 |e::a,b=>by rw[dm,bz,bz,pG a b];by_cases h:e=0;simp[h];simp[h]
section
variable {L:bV->Option cq}{d:Dg}
theorem Xn {i:bV}(h:i.p=aV)(hn:0<=i.n)(f:cq->Bool):stepG L d (bl i d,f)=0:=by rw[show bl i d=⟨d,i.n⟩from ag ⟨h,hn⟩];exact ag rfl
theorem Jv {i:bV}(h0:i.p=aV->0<=i.n)(h1:i.p≠aV->i.p≠d)(f:cq->Bool):stepG L d (bl i d,f)=iG L i f:=by by_cases h:i.p=aV;rw[Xn h (h0 h)];exact(ag h).symm;rw[show bl i d=i from af λg=>h g.1];unfold stepG iG;rw[af (h1 h),af h]<;>rfl
theorem Ty {l:List bV}(ha:Jg l)(h0:∀i,i∈l->i.p=aV->0<=i.n)(h1:∀i,i∈l->i.p≠aV->i.p≠d)(f:cq->Bool):bz ((JO d l).map λi=>stepG L d (i,f))=bz (l.map λi=>iG L i f):=by
 have e:(JO d l).filter (λi=>!decide (i.p=d))=l.filter λi=>!decide (i.p=aV):=by refine FY ((LD .nil).filter _) (ha.filter _) λx=>?_;simp only[jl,dY,decide_eq_false_iff_not,JO,LC,aC,gy,or_false];constructor;rintro⟨⟨y,hy,rfl⟩,h⟩;by_cases g:y.p=aV;rw[show bl y d=⟨d,y.n⟩from ag ⟨g,h0 y hy g⟩]at h;exact absurd rfl h;rw[show bl y d=y from af λq=>g q.1];exact⟨hy,g⟩;rintro⟨hx,h⟩;exact⟨⟨x,hx,af λq=>h q.1⟩,h1 x hx h⟩
 rw[uZ (P:=λi=>!decide (i.p=d)) (l:=JO d l) (λi _ hi=>by
  have hi:i.p=d:=by simpa using hi
  exact ag hi),e,uZ (P:=λi=>!decide (i.p=aV)) (l:=l) (λi _ hi=>by
  have hi:i.p=aV:=by simpa using hi
  exact ag hi)];congr 1;refine dZ λi hi=>?_;obtain⟨q1,q2⟩:=jl.1 hi;have q2:i.p≠aV:=by simpa using q2
 unfold stepG iG;rw[af (h1 i q1 q2),af q2]<;>rfl
end
def zJ (d:Dg)(c:dn)(f:Nat):cq:=let a:=fO d ((dw c f).headD iA);if c.kind=5 then⟨a.id,6,a.file,0,aS,[],0,[],[],bl c.cS d,bl c.cZ d,[]⟩else a
structure Rb (L:bV->Option cq)(c:dn)(d:Dg):Prop where
 ids:∀i b,L i=some b->b.id=i
 ne:∀i,i∈refsOf c->i.p≠aV->i.p≠d
 own:∀i,i∈c.file::c.cS::c.cZ::c.over->i.p=aV->0<=i.n
 par:c.parent.p=aV->c.parent=kX\/0<=c.parent.n
 clean:Clean c
 lines:c.kind=5->c.lines≠[]
theorem Tz {c:dn}(hc:Clean c)(hl:c.kind=5->c.lines≠[])(d:Dg)(f:Nat):uf (zJ d c f)=(if c.kind≠1/\c.kind≠7 then[(bl c.file d,bF c.kind)]else[])++((if c.kind=2/\bl c.parent d≠kX then[(bl c.parent d,lq)]else[])++((if c.kind=5\/c.kind=6 then[(bl c.cS d,xE (bl c.file d)),(bl c.cZ d,xE (bl c.file d))]else[])++(JO d c.over).map λi=>(i,iT c.kind (bl c.file d)))):=by
 have h7:c.kind=1\/c.kind=2\/c.kind=3\/c.kind=4\/c.kind=5\/c.kind=6\/c.kind=7:=by have :=hc.lo;have :=hc.hi;omega
 have ho:=hc.over;cases c with
 |mk kind file type parent name mode data cS cZ lines over=>
  simp only at h7 hl ho⊢;have h56:bF 5=bF 6:=by funext x;simp[bF,fS]
  have alb:∀g g':bV,iT 7 g=iT 7 g':=λg g'=>by funext b;simp[iT]
  rcases h7 with rfl|rfl|rfl|rfl|rfl|rfl|rfl;have :over=[]:=ho (.inl rfl);subst this;simp[zJ,dw,kG,fO,st1,st2,II,IJ,UF,uf,JO];simp[zJ,dw,kG,fO,st1,st2,II,IJ,UF,uf];simp[zJ,dw,kG,fO,st1,st2,II,IJ,UF,uf];simp[zJ,dw,kG,fO,st1,st2,II,IJ,UF,uf];have :over=[]:=ho (.inr rfl);subst this;have hl:=hl rfl;cases lines with
  |nil=>exact absurd rfl hl
  |cons t ts=>simp[zJ,dw,qH,List.range_succ_eq_map,fO,st1,st2,II,IJ,UF,uf,JO,h56]
  simp[zJ,dw,kG,fO,st1,st2,II,IJ,UF,uf];simp[zJ,dw,kG,fO,st1,st2,II,IJ,UF,uf];intro i _;exact alb _ _
theorem agQ {L:bV->Option cq}{c:dn}{d:Dg}(h:Rb L c d)(f:Nat):bz ((uf (zJ d c f)).map (stepG L d))=chL L c d:=by
 have hc:=h.clean;have m1:c.file∈refsOf c:=by unfold refsOf;simp
 have m2:c.parent∈refsOf c:=by unfold refsOf;simp
 have m3:c.cS∈refsOf c:=by unfold refsOf;simp
 have m4:c.cZ∈refsOf c:=by unfold refsOf;simp
 have m5:∀i,i∈c.over->i∈refsOf c:=λi hi=>by unfold refsOf;simp[hi]
 have eF:stepG L d (bl c.file d,bF c.kind)=iG L c.file (bF c.kind):=Jv (h.own _ (by simp)) (h.ne _ m1) _;have eO:bz (((JO d c.over).map λi=>(i,iT c.kind (bl c.file d))).map (stepG L d))=bz (c.over.map λi=>iG L i (dU c.kind (bl c.file d))):=by
  have :=Ty (L:=L) (d:=d) hc.uY (λi hi=>h.own i (by simp[hi])) (λi hi=>h.ne i (m5 i hi)) (iT c.kind (bl c.file d));rw[fL];have e:iT c.kind (bl c.file d)=dU c.kind (bl c.file d):=by
   funext b;unfold iT dU AT;by_cases g:c.kind=7;simp[g];have :=hc.lo;have g0:¬c.kind=0:=oO
   simp[g,g0]
  rw[<-e];exact this
 have eP:bz ((if c.kind=2/\bl c.parent d≠kX then[(bl c.parent d,lq)]else[]).map (stepG L d))=iG L c.parent lq:=by by_cases g:c.kind=2/\bl c.parent d≠kX;rw[ag g];have hn:c.parent.p=aV->0<=c.parent.n:=λq=>(h.par q).elim (λe=>absurd (by rw[e];rfl) g.2) id;rw[xz,Jv hn (h.ne _ m2)];unfold bz bz;split<;>simp_all;rw[af g];show(0:Int)=_;by_cases k:c.kind=2;have e:bl c.parent d=kX:=fA.1 λq=>g ⟨k,q⟩;have hp:c.parent.p=aV:=ia λq=>q (by rw[<-show bl c.parent d=c.parent from af λr=>q r.1,e];rfl);exact(ag hp).symm;rw[hc.par k];rfl
 have eE:∀x,x∈refsOf c->(x.p=aV->0<=x.n)->c.kind=5\/c.kind=6->iG L c.file (bF c.kind)=0->stepG L d (bl x d,xE (bl c.file d))=zI L x c.file d:=λx hx hn hk hF=>by
  rw[Jv hn (h.ne _ hx)];unfold zI;by_cases e:x=c.file;rw[ag e];subst e;unfold iG at hF⊢;by_cases g:c.file.p=aV;exact ag g;rw[af g]at hF⊢;rw[show bl c.file d=c.file from af λq=>g q.1];cases hL:L c.file with
  |none=>rw[hL]at hF;exact absurd (show(7:Int)=0 from hF) dD
  |some b=>show(if xE c.file b=true then(0:Int)else 8)=0;rw[ag];unfold xE;rw[an (h.ids _ _ hL)];rfl
  rw[af e];unfold iG;by_cases g:x.p=aV;rw[ag g,ag g];rw[af g,af g];cases hL:L x with
  |none=>rfl
  |some b=>
   have hb:=h.ids _ _ hL;have hne:¬b.id=bl c.file d:=by rw[hb];by_cases q:c.file.p=aV;rw[show bl c.file d=⟨d,c.file.n⟩from ag ⟨q,h.own _ (by simp) q⟩];intro r;exact h.ne _ hx g (by rw[r]);rw[show bl c.file d=c.file from af λr=>q r.1];exact e
   show(if xE (bl c.file d) b=true then(0:Int)else 8)=if gj (bl c.file d) b=true then 0 else 8;unfold xE;rw[ak hne,od]
 rw[Tz hc h.lines];unfold chL;rw[aD,aD,aD,pG,pG,pG,eO,eP];have e17:bz ((if c.kind≠1/\c.kind≠7 then[(bl c.file d,bF c.kind)]else[]).map (stepG L d))=iG L c.file (bF c.kind):=by by_cases g:c.kind≠1/\c.kind≠7;rw[ag g,xz,eF];unfold bz bz;split<;>simp_all;rw[af g,hc.file oO];rfl
 rw[e17];by_cases hF:iG L c.file (bF c.kind)=0;rotate_left;rw[ag hF,cE hF];rw[af (λg=>g hF),cn hF];have e56:bz ((if c.kind=5\/c.kind=6 then[(bl c.cS d,xE (bl c.file d)),(bl c.cZ d,xE (bl c.file d))]else[]).map (stepG L d))=bz [zI L c.cS c.file d,zI L c.cZ c.file d]:=by
  by_cases g:c.kind=5\/c.kind=6;rw[ag g,bR,xz,eE _ m3 (h.own _ (by simp)) g hF,eE _ m4 (h.own _ (by simp)) g hF];rw[af g,(hc.ends g).1,(hc.ends g).2];have :zI L aS c.file d=0:=by unfold zI;split;rfl;rfl
  rw[this];rfl
 rw[e56,show∀a b:Int,∀l,bz (iG L c.parent lq::a::b::l)=bz ([iG L c.parent lq]++([a,b]++l))fromλ_ _ _=>rfl,pG,pG];have :∀e:Int,bz [e]=e:=λe=>by unfold bz bz;split<;>simp_all
 rw[this]
theorem TA (c:dn)(a b:Nat):(dw c a).length=(dw c b).length:=by rw[vJ,vJ]
theorem TB {c:dn}(a:Nat):∃x r,dw c a=x::r:=by
 cases h:dw c a with
 |cons x r=>exact⟨x,r,rfl⟩
 |nil=>have :=bg List.length h;rw[vJ]at this;split at this<;>simp at this
theorem Ge:∀(l:List dn)(own:List cq),(iF l own).2=0->∃r,(iF l own).1=own++r|[],own,_=>⟨[],(aW _).symm⟩|c::l,own,h=>by rw[jM]at h⊢;by_cases h1:cO c≠0;rw[ag h1]at h;exact absurd h h1;rw[af h1]at h⊢;by_cases h2:me c own≠0;rw[ag h2]at h;exact absurd h h2;rw[af h2]at h⊢;obtain⟨r,hr⟩:=Ge l _ h;exact⟨dw c own.length++r,by rw[hr,bu]⟩
theorem Gf:∀(l:List dn)(own:List cq)(i:Nat)(hi:i<l.length),(iF l own).2=0->(iF l own).1[own.length+((l.take i).map λc=>(dw c 0).length).sum]?=some ((dw l[i] (own.length+((l.take i).map λc=>(dw c 0).length).sum)).headD iA)
 |c::l,own,i,hi,h=>by
  rw[jM]at h⊢;by_cases h1:cO c≠0;rw[ag h1]at h;exact absurd h h1;rw[af h1]at h⊢;by_cases h2:me c own≠0;rw[ag h2]at h;exact absurd h h2;rw[af h2]at h⊢;cases i with
  |zero=>obtain⟨r,hr⟩:=Ge l _ h;obtain⟨x,q,hx⟩:=TB (c:=c) own.length;rw[hr];simp only[List.take_zero,fW,List.sum_nil,wC,List.getElem_cons_zero];rw[hx];simp
  |succ i=>
   have ih:=Gf l (own++dw c own.length) i (by simpa using hi) h;have e:(own++dw c own.length).length+((l.take i).map λc=>(dw c 0).length).sum=own.length+(((c::l).take (i+1)).map λc=>(dw c 0).length).sum:=by rw[CC,bR,sX,ay,TA c own.length 0,fH]
   rw[e]at ih;exact ih
theorem LV {p:gr}(h:xw p){i:Nat}(hi:i<p.changes.length):(jE p)[pF p i]?=some (fO (lV p).1 ((dw p.changes[i] (pF p i)).headD iA)):=by have h2:=h.Yt;rw[h.UP.all]at h2;have :=Gf p.changes [] i hi h2;rw[bn,de]at this;rw[zF h,aN,h.UP.all];show((iF p.changes []).1[pF p i]?).map _=_;rw[show(iF p.changes []).1[pF p i]?=_ from this];rfl
theorem abq {p:gr}(h:xw p){i:Nat}(hi:i<p.changes.length)(d:Dg)(hd:(lV p).1=d):DR p d (jE p) i=zJ d p.changes[i] (pF p i):=by
 subst hd;have h1:=LV h hi;have e1:(jE p).getD (pF p i) iA=fO (lV p).1 ((dw p.changes[i] (pF p i)).headD iA):=by rw[eV,h1];rfl
 have e2:p.changes.getD i default=p.changes[i]:=by rw[eV,av hi];rfl
 unfold DR zJ;simp only[e1,e2]
theorem NS {p:gr}(h:iD p=false):(dM p).1.length<=80020:=by
 have hc:p.changes.length<=20:=by unfold iD at h;simp only[kJ,decide_eq_false_iff_not]at h;omega
 have hb:=(zo p.changes [] λa h=>by cases h).1;rw[bn]at hb;unfold dM;repeat' split
 all_goals first|exact zL|omega
theorem aeC {p:gr}(h:iD p=false):(lK p).1.length<=80020:=by unfold lK;split;exact zL;rw[ah];exact NS h
theorem Rc {Q:gr->Prop}(h0:Q Lm):∀{s:List cL},(∀x,x∈s->Q x.pat)->∀d,Q (nk s d).1|[],_,_=>h0|x::s,h,d=>by unfold nk;split;exact h x (by simp);exact Rc h0 (λy hy=>h y (cR _ hy)) d
theorem Re {s:List cL}(h:∀x,x∈s->iD x.pat=false):∀ids:List Dg,(aaJ s ids).length<=80020*ids.length|[]=>aA _|d::l=>by have h1:=Re h l;have h2:(lK (nk s d).1).1.length<=80020:=aeC (Rc (Q:=λp=>iD p=false) dD h d);show((lK (nk s d).1).1++aaJ s l).length<=_;rw[ay,aR];omega
theorem TC {s:List cL}(h:uX s=false):∀x,x∈s->iD x.pat=false:=λx hx=>by
 unfold uX xd at h;simp only[kJ,decide_eq_false_iff_not]at h;obtain⟨h1,h2,-⟩:=h;rw[cU oO]at h1;cases hq:iD x.pat with
 |false=>rfl
 |true=>rw[fc.2 ⟨x,hx,hq⟩]at h1;exact absurd h1 dD
theorem agR {p:gr}(hf:IS p)(hg:iD p=false)(h:(lV p).2=0):xw p:=by refine⟨hf,?_,by have :=NS hg;omega⟩;unfold lV at h;by_cases g:(oP p).2≠0;rw[ag g]at h;exact absurd h g;exact fA.1 g
theorem abr {s:List cL}(hz:Wo s)(h:FP s=true):vk s/\s.length<=8/\(akG s).length<=2^20/\∀x,x∈s->iD x.pat=false:=by
 unfold FP at h;rw[br,decide_eq_true_eq]at h;obtain⟨h1,h2⟩:=h;have h1:uX s=false:=by
  cases hq:uX s with
  |false=>rfl
  |true=>rw[hq]at h1;cases h1
 have hg:=TC h1;have hS:=abe h2;obtain⟨hF,hl⟩:=UL hz h1;refine⟨⟨hF,hS,λx hx=>agR (hF.each x hx) (hg x hx) (by rw[hS.id x hx])⟩,hl,?_,hg⟩;have h3:=Lo (aaJ s (gH s));have h4:=Re hg (gH s);have h5:=IV s;show(UM (aaJ s (gH s))).length<=_;omega
theorem Ff {α:Type}{P:α->Bool}{a:α}:∀{l:List α},a∈l->P a=true->(∀b,b∈l->P b=true->b=a)->l.find? P=some a
 |b::l,hm,hp,hu=>by
  rw[kO];cases hb:P b with
  |true=>rw[hu b (.head _) hb]
  |false=>
   have hm:a∈l:=(aK.1 hm).resolve_left λe=>by rw[<-e,hp]at hb;cases hb
   exact Ff hm hp λc hc=>hu c (.tail _ hc)
theorem abt {s D:List cL}(h:vk s)(hD:∀y,y∈D->y∈s){i:bV}(hi:i.p∈D.map λy=>y.id):zH (lR D) i=kQ s i:=by
 obtain⟨y,hy,hyi⟩:=aC.1 hi;have hys:=hD y hy;have hg:nk s i.p=(y.pat,true):=by rw[<-hyi];exact oT h.ok.uY hys
 have only:∀b,b∈(D.flatMap λx=>jE x.pat)->b.id=i->∃k,∃hk:k<(jE y.pat).length,b=(jE y.pat)[k]/\(k:Int)=i.n:=λb hb e=>by obtain⟨z,hz,hb⟩:=gC.1 hb;obtain⟨k,hk,rfl⟩:=ig hb;rw[BR h (hD z hz) k hk]at e;obtain rfl:z=y:=Jn h.ok.uY (hD z hz) hys (by rw[hyi,<-e]);exact⟨k,hk,rfl,by rw[<-e]⟩
 have rQ:gm s i=if i.n<0\/((jE y.pat).length:Int)<=i.n then(iA,false)else((jE y.pat).getD i.n.toNat iA,true):=by unfold gm;rw[hg];rfl
 unfold kQ zH;rw[rQ];show(D.flatMap λx=>jE x.pat).find? _=_;by_cases hn:i.n<0\/((jE y.pat).length:Int)<=i.n;rw[ag hn,af dD];refine xB.2 λb hb g=>?_;obtain⟨k,hk,-,e⟩:=only b hb (by simpa using g);omega;rw[af hn,ag rfl];have hk:i.n.toNat<(jE y.pat).length:=oO
 have e1:(jE y.pat).getD i.n.toNat iA=(jE y.pat)[i.n.toNat]:=by rw[eV,av hk];rfl
 rw[e1];refine Ff (gC.2 ⟨y,hy,aO hk⟩) ?_ λb hb g=>?_;rw[BR h hys _ hk];refine an ?_;rw[hyi];cases i;simp only[bV.mk.injEq,true_and]at*;omega;obtain⟨k,hk2,rfl,e⟩:=only b hb (by simpa using g);congr 1;omega
theorem LW:∀(l:List dn)(own:List cq),(iF l own).2=0->∀c,c∈l->cO c=0/\∃own,me c own=0|c::l,own,h,x,hx=>by rw[jM]at h;by_cases h1:cO c≠0;rw[ag h1]at h;exact absurd h h1;rw[af h1]at h;by_cases h2:me c own≠0;rw[ag h2]at h;exact absurd h h2;rw[af h2]at h;rcases aK.1 hx with rfl|hx;exact⟨fA.1 h1,own,fA.1 h2⟩;exact LW l _ h x hx
theorem one_pos {x:bV}{n:Nat}{b:Bool}(h:ua x n b=0)(hp:x.p=aV):0<=x.n:=by unfold ua at h;by_cases g:BC x n=true;unfold BC at g;rw[ag hp,br,decide_eq_true_eq]at g;exact g.1;rw[af g]at h;exact absurd h dD
theorem LX {p:gr}(hq:xw p){d:Dg}(hd:d∉bI p){c:dn}(hc:c∈p.changes){L:bV->Option cq}(hL:∀i b,L i=some b->b.id=i):Rb L c d:=by
 have hc0:(iF p.changes []).2=0:=by rw[<-hq.UP.all];exact hq.Yt
 obtain⟨hf,own,hr⟩:=LW _ _ hc0 c hc;have lU:=Ra hf;unfold me Qc at hr;have hr:=nL.1 hr;have zn:(aS:bV).n=0:=rfl;refine⟨hL,λi hi hz e=>?_,λi hi hp=>?_,λhp=>?_,lU,λh5 e=>?_⟩;have :=vP hq.ok hc hi hz;rw[e]at this;exact hd this;have h7:=lU.lo;have h8:=lU.hi;rcases aK.1 hi with rfl|hi;by_cases g:2<=c.kind/\c.kind<=6;have :=hr _ (.head _);rw[ag g]at this;exact one_pos this hp;rw[lU.file oO];decide;rcases aK.1 hi with rfl|hi;by_cases g:fS c.kind=true;have :=hr _ (.tail _ (.tail _ (.head _)));rw[ag g]at this;exact one_pos this hp;rw[(lU.ends (λq=>g (by unfold fS;rcases q with q|q<;>simp[q]))).1];decide;rcases aK.1 hi with rfl|hi;by_cases g:fS c.kind=true;have :=hr _ (.tail _ (.tail _ (.tail _ (.head _))));rw[ag g]at this;exact one_pos this hp;rw[(lU.ends (λq=>g (by unfold fS;rcases q with q|q<;>simp[q]))).2];decide;have :=hr (ua i own.length (dU c.kind c.file (nj own i))) (by simp only[aK,aZ,aC];exact .inr (.inr (.inr (.inr (.inl ⟨i,hi,rfl⟩)))));exact one_pos this hp;by_cases g:c.kind=2/\c.parent≠kX;have :=hr _ (.tail _ (.head _));rw[ag g]at this;exact .inr (one_pos this hp);by_cases k:c.kind=2;exact .inl (fA.1 λq=>g ⟨k,q⟩);right;rw[lU.par k];decide;have :=zw hf h5;rw[e]at this;exact absurd this dD
theorem abu {s:List cL}(h:vk s){x:cL}(hx:x∈s){c:dn}(hc:c∈x.pat.changes){L:bV->Option cq}(hL:∀i b,L i=some b->b.id=i):Rb L c x.id:=LX (h.q x hx) (GV h.ok hx) hc hL
theorem Rf {α:Type}{g:α->List Int}{l:List α}(h:∀x,x∈l->bz (g x)=0):bz (l.flatMap g)=0:=by rw[nL];intro e he;obtain⟨x,hx,he⟩:=gC.1 he;exact nL.1 (h x hx) e he
theorem Xo {s D:List cL}(h:vk s)(hD:∀y,y∈D->y∈s){x:cL}(hx:x∈s)(hn:∀d,d∈bI x.pat->d∈D.map λy=>y.id):QV (lR D) x=0:=by
 unfold QV;have hq:=h.q x hx;refine Rf λi hi=>?_;have hi:i<x.pat.changes.length:=by simpa using hi
 have hc:x.pat.changes[i]∈x.pat.changes:=aO hi;have hr:=h.ok.refs x hx;unfold nH at hr;rw[aW,nL]at hr;rw[abq hq hi x.id (by rw[h.idE hx]),agQ (abu h hx hc (λi b e=>by have :=mG e;simpa using this)),LU (L':=kQ s) (λj hj hz=>abt h hD (hn _ (vP hq.ok hc hj hz))),<-NR];exact hr _ (aC.2 ⟨_,hc,rfl⟩)
abbrev Gg:=List (bV×List cq)
def XZ:Gg->bV->cq->Gg|[],x,d=>[(x,[d])]|(y,w)::l,x,d=>if x=y then(y,w++[d])::l else(y,w)::XZ l x d
def qB:Gg->bV->List cq|[],_=>[]|(y,w)::l,x=>if x=y then w else qB l x
theorem TG:∀(l:Gg)(x:bV)(d:cq)(y:bV),qB (XZ l x d) y=if y=x then qB l x++[d]else qB l y
 |[],x,d,y=>by simp[XZ,qB]
 |(z,w)::l,x,d,y=>by unfold XZ;by_cases h:x=z;rw[ag h];subst h;show(if y=x then w++[d]else qB l y)=if y=x then(if x=x then w else qB l x)++[d]else(if y=x then w else qB l y);by_cases h2:y=x;rw[ag h2,ag h2,ag rfl];rw[af h2,af h2,af h2];rw[af h];show(if y=z then w else qB (XZ l x d) y)=if y=x then(if x=z then w else qB l x)++[d]else(if y=z then w else qB l y);rw[TG l x d y,af h];by_cases h2:y=z;rw[ag h2,ag h2,af (λe=>h (e.symm.trans h2))];rw[af h2,af h2]
def AB (P:Gg):List (bV×AV):=P.map λp=>(p.1,.sl (iu p.2))
theorem Vs:∀(P:Gg)(i:bV),jd (AB P) i=some (.sl (iu (qB P i)))\/(jd (AB P) i=none/\qB P i=[])|[],_=>.inr ⟨rfl,rfl⟩|(y,w)::P,i=>by show(if i=y then some (AV.sl (iu w))else jd (AB P) i)=some (.sl (iu (if i=y then w else qB P i)))\/((if i=y then some (AV.sl (iu w))else jd (AB P) i)=none/\(if i=y then w else qB P i)=[]);by_cases h:i=y;rw[ag h,ag h];exact .inl rfl;rw[af h,af h];exact Vs P i
theorem abC:∀(P:Gg)(i:bV)(a:cq),ur (AB P) i (.sl (iu (qB P i++[a])))=AB (XZ P i a)|[],i,a=>rfl|(y,w)::P,i,a=>by show(if i=y then(i,AV.sl (iu ((if i=y then w else qB P i)++[a])))::AB P else(y,AV.sl (iu w))::ur (AB P) i (.sl (iu ((if i=y then w else qB P i)++[a]))))=AB (if i=y then(y,w++[a])::P else(y,w)::XZ P i a);by_cases h:i=y;rw[ag h,ag h,ag h,h];rfl;rw[af h,af h,af h,abC P i a];rfl
theorem NV (P:Gg)(i:bV):(sw (.agg (cI i)) (kE wI (AB P))=some (.p (.sl (iu (qB P i)))))\/(sw (.agg (cI i)) (kE wI (AB P))=none/\qB P i=[]):=by rw[show sw (.agg (cI i)) (kE wI (AB P))=(jd (AB P) i).map FV.p from rM wI (AB P) i];rcases Vs P i with h|⟨h1,h2⟩;rw[h];exact .inl rfl;rw[h1];exact .inr ⟨rfl,h2⟩
def JA (a:cq)(P:Gg)(i:bV):Gg:=XZ P i a
def ya (P:Gg)(a:cq):Gg:=a.over.foldl (JA a) P
def va (l:List cq):Gg:=l.foldl ya []
theorem Ri (a:cq):∀(o:List bV)(P:Gg)(i:bV)(b:cq),b∈qB (o.foldl (JA a) P) i↔b∈qB P i\/(b=a/\i∈o)
 |[],P,i,b=>by simp
 |j::o,P,i,b=>by rw[fI,Ri a o _ i b];unfold JA;rw[TG];by_cases h:i=j;subst h;rw[ag rfl,aZ,aP];constructor;rintro((g|g)|g);exact .inl g;exact .inr ⟨g,.head _⟩;exact .inr ⟨g.1,.tail _ g.2⟩;rintro(g|g);exact .inl (.inl g);exact .inl (.inr g.1);rw[af h,aK];constructor;rintro(g|g);exact .inl g;exact .inr ⟨g.1,.inr g.2⟩;rintro(g|⟨g1,g2⟩);exact .inl g;exact .inr ⟨g1,g2.resolve_left h⟩
theorem Rj:∀(l:List cq)(P:Gg)(i:bV)(b:cq),b∈qB (l.foldl ya P) i↔b∈qB P i\/(b∈l/\i∈b.over)
 |[],P,i,b=>by simp
 |a::l,P,i,b=>by rw[fI,Rj l _ i b];unfold ya;rw[Ri,aK];constructor;rintro((g|⟨rfl,g⟩)|g);exact .inl g;exact .inr ⟨.inl rfl,g⟩;exact .inr ⟨.inr g.1,g.2⟩;rintro(g|⟨rfl|g1,g2⟩);exact .inl (.inl g);exact .inl (.inr ⟨rfl,g2⟩);exact .inr ⟨g1,g2⟩
theorem NW {l:List cq}{i:bV}{b:cq}:b∈qB (va l) i↔b∈l/\i∈b.over:=by unfold va;rw[Rj];exact⟨λg=>g.elim (λg=>nomatch g) id,.inr⟩
theorem aeG (l:Gg)(x:bV)(d:cq)(y:bV):(qB (XZ l x d) y).length<=(qB l y).length+1:=by rw[TG];by_cases h:y=x;rw[ag h,h,ay];exact aA _;rw[af h];omega
theorem JB (a:cq):∀(o:List bV)(P:Gg)(i:bV),(qB (o.foldl (JA a) P) i).length<=(qB P i).length+o.length|[],P,i=>aA _|j::o,P,i=>by have h1:=JB a o (JA a P j) i;have h2:=aeG P j a i;rw[fI,aR];unfold JA at h1⊢;omega
theorem Rk {K:Nat}:∀(l:List cq),(∀a,a∈l->a.over.length<=K)->∀(P:Gg)(i:bV),(qB (l.foldl ya P) i).length<=(qB P i).length+l.length*K
 |[],_,P,i=>by simp
 |a::l,h,P,i=>by have h1:=Rk l (λb hb=>h b (.tail _ hb)) (ya P a) i;have h2:=JB a a.over P i;have h3:=h a (.head _);rw[fI,aR,Nat.succ_mul];unfold ya at h1⊢;omega
structure LY (l:List cq)(E:bV->Bool)(rk:bV->Nat):Prop where
 eq:∀i,E i=!(l.any λa=>decide (i∈a.over)&&(decide (a.kind=7)&&E a.id))
 less:∀a,a∈l->a.kind=7->∀i,i∈a.over->rk a.id<rk i
theorem abD {l:List cq}(i:bV)(f:cq->Bool):((qB (va l) i).any f)=l.any λa=>decide (i∈a.over)&&f a:=by rw[om,fc,fc];constructor;rintro⟨a,ha,hf⟩;obtain⟨h1,h2⟩:=NW.1 ha;exact⟨a,h1,by rw[an h2,hf];rfl⟩;rintro⟨a,ha,hf⟩;rw[br,decide_eq_true_eq]at hf;exact⟨a,NW.2 ⟨ha,hf.1⟩,hf.2⟩
def Ky (l:List cq)(E:bV->Bool):List bV:=(l.filter λa=>!(l.any λb=>decide (a.id∈b.over)&&E b.id)).map λa=>a.id
def aeH (E:bV->Bool)(rk:bV->Nat)(r:Nat)(M:List (bV×AV)):Prop:=∀i v,rk i<=r->jd M i=some v->v=.bool (E i)
def Xt (E:bV->Bool)(M:List (bV×AV)):Prop:=∀i v,jd M i=some v->v=.bool (E i)
end Qv
