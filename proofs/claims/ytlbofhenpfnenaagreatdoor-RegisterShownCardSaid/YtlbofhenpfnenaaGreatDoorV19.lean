/- Part 44 of the proof: its lemmas. No condition. -/
import Derived.Test.YtlbofhenpfnenaaGreatDoorU24
import Derived.Test.YtlbofhenpfnenaaGreatDoorV4
import Derived.Test.YtlbofhenpfnenaaGreatDoorV7
import Derived.Test.YtlbofhenpfnenaaGreatDoorV9
import Derived.Test.YtlbofhenpfnenaaGreatDoorV13
import Derived.Test.YtlbofhenpfnenaaGreatDoorV18
set_option maxRecDepth 10000
set_option maxHeartbeats 80000000
set_option linter.all false
open Go Go.Proofs Go.RowKit
namespace Qv
theorem FG:∀l:List Dg,(dz l).length<=l.length|[]=>ay _|[_]=>ay _|x::y::l=>by have :=FG (y::l);unfold dz;split;simp only[aL]at this⊢;omega;simp only[aL]at this⊢;omega
theorem JG:∀(l:List Dg)(x:Dg)(h:l≠[]),dz (l++[x])=if l.getLast h=x then dz l else dz l++[x]
 |[y],x,_=>by show dz [y,x]=if y=x then[y]else[y]++[x];unfold dz;by_cases e:y=x;rw[af e,af e,e];rfl;rw[aa e,aa e];rfl
 |y::z::l,x,_=>by have ih:=JG (z::l) x (mu _ _);rw[List.getLast_cons (mu _ _)];show(if y=z then dz ((z::l)++[x])else y::dz ((z::l)++[x]))=if _ then(if y=z then dz (z::l)else y::dz (z::l))else(if y=z then dz (z::l)else y::dz (z::l))++[x];rw[ih];by_cases e:y=z;rw[af e,af e];rw[aa e,aa e];split;rfl;rfl
theorem yo {l:List Dg}{j:Nat}(h0:0<j)(h:j<l.length):dz (l.take (j+1))=if l[j-1]=l[j]then dz (l.take j)else dz (l.take j)++[l[j]]:=by
 have hne:l.take j≠[]:=by intro e;have :=aB List.length e;rw[aD]at this;simp only[br]at this;omega
 rw[ec h,JG _ _ hne];have e:(l.take j).getLast hne=l[j-1]:=by rw[List.getLast_eq_getElem,List.getElem_take];congr 1;rw[aD];omega
 rw[e]
def Eh (c:eG):List Dg:=((dH c).map λe=>e.1.p).filter λd=>!decide (d=bF)
def pS (c:eG)(j:Nat):List Dg:=(((dH c).take j).map λe=>e.1.p).filter λd=>!decide (d=bF)
theorem Ch {c:eG}{j:Nat}(h:j<(dH c).length):pS c (j+1)=pS c j++(if(dH c)[j].1.p=bF then[]else[(dH c)[j].1.p]):=by unfold pS;rw[ec h,aM,kM];congr 1;by_cases e:(dH c)[j].1.p=bF;rw[af e];simp[e];rw[aa e];simp[e]
def Ci (p:ga):List Dg:=p.deps++p.changes.flatMap Eh
def sL (p:ga)(k:Nat):List Dg:=p.deps++(p.changes.take k).flatMap Eh
theorem GJ {p:ga}{k:Nat}(h:k<p.changes.length):sL p (k+1)=sL p k++Eh p.changes[k]:=by unfold sL;rw[ec h,oc,<-bf];simp
theorem FH (c:eG)(j:Nat):(pS c j).length<=(dH c).length:=by unfold pS;refine bH (di _ _) ?_;rw[aj,aD];omega
theorem JH (c:eG):(dH c).length<=c.over.length+8:=by
 unfold dH;simp only[aq,aj];repeat' split
 all_goals simp only[aL,br];omega
theorem WG {xs:List (List AV)}{K:Bool->Prop}(h1:xs=[]->K true)(h2:K false):Al λb:Bool=>(xs≠[]->b=false)->K b:=⟨λb hb=>by
 cases b with
 |false=>exact h2
 |true=>exact h1 (iU λhne=>absurd (hb hne) dD)⟩
theorem Sb {p:ga}(h:KD p):ak C 237 [.agg (cP p)] (λr=>r=.val (.sl (jo (dz (uy (Ci p)))))):=by
 refine ak.Ak (T:=31) (bP:=32) ?_;have ho:=h.Yy;have hdl:=Ab ho;have jH:=ho.changes;have AN:∀c,c∈p.changes->1<=c.kind/\c.kind<=7/\c.over.length<=400:=λc hc=>by obtain⟨g1,g2,-⟩:=gw (ho.each c hc);exact⟨g1,g2,Jj ho hc⟩
 refine bn {vu with inl:=[281,282],rel:=[281,282],opens:=[5,37]} [] Tryz.func237 rfl rfl rfl ?_;refine cl (RS h).dN ?_;refine cF (λg=>absurd rfl g) (λ_=>?_);refine .inl ⟨_,Tryz.func281,rfl,rfl,rfl,?_⟩;refine WG (xs:=jo p.deps) (λUD=>?_) ?_
 ·have Gd:p.deps=[]:=by have :=aB List.length UD;simpa[jo]using this
  refine dL 44 [(1,.ptr 1 0),(13,.full [])] [(1,aH (cP p))] kK wS oS ?_;refine bu 44 (λx:Nat×Bool×List Dg=>[(1,.ptr 1 0),(3,match x.2.1 with|true=>.fe 37 31 32|false=>.full []),(15,.p (.sl (p.changes.map cC))),(16,.p (.int .i64 ((p.changes.map cC).length:Int))),(17,.p (.int .i64 x.1))]) (λx=>(1,aH (cP p))::(match x.2.1 with|true=>[(37,cR x.2.2)]|false=>[])) (λx=>x.1<=p.changes.length/\x.2.2=sL p x.1/\(x.2.1=false->x.2.2=[])/\x.2.2.length<=409*x.1) (λx=>p.changes.length-x.1) (0,false,[]) ⟨zL,by show[]=p.deps++[];rw[Gd];rfl,λ_=>rfl,zL⟩ kK wS oS ?_;rintro⟨k,b,L⟩ ⟨hk,hL,hb,hLl⟩;replace hk:k<=p.changes.length:=hk;replace hL:L=sL p k:=hL;replace hLl:L.length<=409*k:=hLl;refine bQ (l:=p.changes) (f:=cC) (λhlt=>?_) (λhge=>?_);obtain⟨q1,q7,qo⟩:=AN p.changes[k] (aK _);have BK:=GJ hlt;have iX:(p.changes.map cC)[((k:Nat):Int).toNat]?=some (cC p.changes[k]):=ct rfl hlt;generalize p.changes[k]=c at q1 q7 qo BK iX;have hrl:=JH c;rw[<-hL]at BK;cases b with
  |false=>
   obtain rfl:L=[]:=hb rfl;refine⟨oO,_,iX,rfl,?_⟩;refine cl (yc c q1 q7 oO).dN ?_;refine bu 44 (λx:Nat×Bool×List Dg=>[(1,.ptr 1 0),(3,match x.2.1 with|true=>.fe 37 31 32|false=>.full []),(15,.p (.sl (p.changes.map cC))),(16,.p (.int .i64 ((p.changes.map cC).length:Int))),(17,.p (.int .i64 k)),(22,.p (.sl ((dH c).map (EG c)))),(23,.p (.int .i64 (((dH c).map (EG c)).length:Int))),(24,.p (.int .i64 x.1))]) (λx=>(1,aH (cP p))::(match x.2.1 with|true=>[(37,cR x.2.2)]|false=>[])) (λx=>x.1<=(dH c).length/\x.2.2=pS c x.1/\(x.2.1=false->x.2.2=[])) (λx=>(dH c).length-x.1) (0,false,[]) ⟨zL,rfl,λ_=>rfl⟩ kK wS oS ?_;rintro⟨j,b,M⟩ ⟨hj,hM,wM⟩;replace hj:j<=(dH c).length:=hj;replace hM:M=pS c j:=hM;have hMl:=FH c j;refine bQ (l:=dH c) (f:=EG c) (λdI=>?_) (λtA=>?_);have rD:=Ch dI;have vz:((dH c).map (EG c))[((j:Nat):Int).toNat]?=some (EG c (dH c)[j]):=ct rfl dI;generalize(dH c)[j]=xe at rD vz;obtain⟨x,n⟩:=xe;obtain⟨g,cap,hfn⟩:∃g cap,fnK c n=.fn (.func g) [] cap:=by unfold fnK;by_cases hn:n<254;exact⟨n,[],af hn⟩;exact⟨n,[.imp (cC c)],aa hn⟩
   replace vz:((dH c).map (EG c))[((j:Nat):Int).toNat]?=some (cI x++[fnK c n]):=vz;rw[hfn]at vz;replace rD:pS c (j+1)=pS c j++(if x.p=bF then[]else[x.p]):=rD;cases b with
   |false=>obtain rfl:M=[]:=wM rfl;refine⟨oO,_,vz,rfl,?_⟩;refine cl (fA x).dN ?_;refine bl ?_;by_cases hz:x.p=bF;rw[an hz];rw[af hz,aY]at rD;exact nx (j+1) (aO (j+1,false,[]) ⟨dI,by rw[rD];exact hM,λ_=>rfl⟩ (by show(dH c).length-(j+1)<(dH c).length-j;omega) kK wS oS);rw[ah hz];rw[aa hz]at rD;refine⟨mu _ _,(λzs h=>by rw[aS.1 h];rfl),(show 1*32<=140737488355328 by decide),cR [x.p],rfl,?_⟩;exact nx (j+1) (aO (j+1,true,[x.p]) ⟨dI,by rw[rD,<-hM];rfl,(λh=>nomatch h)⟩ (by show(dH c).length-(j+1)<(dH c).length-j;omega) kK wS oS)
   |true=>refine⟨oO,_,vz,rfl,?_⟩;refine cl (fA x).dN ?_;refine bl ?_;by_cases hz:x.p=bF;rw[an hz];rw[af hz,aY]at rD;exact nx (j+1) (aO (j+1,true,M) ⟨dI,by rw[rD];exact hM,(λh=>nomatch h)⟩ (by show(dH c).length-(j+1)<(dH c).length-j;omega) kK wS ⟨aC kK,My 7 kK,trivial⟩);rw[ah hz];rw[aa hz]at rD;refine⟨M.length,by rw[kV,kV];exact dy M,(λzs h=>by rw[aS.1 h];rfl),by show(M.length+1)*32<=_;rw[hM];omega,cR (M++[x.p]),by rw[kV,kV];exact AS _ _ _,?_⟩;exact nx (j+1) (aO (j+1,true,M++[x.p]) ⟨dI,by rw[rD,hM],(λh=>nomatch h)⟩ (by show(dH c).length-(j+1)<(dH c).length-j;omega) kK wS oS)
   obtain rfl:j=(dH c).length:=oO
   have hM2:M=sL p (k+1):=by rw[BK,hM];unfold pS Eh;rw[aJ];rfl
   cases b with
   |false=>obtain rfl:M=[]:=wM rfl;exact nx (k+1) (aO (k+1,false,[]) ⟨hlt,hM2,(λ_=>rfl),zL⟩ (by show p.changes.length-(k+1)<p.changes.length-k;omega) kK wS oS)
   |true=>exact nx (k+1) (aO (k+1,true,M) ⟨hlt,hM2,(λh=>nomatch h),by show M.length<=409*(k+1);rw[hM];omega⟩ (by show p.changes.length-(k+1)<p.changes.length-k;omega) kK wS oS)
  |true=>
   refine⟨oO,_,iX,rfl,?_⟩;refine cl (yc c q1 q7 oO).dN ?_;refine bu 44 (λx:Nat×List Dg=>[(1,.ptr 1 0),(3,.fe 37 31 32),(15,.p (.sl (p.changes.map cC))),(16,.p (.int .i64 ((p.changes.map cC).length:Int))),(17,.p (.int .i64 k)),(22,.p (.sl ((dH c).map (EG c)))),(23,.p (.int .i64 (((dH c).map (EG c)).length:Int))),(24,.p (.int .i64 x.1))]) (λx=>[(1,aH (cP p)),(37,cR x.2)]) (λx=>x.1<=(dH c).length/\x.2=L++pS c x.1) (λx=>(dH c).length-x.1) (0,L) ⟨zL,by show L=L++[];rw[aY]⟩ kK wS ⟨aC kK,My 5 kK,trivial⟩ ?_;rintro⟨j,M⟩ ⟨hj,hM⟩;replace hj:j<=(dH c).length:=hj;replace hM:M=L++pS c j:=hM;have hMl:=FH c j;refine bQ (l:=dH c) (f:=EG c) (λdI=>?_) (λtA=>?_);have rD:=Ch dI;have vz:((dH c).map (EG c))[((j:Nat):Int).toNat]?=some (EG c (dH c)[j]):=ct rfl dI;generalize(dH c)[j]=xe at rD vz;obtain⟨x,n⟩:=xe;obtain⟨g,cap,hfn⟩:∃g cap,fnK c n=.fn (.func g) [] cap:=by unfold fnK;by_cases hn:n<254;exact⟨n,[],af hn⟩;exact⟨n,[.imp (cC c)],aa hn⟩
   replace vz:((dH c).map (EG c))[((j:Nat):Int).toNat]?=some (cI x++[fnK c n]):=vz;rw[hfn]at vz;refine⟨oO,_,vz,rfl,?_⟩;refine cl (fA x).dN ?_;refine bl ?_;replace rD:pS c (j+1)=pS c j++(if x.p=bF then[]else[x.p]):=rD;by_cases hz:x.p=bF;rw[an hz];rw[af hz,aY]at rD;exact nx (j+1) (aO (j+1,M) ⟨dI,by rw[rD];exact hM⟩ (by show(dH c).length-(j+1)<(dH c).length-j;omega) kK wS ⟨aC kK,My 7 kK,trivial⟩);rw[ah hz];rw[aa hz]at rD;refine⟨M.length,by rw[kV,kV];exact dy M,(λzs h=>by rw[aS.1 h];rfl),by show(M.length+1)*32<=_;rw[hM,aq];omega,cR (M++[x.p]),by rw[kV,kV];exact AS _ _ _,?_⟩;exact nx (j+1) (aO (j+1,M++[x.p]) ⟨dI,by rw[rD,hM,bf]⟩ (by show(dH c).length-(j+1)<(dH c).length-j;omega) kK wS oS);obtain rfl:j=(dH c).length:=oO
   have hM2:M=sL p (k+1):=by rw[BK,hM];unfold pS Eh;rw[aJ]
   exact nx (k+1) (aO (k+1,true,M) ⟨hlt,hM2,(λh=>nomatch h),by show M.length<=409*(k+1);rw[hM,aq];omega⟩ (by show p.changes.length-(k+1)<p.changes.length-k;omega) kK wS oS)
  obtain rfl:k=p.changes.length:=oO
  have hLn:Ci p=L:=by rw[hL];unfold sL Ci;rw[aJ]
  rw[hLn];have hLb:L.length<=2^40:=oO
  cases b with
  |false=>obtain rfl:L=[]:=hb rfl;refine cl (ON 213).dN ?_;refine .inl ⟨_,Tryz.func282,rfl,rfl,rfl,?_⟩;refine az (λ_=>?_) (λh2=>absurd (show(0:Int)<2 by decide) h2);refine dL 44 [(43,.full [])] [] kK wS trivial ?_;exact .inr (.inr (by rw[show uy ([]:List Dg)=[]from by simp[uy]];rfl))
  |true=>
   refine .inr (.inr (An rfl rfl (bk _) (Cg _ rfl L hLb) λr ys hr=>?_));obtain⟨rfl,rfl⟩:=hr;have SR:=FE L;generalize uy L=l at SR⊢;have agS:(dz l).length<=l.length:=FG l;refine .inl ⟨_,Tryz.func282,rfl,rfl,rfl,?_⟩;refine⟨l.length,by exact dy l,?_⟩;refine az (λh2=>?_) (λh2=>?_);have h2:l.length<2:=by have :(l.length:Int)<2:=h2;omega
   have hc:dz l=l:=by
    match l,h2 with
     |[],_=>rfl
     |[_],_=>rfl
   rw[hc];refine dL 44 [(1,.ptr 1 0),(43,.fe 37 31 32)] [(37,cR l)] kK wS oS ?_;exact⟨jo l,tH,bk _,.inl rfl⟩;have h2:2<=l.length:=by have :¬(l.length:Int)<2:=h2;omega
   refine um 61 1000 (λk:Nat=>[(0,.fe 37 31 32),(3,.p (.int .i64 k))]) (λ_=>[(37,cR l)]) (λ_=>[(44,0,[(1,.ptr 1 0)])]) [] (λ_=>[]) (λk=>1<=k/\k<=l.length/\dz (l.take k)=l.take k) (λk=>l.length-k) 1 ⟨ay _,oO,by(match l,h2 with|a::l,_=>rfl)⟩ kK wS oS ⟨rfl,wS,trivial⟩ trivial ?_;rintro k ⟨sO,hk,hck⟩;refine⟨l.length,by exact dy l,?_⟩;refine az (λhlt=>?_) (λhge=>?_);rotate_left;obtain rfl:k=l.length:=by have :¬(k:Int)<(l.length:Int):=hge;omega
   rw[aJ]at hck;rw[hck];refine dL 44 [(1,.ptr 1 0),(43,.fe 37 31 32)] [(37,cR l)] kK wS oS ?_;exact⟨jo l,tH,bk _,.inl rfl⟩;have hlt:k<l.length:=by have :(k:Int)<(l.length:Int):=hlt;omega
   have hct:=yo (oO:0<k) hlt;have hrl:=dy l;refine cm 10 kK ?_;refine⟨k,k*32,rfl,rfl,by rw[hrl];omega,?_⟩;refine⟨_,aH (cD l[k]),_,Ef hlt,by rw[dy,aD];congr 1;omega,?_⟩;refine nx (k-1) ?_;refine⟨k-1,(k-1)*32,rfl,rfl,by rw[hrl];omega,?_⟩;refine⟨_,aH (cD l[k-1]),_,Ef (oO:k-1<l.length),by rw[dy,aD];congr 1;omega,?_⟩;refine⟨yX,dQ,lq,rfl,rfl,?_⟩;refine IQ (a:=l[k]) (b:=l[k-1]) ?_;by_cases he:l[k]=l[k-1];rotate_left;rw[ah he];rw[aa (eO he),hck,<-ec hlt]at hct;exact nx (k+1) (iH (k+1) ⟨oO,hlt,hct⟩ oO kK wS oS ⟨rfl,wS,trivial⟩ trivial);rw[an he];rw[af he.symm,hck]at hct;refine⟨k,l.length,rfl,by exact dy l,oO,?_⟩;refine um 61 1000 (λx:Nat×List Dg×List Dg=>[(0,.fe 37 31 32),(4,.uH 37 k 31 32),(3,.p (.int .i64 (x.2.1.length:Int))),(5,.p (.int .i64 x.1))]) (λx=>[(37,cR (x.2.1++x.2.2++l.drop (k+x.1-1)))]) (λ_=>[(44,0,[(1,.ptr 1 0)])]) [] (λ_=>[]) (λx=>1<=x.1/\k+x.1<=l.length/\dz (l.take (k+x.1))=x.2.1/\x.2.1.length+x.2.2.length=k+x.1-1) (λx=>l.length-(k+x.1)) (1,l.take k,[]) ⟨ay _,hlt,hct,by show(l.take k).length+0=k+1-1;rw[aD];omega⟩ kK ⟨aF.eq kK,aF.eq kK,aF.eq (by rw[aD,nY hk];kernel_rfl),aF.eq kK,trivial⟩ ⟨(by rw[show l.take k++[]++l.drop (k+1-1)=l from by rw[aY,Ei,cT]];exact aC kK),trivial⟩ ⟨rfl,wS,trivial⟩ trivial ?_;rintro⟨q,K,M⟩ ⟨hq1,hq,hK,hKM⟩;replace hq:k+q<=l.length:=hq;replace hK:dz (l.take (k+q))=K:=hK;replace hKM:K.length+M.length=k+q-1:=hKM;replace hq1:1<=q:=hq1;have Cj:(cR (K++M++l.drop (k+q-1))).length=l.length*32:=by rw[dy,aq,aq,bV];congr 1;omega
   refine⟨l.length-k,by rw[show(cR (K++M++l.drop (k+q-1))).length=l.length*32 from Cj];congr 1;omega,?_⟩;refine az (λdI=>?_) (λtA=>?_);have dI:k+q<l.length:=by have :(q:Int)<((l.length-k:Nat):Int):=dI;omega
   have Ck:=yo (oO:0<k+q) dI;rw[hK]at Ck;have Px:l.drop (k+q-1)=l[k+q-1]::(l[k+q]::l.drop (k+q+1)):=by rw[bL (oO:k+q-1<l.length),show k+q-1+1=k+q from oO,bL dI]
   have hd2:l.drop (k+q)=l[k+q]::l.drop (k+q+1):=bL dI;generalize l[k+q]=x at Ck Px hd2;generalize l[k+q-1]=y at Ck Px;generalize l.drop (k+q+1)=R at Px hd2;have hr1:cR (K++M++l.drop (k+q-1))=cR (K++M++[y])++(aH (cD x)++cR R):=by rw[Px,<-rB,<-jO];simp
   have hr0:cR (K++M++l.drop (k+q-1))=cR (K++M)++(aH (cD y)++cR (x::R)):=by rw[Px,<-rB,<-jO]
   have OP:(K++M).length=k+q-1:=by rw[aq];exact hKM
   refine cm 10 kK ?_;refine⟨q,(k+q)*32,rfl,rfl,by rw[Cj];omega,?_⟩;refine⟨_,aH (cD x),_,hr1,by rw[dy,aq,OP];show(k+q-1+1)*32=_;congr 1;omega,?_⟩;refine nx (q-1) ?_;refine⟨q-1,(k+q-1)*32,rfl,by congr 1;omega,by rw[Cj];omega,?_⟩;refine⟨_,aH (cD y),_,hr0,by rw[dy,OP],?_⟩;refine⟨yX,dQ,lq,rfl,rfl,?_⟩;refine Rf (a:=x) (b:=y) ?_;obtain⟨e,M2,hM2⟩:∃e M2,M++[y]=e::M2:=by
    cases M with
    |nil=>exact⟨y,[],rfl⟩
    |cons a M=>exact⟨a,M++[y],rfl⟩
   have alU:M.length=M2.length:=by have :=aB List.length hM2;simpa using this
   by_cases hxy:x=y;rw[an hxy];rw[af hxy.symm]at Ck;exact nx (q+1) (iH (q+1,K,M++[y]) ⟨oO,dI,Ck,by show K.length+(M++[y]).length=k+(q+1)-1;rw[aq];simp only[fP];omega⟩ (by show l.length-(k+(q+1))<l.length-(k+q);omega) kK wS ⟨(by rw[show K++(M++[y])++l.drop (k+(q+1)-1)=K++M++l.drop (k+q-1)from by rw[show k+(q+1)-1=k+q from oO,hd2,Px];simp];exact aC kK),trivial⟩ ⟨rfl,wS,trivial⟩ trivial);rw[ah hxy];rw[aa (eO hxy)]at Ck;refine⟨q,(k+q)*32,rfl,rfl,by rw[Cj];omega,?_⟩;refine⟨_,aH (cD x),_,hr1,by rw[dy,aq,OP];show(k+q-1+1)*32=_;congr 1;omega,?_⟩;refine⟨K.length,K.length*32,rfl,rfl,by rw[Cj];omega,?_⟩;have hr2:cR (K++M++l.drop (k+q-1))=cR K++(aH (cD e)++cR (M2++x::R)):=by rw[Px,show K++M++y::x::R=K++((M++[y])++x::R)from by simp,hM2,jO,eB,rB]
   refine⟨cR K,aH (cD e),cR (M2++x::R),hr2,dy K,?_⟩;refine⟨cR (K++[x]++(M2++l.drop (k+q))),by rw[hd2];exact(show cR (K++[x]++(M2++x::R))=cR K++(aH (cD x)++cR (M2++x::R))from by rw[jO (K++[x]),jO K,Ee,bf]).symm,?_⟩;refine⟨((K.length+1:Nat):Int),(show IntKind.i64.wrap ((K.length:Int)+1)=_ from by rw[aq]at OP;rw[wrap64 oO oO];omega),?_⟩;exact nx (q+1) (iH (q+1,K++[x],M2) ⟨oO,dI,Ck,by show(K++[x]).length+M2.length=k+(q+1)-1;rw[aq];simp only[fP];omega⟩ (by show l.length-(k+(q+1))<l.length-(k+q);omega) kK ⟨aF.eq kK,aF.eq kK,aF.eq (by rw[aq];kernel_rfl),aF.eq kK,trivial⟩ ⟨(by rw[show K++[x]++M2++l.drop (k+(q+1)-1)=K++[x]++(M2++l.drop (k+q))from by rw[show k+(q+1)-1=k+q from oO,bf (K++[x])]];exact aC kK),trivial⟩ ⟨rfl,wS,trivial⟩ trivial);obtain rfl:q=l.length-k:=by have :¬(q:Int)<((l.length-k:Nat):Int):=tA;omega
   rw[show k+(l.length-k)=l.length from oO,aJ]at hK;subst hK;refine⟨(dz l).length,l.length,rfl,by rw[show(cR (dz l++M++l.drop (k+(l.length-k)-1))).length=l.length*32 from Cj],oO,?_⟩;refine⟨rfl,l.length-(dz l).length,by rw[show(cR (dz l++M++l.drop (k+(l.length-k)-1))).length=l.length*32 from Cj];congr 1;omega,_,rfl,?_⟩;have NF:(cR (dz l++M++l.drop (k+(l.length-k)-1))).take ((dz l).length*32)=cR (dz l):=by rw[bf,jO];exact Mx _ _
   refine⟨(dz l).length,l.length,rfl,by rw[show(List.take ((dz l).length*32) (cR (dz l++M++l.drop (k+(l.length-k)-1))))=cR (dz l)from NF,aq,dy,(rY _ _).1];show(dz l).length*32+(l.length-(dz l).length)*32=l.length*32;omega,oO,cR (dz l),?_,?_⟩;rw[show(List.take ((dz l).length*32) (cR (dz l++M++l.drop (k+(l.length-k)-1))))=cR (dz l)from NF,nO (by rw[dy];exact ay _),ck (by rw[dy];exact ay _)];exact kV _ _;refine dL 44 [(1,.ptr 1 0),(43,.fe 37 31 32)] [(37,cR (dz l))] kK wS oS ?_;exact⟨jo (dz l),tH,bk _,.inl rfl⟩
 refine⟨0,rfl,(λzs hz=>(tH zs hz).1),by show(0+(jo p.deps).length)*32<=_;rw[show(jo p.deps).length=p.deps.length from by simp[jo]];omega,cR p.deps,by show FV.eL _ (([]:List FV)++cR p.deps)=cR p.deps;rw[nN];exact kV _ _,?_⟩;refine dL 44 [(1,.ptr 1 0),(13,.fe 1005 31 32)] [(1,aH (cP p)),(1005,cR p.deps)] kK wS oS ?_;refine bu 44 (λx:Nat×List Dg=>[(1,.ptr 1 0),(3,.fe 1005 31 32),(15,.p (.sl (p.changes.map cC))),(16,.p (.int .i64 ((p.changes.map cC).length:Int))),(17,.p (.int .i64 x.1))]) (λx=>[(1,aH (cP p)),(1005,cR x.2)]) (λx=>x.1<=p.changes.length/\x.2=sL p x.1/\x.2.length<=100+409*x.1) (λx=>p.changes.length-x.1) (0,p.deps) ⟨zL,by show p.deps=p.deps++[];rw[aY],oO⟩ kK wS oS ?_;rintro⟨k,L⟩ ⟨hk,hL,hLl⟩;replace hk:k<=p.changes.length:=hk;replace hL:L=sL p k:=hL;replace hLl:L.length<=100+409*k:=hLl;refine bQ (l:=p.changes) (f:=cC) (λhlt=>?_) (λhge=>?_);obtain⟨q1,q7,qo⟩:=AN p.changes[k] (aK _);have BK:=GJ hlt;have iX:(p.changes.map cC)[((k:Nat):Int).toNat]?=some (cC p.changes[k]):=ct rfl hlt;generalize p.changes[k]=c at q1 q7 qo BK iX;have hrl:=JH c;rw[<-hL]at BK;refine⟨oO,_,iX,rfl,?_⟩;refine cl (yc c q1 q7 oO).dN ?_;refine bu 44 (λx:Nat×List Dg=>[(1,.ptr 1 0),(3,.fe 1005 31 32),(15,.p (.sl (p.changes.map cC))),(16,.p (.int .i64 ((p.changes.map cC).length:Int))),(17,.p (.int .i64 k)),(22,.p (.sl ((dH c).map (EG c)))),(23,.p (.int .i64 (((dH c).map (EG c)).length:Int))),(24,.p (.int .i64 x.1))]) (λx=>[(1,aH (cP p)),(1005,cR x.2)]) (λx=>x.1<=(dH c).length/\x.2=L++pS c x.1) (λx=>(dH c).length-x.1) (0,L) ⟨zL,by show L=L++[];rw[aY]⟩ kK wS ⟨aC kK,My 5 kK,trivial⟩ ?_;rintro⟨j,M⟩ ⟨hj,hM⟩;replace hj:j<=(dH c).length:=hj;replace hM:M=L++pS c j:=hM;have hMl:=FH c j;refine bQ (l:=dH c) (f:=EG c) (λdI=>?_) (λtA=>?_);have rD:=Ch dI;have vz:((dH c).map (EG c))[((j:Nat):Int).toNat]?=some (EG c (dH c)[j]):=ct rfl dI;generalize(dH c)[j]=xe at rD vz;obtain⟨x,n⟩:=xe;obtain⟨g,cap,hfn⟩:∃g cap,fnK c n=.fn (.func g) [] cap:=by unfold fnK;by_cases hn:n<254;exact⟨n,[],af hn⟩;exact⟨n,[.imp (cC c)],aa hn⟩
 replace vz:((dH c).map (EG c))[((j:Nat):Int).toNat]?=some (cI x++[fnK c n]):=vz;rw[hfn]at vz;refine⟨oO,_,vz,rfl,?_⟩;refine cl (fA x).dN ?_;refine bl ?_;replace rD:pS c (j+1)=pS c j++(if x.p=bF then[]else[x.p]):=rD;by_cases hz:x.p=bF;rw[an hz];rw[af hz,aY]at rD;exact nx (j+1) (aO (j+1,M) ⟨dI,by rw[rD];exact hM⟩ (by show(dH c).length-(j+1)<(dH c).length-j;omega) kK wS ⟨aC kK,My 7 kK,trivial⟩);rw[ah hz];rw[aa hz]at rD;refine⟨M.length,by rw[kV,kV];exact dy M,(λzs h=>by rw[aS.1 h];rfl),by show(M.length+1)*32<=_;rw[hM,aq];omega,cR (M++[x.p]),by rw[kV,kV];exact AS _ _ _,?_⟩;exact nx (j+1) (aO (j+1,M++[x.p]) ⟨dI,by rw[rD,hM,bf]⟩ (by show(dH c).length-(j+1)<(dH c).length-j;omega) kK wS oS);obtain rfl:j=(dH c).length:=oO
 have hM2:M=sL p (k+1):=by rw[BK,hM];unfold pS Eh;rw[aJ]
 exact nx (k+1) (aO (k+1,M) ⟨hlt,hM2,by show M.length<=100+409*(k+1);rw[hM,aq];omega⟩ (by show p.changes.length-(k+1)<p.changes.length-k;omega) kK wS oS);obtain rfl:k=p.changes.length:=oO
 have hLn:Ci p=L:=by rw[hL];unfold sL Ci;rw[aJ]
 rw[hLn];have hLb:L.length<=2^40:=oO
 refine .inr (.inr (An rfl rfl (bk _) (Cg _ rfl L hLb) λr ys hr=>?_));obtain⟨rfl,rfl⟩:=hr;have SR:=FE L;generalize uy L=l at SR⊢;have agS:(dz l).length<=l.length:=FG l;refine .inl ⟨_,Tryz.func282,rfl,rfl,rfl,?_⟩;refine⟨l.length,by exact dy l,?_⟩;refine az (λh2=>?_) (λh2=>?_);have h2:l.length<2:=by have :(l.length:Int)<2:=h2;omega
 have hc:dz l=l:=by
  match l,h2 with
   |[],_=>rfl
   |[_],_=>rfl
 rw[hc];refine dL 44 [(1,.ptr 1 0),(43,.fe 1005 31 32)] [(1005,cR l)] kK wS oS ?_;exact⟨jo l,tH,bk _,.inl rfl⟩;have h2:2<=l.length:=by have :¬(l.length:Int)<2:=h2;omega
 refine um 61 1000 (λk:Nat=>[(0,.fe 1005 31 32),(3,.p (.int .i64 k))]) (λ_=>[(1005,cR l)]) (λ_=>[(44,0,[(1,.ptr 1 0)])]) [] (λ_=>[]) (λk=>1<=k/\k<=l.length/\dz (l.take k)=l.take k) (λk=>l.length-k) 1 ⟨ay _,oO,by(match l,h2 with|a::l,_=>rfl)⟩ kK wS oS ⟨rfl,wS,trivial⟩ trivial ?_;rintro k ⟨sO,hk,hck⟩;refine⟨l.length,by exact dy l,?_⟩;refine az (λhlt=>?_) (λhge=>?_);rotate_left;obtain rfl:k=l.length:=by have :¬(k:Int)<(l.length:Int):=hge;omega
 rw[aJ]at hck;rw[hck];refine dL 44 [(1,.ptr 1 0),(43,.fe 1005 31 32)] [(1005,cR l)] kK wS oS ?_;exact⟨jo l,tH,bk _,.inl rfl⟩;have hlt:k<l.length:=by have :(k:Int)<(l.length:Int):=hlt;omega
 have hct:=yo (oO:0<k) hlt;have hrl:=dy l;refine cm 10 kK ?_;refine⟨k,k*32,rfl,rfl,by rw[hrl];omega,?_⟩;refine⟨_,aH (cD l[k]),_,Ef hlt,by rw[dy,aD];congr 1;omega,?_⟩;refine nx (k-1) ?_;refine⟨k-1,(k-1)*32,rfl,rfl,by rw[hrl];omega,?_⟩;refine⟨_,aH (cD l[k-1]),_,Ef (oO:k-1<l.length),by rw[dy,aD];congr 1;omega,?_⟩;refine⟨yX,dQ,lq,rfl,rfl,?_⟩;refine IQ (a:=l[k]) (b:=l[k-1]) ?_;by_cases he:l[k]=l[k-1];rotate_left;rw[ah he];rw[aa (eO he),hck,<-ec hlt]at hct;exact nx (k+1) (iH (k+1) ⟨oO,hlt,hct⟩ oO kK wS oS ⟨rfl,wS,trivial⟩ trivial);rw[an he];rw[af he.symm,hck]at hct;refine⟨k,l.length,rfl,by exact dy l,oO,?_⟩;refine um 61 1000 (λx:Nat×List Dg×List Dg=>[(0,.fe 1005 31 32),(4,.uH 1005 k 31 32),(3,.p (.int .i64 (x.2.1.length:Int))),(5,.p (.int .i64 x.1))]) (λx=>[(1005,cR (x.2.1++x.2.2++l.drop (k+x.1-1)))]) (λ_=>[(44,0,[(1,.ptr 1 0)])]) [] (λ_=>[]) (λx=>1<=x.1/\k+x.1<=l.length/\dz (l.take (k+x.1))=x.2.1/\x.2.1.length+x.2.2.length=k+x.1-1) (λx=>l.length-(k+x.1)) (1,l.take k,[]) ⟨ay _,hlt,hct,by show(l.take k).length+0=k+1-1;rw[aD];omega⟩ kK ⟨aF.eq kK,aF.eq kK,aF.eq (by rw[aD,nY hk];kernel_rfl),aF.eq kK,trivial⟩ ⟨(by rw[show l.take k++[]++l.drop (k+1-1)=l from by rw[aY,Ei,cT]];exact aC kK),trivial⟩ ⟨rfl,wS,trivial⟩ trivial ?_;rintro⟨q,K,M⟩ ⟨hq1,hq,hK,hKM⟩;replace hq:k+q<=l.length:=hq;replace hK:dz (l.take (k+q))=K:=hK;replace hKM:K.length+M.length=k+q-1:=hKM;replace hq1:1<=q:=hq1;have Cj:(cR (K++M++l.drop (k+q-1))).length=l.length*32:=by rw[dy,aq,aq,bV];congr 1;omega
 refine⟨l.length-k,by rw[show(cR (K++M++l.drop (k+q-1))).length=l.length*32 from Cj];congr 1;omega,?_⟩;refine az (λdI=>?_) (λtA=>?_);have dI:k+q<l.length:=by have :(q:Int)<((l.length-k:Nat):Int):=dI;omega
 have Ck:=yo (oO:0<k+q) dI;rw[hK]at Ck;have Px:l.drop (k+q-1)=l[k+q-1]::(l[k+q]::l.drop (k+q+1)):=by rw[bL (oO:k+q-1<l.length),show k+q-1+1=k+q from oO,bL dI]
 have hd2:l.drop (k+q)=l[k+q]::l.drop (k+q+1):=bL dI;generalize l[k+q]=x at Ck Px hd2;generalize l[k+q-1]=y at Ck Px;generalize l.drop (k+q+1)=R at Px hd2;have hr1:cR (K++M++l.drop (k+q-1))=cR (K++M++[y])++(aH (cD x)++cR R):=by rw[Px,<-rB,<-jO];simp
 have hr0:cR (K++M++l.drop (k+q-1))=cR (K++M)++(aH (cD y)++cR (x::R)):=by rw[Px,<-rB,<-jO]
 have OP:(K++M).length=k+q-1:=by rw[aq];exact hKM
 refine cm 10 kK ?_;refine⟨q,(k+q)*32,rfl,rfl,by rw[Cj];omega,?_⟩;refine⟨_,aH (cD x),_,hr1,by rw[dy,aq,OP];show(k+q-1+1)*32=_;congr 1;omega,?_⟩;refine nx (q-1) ?_;refine⟨q-1,(k+q-1)*32,rfl,by congr 1;omega,by rw[Cj];omega,?_⟩;refine⟨_,aH (cD y),_,hr0,by rw[dy,OP],?_⟩;refine⟨yX,dQ,lq,rfl,rfl,?_⟩;refine Rf (a:=x) (b:=y) ?_;obtain⟨e,M2,hM2⟩:∃e M2,M++[y]=e::M2:=by
  cases M with
  |nil=>exact⟨y,[],rfl⟩
  |cons a M=>exact⟨a,M++[y],rfl⟩
 have alU:M.length=M2.length:=by have :=aB List.length hM2;simpa using this
 by_cases hxy:x=y;rw[an hxy];rw[af hxy.symm]at Ck;exact nx (q+1) (iH (q+1,K,M++[y]) ⟨oO,dI,Ck,by show K.length+(M++[y]).length=k+(q+1)-1;rw[aq];simp only[fP];omega⟩ (by show l.length-(k+(q+1))<l.length-(k+q);omega) kK wS ⟨(by rw[show K++(M++[y])++l.drop (k+(q+1)-1)=K++M++l.drop (k+q-1)from by rw[show k+(q+1)-1=k+q from oO,hd2,Px];simp];exact aC kK),trivial⟩ ⟨rfl,wS,trivial⟩ trivial);rw[ah hxy];rw[aa (eO hxy)]at Ck;refine⟨q,(k+q)*32,rfl,rfl,by rw[Cj];omega,?_⟩;refine⟨_,aH (cD x),_,hr1,by rw[dy,aq,OP];show(k+q-1+1)*32=_;congr 1;omega,?_⟩;refine⟨K.length,K.length*32,rfl,rfl,by rw[Cj];omega,?_⟩;have hr2:cR (K++M++l.drop (k+q-1))=cR K++(aH (cD e)++cR (M2++x::R)):=by rw[Px,show K++M++y::x::R=K++((M++[y])++x::R)from by simp,hM2,jO,eB,rB]
 refine⟨cR K,aH (cD e),cR (M2++x::R),hr2,dy K,?_⟩;refine⟨cR (K++[x]++(M2++l.drop (k+q))),by rw[hd2];exact(show cR (K++[x]++(M2++x::R))=cR K++(aH (cD x)++cR (M2++x::R))from by rw[jO (K++[x]),jO K,Ee,bf]).symm,?_⟩;refine⟨((K.length+1:Nat):Int),(show IntKind.i64.wrap ((K.length:Int)+1)=_ from by rw[aq]at OP;rw[wrap64 oO oO];omega),?_⟩;exact nx (q+1) (iH (q+1,K++[x],M2) ⟨oO,dI,Ck,by show(K++[x]).length+M2.length=k+(q+1)-1;rw[aq];simp only[fP];omega⟩ (by show l.length-(k+(q+1))<l.length-(k+q);omega) kK ⟨aF.eq kK,aF.eq kK,aF.eq (by rw[aq];kernel_rfl),aF.eq kK,trivial⟩ ⟨(by rw[show K++[x]++M2++l.drop (k+(q+1)-1)=K++[x]++(M2++l.drop (k+q))from by rw[show k+(q+1)-1=k+q from oO,bf (K++[x])]];exact aC kK),trivial⟩ ⟨rfl,wS,trivial⟩ trivial);obtain rfl:q=l.length-k:=by have :¬(q:Int)<((l.length-k:Nat):Int):=tA;omega
 rw[show k+(l.length-k)=l.length from oO,aJ]at hK;subst hK;refine⟨(dz l).length,l.length,rfl,by rw[show(cR (dz l++M++l.drop (k+(l.length-k)-1))).length=l.length*32 from Cj],oO,?_⟩;refine⟨rfl,l.length-(dz l).length,by rw[show(cR (dz l++M++l.drop (k+(l.length-k)-1))).length=l.length*32 from Cj];congr 1;omega,_,rfl,?_⟩;have NF:(cR (dz l++M++l.drop (k+(l.length-k)-1))).take ((dz l).length*32)=cR (dz l):=by rw[bf,jO];exact Mx _ _
 refine⟨(dz l).length,l.length,rfl,by rw[show(List.take ((dz l).length*32) (cR (dz l++M++l.drop (k+(l.length-k)-1))))=cR (dz l)from NF,aq,dy,(rY _ _).1];show(dz l).length*32+(l.length-(dz l).length)*32=l.length*32;omega,oO,cR (dz l),?_,?_⟩;rw[show(List.take ((dz l).length*32) (cR (dz l++M++l.drop (k+(l.length-k)-1))))=cR (dz l)from NF,nO (by rw[dy];exact ay _),ck (by rw[dy];exact ay _)];exact kV _ _;refine dL 44 [(1,.ptr 1 0),(43,.fe 1005 31 32)] [(1005,cR (dz l))] kK wS oS ?_;exact⟨jo (dz l),tH,bk _,.inl rfl⟩
theorem Sj {c:eG}(h:dc c=0){d:Dg}(hd:d≠bF):(∃x,x∈refsOf c/\x.p=d)↔∃e,e∈dH c/\e.1.p=d:=by
 obtain⟨g1,g2,-,-,g5,-⟩:=gw h;have hz:∀x:bg,x=aU->x.p≠d:=λx e q=>hd (by rw[<-q,e];rfl);have hr:∀x:bg,x=qK->x.p≠d:=λx e q=>hd (by rw[<-q,e];rfl);simp only[bI,aW,decide_eq_true_eq]at g5;obtain⟨e1,-,e3,-,-,-,e7,e8,-,e10⟩:=g5;have AN:(∃e:bg×Nat,e∈(c.over.map λx=>((x,255):bg×Nat))/\e.1.p=d)↔∃x,x∈c.over/\x.p=d:=by constructor;rintro⟨e,he,hp⟩;obtain⟨x,hx,rfl⟩:=aI.1 he;exact⟨x,hx,hp⟩;rintro⟨x,hx,hp⟩;exact⟨(x,255),aI.2 ⟨x,hx,rfl⟩,hp⟩
 have hL:(∃x,x∈refsOf c/\x.p=d)↔c.file.p=d\/c.parent.p=d\/c.dm.p=d\/c.dG.p=d\/∃x,x∈c.over/\x.p=d:=by unfold refsOf;constructor;rintro⟨x,hx,hp⟩;rcases bh.1 hx with hx|hx;simp only[aQ,gr,or_false]at hx;rcases hx with rfl|rfl|rfl|rfl;exact .inl hp;exact .inr (.inl hp);exact .inr (.inr (.inl hp));exact .inr (.inr (.inr (.inl hp)));exact .inr (.inr (.inr (.inr ⟨x,hx,hp⟩)));rintro(hp|hp|hp|hp|⟨x,hx,hp⟩);exact⟨_,by simp,hp⟩;exact⟨c.parent,by simp,hp⟩;exact⟨c.dm,by simp,hp⟩;exact⟨c.dG,by simp,hp⟩;exact⟨x,bh.2 (.inr hx),hp⟩
 rw[hL,<-AN];have app:∀A B:List (bg×Nat),(∃e,e∈A++B/\e.1.p=d)↔(∃e,e∈A/\e.1.p=d)\/∃e,e∈B/\e.1.p=d:=λA B=>by constructor;rintro⟨e,he,hp⟩;rcases bh.1 he with he|he;exact .inl ⟨e,he,hp⟩;exact .inr ⟨e,he,hp⟩;rintro(⟨e,he,hp⟩|⟨e,he,hp⟩);exact⟨e,bh.2 (.inl he),hp⟩;exact⟨e,bh.2 (.inr he),hp⟩
 unfold dH;rw[app,app,app];have ach:c.file.p=d↔∃e,e∈(if 2<=c.kind/\c.kind<=6 then[(c.file,if c.kind<=3 then 250 else if c.kind=4 then 251 else 252)]else([]:List (bg×Nat)))/\e.1.p=d:=by
  by_cases hk:2<=c.kind/\c.kind<=6;rw[af hk];simp;rw[aa hk];have hf:c.file=aU:=by
   have :c.kind=1\/c.kind=7:=oO
   rcases this with q|q;rw[BW c q]at e1;exact e1;rw[Fs c q]at e1;exact e1
  exact⟨λq=>absurd q (hz _ hf),λ⟨e,he,_⟩=>by cases he⟩
 have hpar:c.parent.p=d↔∃e,e∈(if c.kind=2/\c.parent≠qK then[(c.parent,253)]else([]:List (bg×Nat)))/\e.1.p=d:=by
  by_cases hk:c.kind=2/\c.parent≠qK;rw[af hk];simp;rw[aa hk];refine⟨λq=>?_,λ⟨e,he,_⟩=>by cases he⟩;by_cases q2:c.kind=2;exact absurd q (hr _ (fE.1 λq3=>hk ⟨q2,q3⟩));have hf:c.parent=aU:=by
   have :c.kind=1\/c.kind=3\/c.kind=4\/c.kind=5\/c.kind=6\/c.kind=7:=oO
   rcases this with q|q|q|q|q|q;rw[BW c q]at e3;exact e3;rw[Oh c q]at e3;exact e3;rw[Jb c q]at e3;exact e3;rw[Oi c q]at e3;exact e3;rw[Oj c q]at e3;exact e3;rw[Fs c q]at e3;exact e3
  exact absurd q (hz _ hf)
 have ajO:(c.dm.p=d\/c.dG.p=d)↔∃e,e∈(if gM c.kind=true then[(c.dm,254),(c.dG,254)]else([]:List (bg×Nat)))/\e.1.p=d:=by
  by_cases hk:gM c.kind=true;rw[af hk];constructor;rintro(q|q);exact⟨(c.dm,254),by simp,q⟩;exact⟨(c.dG,254),by simp,q⟩;rintro⟨e,he,q⟩;simp only[aQ,gr,or_false]at he;rcases he with rfl|rfl;exact .inl q;exact .inr q;rw[aa hk];have h56:¬c.kind=5/\¬c.kind=6:=by constructor<;>intro q<;>exact hk (by simp[gM,q])
  have hf:c.dm=aU/\c.dG=aU:=by
   have :c.kind=1\/c.kind=2\/c.kind=3\/c.kind=4\/c.kind=7:=oO
   rcases this with q|q|q|q|q;rw[BW c q]at e7 e8;exact⟨e7,e8⟩;rw[Og c q]at e7 e8;exact⟨e7,e8⟩;rw[Oh c q]at e7 e8;exact⟨e7,e8⟩;rw[Jb c q]at e7 e8;exact⟨e7,e8⟩;rw[Fs c q]at e7 e8;exact⟨e7,e8⟩
  exact⟨λq=>q.elim (λq=>absurd q (hz _ hf.1)) (λq=>absurd q (hz _ hf.2)),λ⟨e,he,_⟩=>by cases he⟩
 rw[<-ach,<-hpar,<-ajO];constructor;rintro(q|q|q|q|q);exact .inl q;exact .inr (.inl q);exact .inr (.inr (.inl (.inl q)));exact .inr (.inr (.inl (.inr q)));exact .inr (.inr (.inr q));rintro(q|q|(q|q)|q);exact .inl q;exact .inr (.inl q);exact .inr (.inr (.inl q));exact .inr (.inr (.inr (.inl q)));exact .inr (.inr (.inr (.inr q)))
theorem AX {d:Dg}:∀{l:List bg}{acc:List Dg},d∈l.foldl xU acc↔d∈acc\/(d≠bF/\∃x,x∈l/\x.p=d)
 |[],acc=>by simp
 |x::l,acc=>by have ih:=AX (d:=d) (l:=l) (acc:=xU acc x);rw[eR,ih];unfold xU;by_cases hx:x.p=bF;rw[af hx];constructor;rintro(h|⟨h,y,hy,e⟩);exact .inl h;exact .inr ⟨h,y,bq _ hy,e⟩;rintro(h|⟨h,y,hy,e⟩);exact .inl h;rcases aQ.1 hy with rfl|hy;exact absurd (e.symm.trans hx) h;exact .inr ⟨h,y,hy,e⟩;rw[aa hx,JD];constructor;rintro((rfl|h)|⟨h,y,hy,e⟩);exact .inr ⟨hx,x,by simp,rfl⟩;exact .inl h;exact .inr ⟨h,y,bq _ hy,e⟩;rintro(h|⟨h,y,hy,e⟩);exact .inl (.inr h);rcases aQ.1 hy with rfl|hy;exact .inl (.inl e.symm);exact .inr ⟨h,y,hy,e⟩
theorem acM {p:ga}(h:KD p):dz (uy (Ci p))=cw p:=by
 refine RZ (FD (Uw _)) (FJ p) λd=>?_;rw[AR,Mu];unfold cw Ci;rw[aa (λg=>g h.ok),bh,AX,FB];have he:=h.Yy.each;have hc:(∃c,c∈p.changes/\d∈Eh c)↔d≠bF/\∃x,x∈p.changes.flatMap refsOf/\x.p=d:=by
  constructor;rintro⟨c,hc,hd⟩;unfold Eh at hd;obtain⟨h1,h2⟩:=hU.1 hd;obtain⟨e,h3,h4⟩:=aI.1 h1;have hz:d≠bF:=by simpa using h2
  obtain⟨x,h5,h6⟩:=(Sj (he c hc) hz).2 ⟨e,h3,h4⟩;exact⟨hz,x,cV.2 ⟨c,hc,h5⟩,h6⟩;rintro⟨hz,x,hx,hp⟩;obtain⟨c,hc,hx⟩:=cV.1 hx;obtain⟨e,h3,h4⟩:=(Sj (he c hc) hz).1 ⟨x,hx,hp⟩;refine⟨c,hc,?_⟩;unfold Eh;exact hU.2 ⟨aI.2 ⟨e,h3,h4⟩,by simpa using hz⟩
 rw[cV,<-hc];simp
theorem find_congr {α:Type}{f g:α->Bool}:∀{l:List α},(∀x,x∈l->f x=g x)->l.find? f=l.find? g|[],_=>rfl|x::l,h=>by rw[mw,mw,h x (by simp),find_congr λy hy=>h y (bq _ hy)]
theorem acN {N:ga->List Dg}{x:bO}(h:N x.pat=cw x.pat)(out:List Dg):Em N out x=qL out x:=by unfold Em qL sn;rw[h];congr 1;rw[mj];simp
theorem WM {N:ga->List Dg}{s:List bO}(h:∀x,x∈s->N x.pat=cw x.pat):∀(n:Nat)(out:List Dg),Ho N s n out=uz s n out
 |0,_=>rfl
 |n+1,out=>by
  unfold Ho uz;rw[find_congr λx hx=>acN (h x hx) out];cases s.find? (qL out)with
  |none=>rfl
  |some x=>exact WM h n _
theorem UM {N:ga->List Dg}{s:List bO}(h:∀x,x∈s->N x.pat=cw x.pat)(hA:oD s):Ho N s s.length []=bA s:=by rw[WM h,En hA];rfl
inductive Reach (s:List bO)(p:Dg):Dg->Prop where|self:Reach s p p|step {d e:Dg}:Reach s p d->e∈kY s d->Reach s p e
theorem tV {s:List bO}{out:List Dg}{d:Dg}:d∈acK s out↔(∃e,e∈out/\d∈kY s e)\/d∈out:=by unfold acK;rw[FB,cV]
theorem Cn {s:List bO}{p:Dg}:∀(n:Nat){d:Dg},d∈kW s n [p]->Reach s p d
 |0,d,h=>by rw[aS.1 h];exact .self
 |n+1,d,h=>by rcases tV.1 h with⟨e,he,hd⟩|h;exact .step (Cn n he) hd;exact Cn n h
def Ep (s:List bO)(out:List Dg):Prop:=∀e,e∈out->∀d,d∈kY s e->d∈out
theorem MC {s:List bO}{p:Dg}(hc:∀x,x∈s->∀d,d∈cw x.pat->d∈dx s)(hA:oD s)(hp:p∈dx s):∀n:Nat,Ep s (kW s n [p])\/n+1<=(kW s n [p]).length
 |0=>.inr (ay _)
 |n+1=>by
  have inv:=rG hc hA (mA (λa b=>eY a b<0) p) (λd hd=>by rw[aS.1 hd];exact hp) n;by_cases h:Ep s (kW s n [p]);refine .inl λe he d hd=>?_;have he:e∈kW s n [p]:=by rcases tV.1 he with⟨e',he',hd'⟩|he;exact h e' he' e hd';exact he
  exact tV.2 (.inr (h e he d hd));right;have hlen:n+1<=(kW s n [p]).length:=(MC hc hA hp n).resolve_left h;obtain⟨e,he⟩:=Classical.not_forall.1 h;obtain⟨he,hd⟩:=Classical.not_imp.1 he;obtain⟨d,hd⟩:=Classical.not_forall.1 hd;obtain⟨hd,hn⟩:=Classical.not_imp.1 hd;have KQ:(d::kW s n [p]).Nodup:=kD.2 ⟨hn,inv.1.imp λ{a b} h e=>by subst e;exact kP a h⟩;have :=sv KQ (m:=kW s (n+1) [p]) λx hx=>by rcases aQ.1 hx with rfl|hx;exact tV.2 (.inl ⟨e,he,hd⟩);exact tV.2 (.inr hx)
  rw[aL]at this;omega
theorem ME {s:List bO}{p:Dg}:∀n:Nat,p∈kW s n [p]
 |0=>by simp[kW]
 |n+1=>tV.2 (.inr (ME n))
theorem YG {s:List bO}{p:Dg}(hc:∀x,x∈s->∀d,d∈cw x.pat->d∈dx s)(hA:oD s)(hp:p∈dx s)(d:Dg):d∈JM s p↔Reach s p d:=by
 refine⟨Cn _,λh=>?_⟩;have inv:=rG hc hA (mA (λa b=>eY a b<0) p) (λd hd=>by rw[aS.1 hd];exact hp) s.length;have jH:Ep s (JM s p):=(MC hc hA hp s.length).resolve_right λh=>by have :=wE inv.1 inv.2;omega
 induction h with
 |self=>exact ME _
 |step _ hd ih=>exact jH _ ih _ hd
theorem UN {N:ga->List Dg}{s:List bO}(h:∀x,x∈s->N x.pat=cw x.pat)(hA:oD s){d:Dg}(hd:d∈dx s):nh N s d=kY s d:=by obtain⟨x,hx,rfl⟩:=aI.1 hd;unfold nh kY;rw[HH (OR hA) hx,nH hA hx];exact h x hx
theorem FL {N:ga->List Dg}{s:List bO}(h:∀x,x∈s->N x.pat=cw x.pat)(hA:oD s)(hc:∀x,x∈s->∀d,d∈cw x.pat->d∈dx s){p:Dg}:∀(n i:Nat)(out:List Dg),out.Nodup->(∀d,d∈out->d∈dx s)->(∀d,d∈out->Reach s p d)->p∈out->s.length<=n+i->(∀(k:Nat)(hk:k<out.length),k<i->∀d,d∈kY s out[k]->d∈out)->(∀d,d∈pn N s n i out->Reach s p d)/\p∈pn N s n i out/\Ep s (pn N s n i out)/\(pn N s n i out).length<=s.length
 |n,i,out,h1,h2,h3,h4,h5,h6=>by
  have hlen:out.length<=s.length:=by have :=sv h1 h2;rwa[dx,aj]at this
  have done:out.length<=i->(∀d,d∈out->Reach s p d)/\p∈out/\Ep s out/\out.length<=s.length:=λhi=>⟨h3,h4,λe he d hd=>by obtain⟨k,hk,rfl⟩:=gz he;exact h6 k hk oO d hd,hlen⟩;cases n with
  |zero=>exact done oO
  |succ n=>
   unfold pn;by_cases hi:i<out.length;rw[dif_pos hi];have hm:=aK hi;have KQ:=UN h hA (h2 _ hm);rw[KQ];obtain⟨t,ht⟩:=Sh (kY s out[i]) out;have hmem:∀d,d∈vB out (kY s out[i])->d∈kY s out[i]\/d∈out:=λd hd=>wD.1 hd;refine FL h hA hc n (i+1) _ (Cm h1) (λd hd=>?_) (λd hd=>?_) (wD.2 (.inr h4)) oO (λk hk hki d hd=>?_);rcases hmem d hd with q|q;exact AW hc hA (h2 _ hm) d q;exact h2 d q;rcases hmem d hd with q|q;exact .step (h3 _ hm) q;exact h3 d q;have hko:k<out.length:=oO
   have e:(vB out (kY s out[i]))[k]=out[k]:=by have :(out++t)[k]'(by rw[aq];omega)=out[k]:=yh hko;rw[<-this];congr 1
   rw[e]at hd;by_cases hk2:k=i;subst hk2;exact wD.2 (.inl hd);exact wD.2 (.inr (h6 k hko oO d hd));rw[dif_neg hi];exact done oO
theorem UO {N:ga->List Dg}{s:List bO}(h:∀x,x∈s->N x.pat=cw x.pat)(hA:oD s)(hc:∀x,x∈s->∀d,d∈cw x.pat->d∈dx s){p:Dg}(hp:p∈dx s)(d:Dg):d∈qz N s p↔d∈JM s p:=by
 obtain⟨a,b,c,-⟩:=FL h hA hc (p:=p) s.length 0 [p] (by simp) (λd hd=>by rw[aS.1 hd];exact hp) (λd hd=>by rw[aS.1 hd];exact .self) (by simp) oO (λk _ hk=>absurd hk (ia _));rw[YG hc hA hp];refine⟨a d,λhr=>?_⟩;induction hr with
 |self=>exact b
 |step _ hd ih=>exact c _ ih _ hd
theorem MF {s:List bO}(hA:oD s):∀(n:Nat)(out:List Dg),(∀x,x∈s->x.id∈out->x.id∉cw x.pat)->∀x,x∈s->x.id∈uz s n out->x.id∉cw x.pat
 |0,out,h=>h
 |n+1,out,h=>by
  unfold uz;cases hf:s.find? (qL out)with
  |none=>exact h
  |some y=>refine MF hA n _ λx hx hm=>?_;rcases bh.1 hm with hm|hm;exact h x hx hm;have hy:=oq hf;have hn:=mz hf;obtain rfl:=JK hA hx hy (aS.1 hm);unfold qL at hn;simp only[aW,eC,decide_eq_false_iff_not,sn,bY,decide_eq_true_eq]at hn;exactλg=>hn.1 (hn.2 _ g)
theorem afz {s:List bO}(h:OkS s){x:bO}(hx:x∈s):x.id∉cw x.pat:=by refine MF h.EH s.length [] (λy _ hm=>by cases hm) x hx ?_;rw[En h.EH];exact(rF h x.id).2 (aI.2 ⟨x,hx,rfl⟩)
theorem MG:∀(l:List eG)(own:List bD),OG own->(ic l own).2=0->OG (ic l own).1|[],own,h,_=>h|c::l,own,hn,h=>by rw[jM]at h⊢;by_cases h1:dc c≠0;rw[af h1]at h;exact absurd h h1;rw[aa h1]at h⊢;by_cases h2:mY c own≠0;rw[af h2]at h;exact absurd h h2;rw[aa h2]at h⊢;exact MG l _ (RR hn c) h
theorem JN {p:ga}(h:KD p):OG (dw p).1:=by rw[h.Yy.all];refine MG _ _ (λn hn=>absurd hn (ia _)) ?_;rw[<-h.Yy.all];exact h.ZU
theorem MH:∀{l:List bg},yS l=true->Hj l|[],_=>List.Pairwise.nil|[_],_=>mA _ _|a::b::r,h=>by rw[yS,aW,decide_eq_true_eq]at h;have ih:=MH h.2;refine dZ.2 ⟨λx hx=>?_,ih⟩;rcases aQ.1 hx with rfl|hx;exact h.1;exact rA h.1 ((dZ.1 ih).1 x hx)
theorem UP {c:eG}(h:dc c=0)(h5:c.kind≠5):yS c.over=true:=by
 unfold dc at h;by_cases h1:c.kind<1\/7<c.kind;rw[af h1]at h;exact absurd h dD;rw[aa h1]at h;by_cases h2:bI (eD c)=false;rw[af h2]at h;exact absurd h dD;rw[aa h2]at h;by_cases h3:c.kind=1/\(c.type<1\/4<c.type);rw[af h3]at h;exact absurd h dD;rw[aa h3]at h;by_cases h4:c.kind=2/\iC c.name=false;rw[af h4]at h;exact absurd h dD;rw[aa h4]at h;by_cases h6:c.kind=3/\(c.mode<0\/511<c.mode);rw[af h6]at h;exact absurd h dD;rw[aa h6]at h;by_cases h7:65536<c.data.length;rw[af h7]at h;exact absurd h dD;rw[aa h7,aa h5]at h;by_cases h8:c.kind=7/\c.over.length=0;rw[af h8]at h;exact absurd h dD;rw[aa h8]at h;by_cases h9:400<c.over.length;rw[af h9]at h;exact absurd h dD;rw[aa h9]at h;cases ha:yS c.over with
 |true=>rfl
 |false=>rw[ha,af rfl]at h;exact absurd h dD
theorem Sk {c:eG}(h:dc c=0)(f:Nat):∀a,a∈fc c f->a.over=[]\/(a.over=c.over/\c.kind≠5):=by
 intro a ha;unfold fc at ha;by_cases e:c.kind=5;rw[af e]at ha;rcases bh.1 ha with ha|ha;obtain⟨i,-,rfl⟩:=aI.1 ha;exact .inl rfl;obtain⟨i,-,rfl⟩:=aI.1 ha;exact .inl rfl;rw[aa e]at ha;obtain rfl:=aS.1 ha;unfold od;repeat' split
 all_goals first|exact .inr ⟨rfl,e⟩|exact .inl rfl
theorem MI:∀(l:List eG)(own:List bD),(ic l own).2=0->∀a,a∈(ic l own).1->a∈own\/a.over=[]\/∃c,c∈l/\a.over=c.over/\yS c.over=true|[],own,_,a,ha=>.inl ha|c::l,own,h,a,ha=>by rw[jM]at h ha;by_cases h1:dc c≠0;rw[af h1]at h;exact absurd h h1;rw[aa h1]at h ha;by_cases h2:mY c own≠0;rw[af h2]at h;exact absurd h h2;rw[aa h2]at h ha;have h1:dc c=0:=fE.1 h1;rcases MI l _ h a ha with q|q|⟨c',hc',q⟩;rcases bh.1 q with q|q;exact .inl q;rcases Sk h1 _ a q with q|⟨q,h5⟩;exact .inr (.inl q);exact .inr (.inr ⟨c,by simp,q,UP h1 h5⟩);exact .inr (.inl q);exact .inr (.inr ⟨c',bq _ hc',q⟩)
theorem MJ {α β:Type}{f:α->β}:∀{l:List α},l.Nodup->(∀x y,x∈l->y∈l->f x=f y->x=y)->(l.map f).Nodup|[],_,_=>qy|x::l,h,hi=>by rw[kD]at h;rw[cS,kD];refine⟨λhm=>?_,MJ h.2 λa b ha hb=>hi a b (bq _ ha) (bq _ hb)⟩;obtain⟨y,hy,e⟩:=aI.1 hm;have :=hi y x (bq _ hy) (by simp) e;subst this;exact h.1 hy
theorem UQ {p:ga}(h:KD p){d:Dg}(hd:d∉cw p):∀a,a∈(dw p).1->(a.over.map λx=>cr x d).Nodup:=by
 intro a ha;have hz:(ic p.changes []).2=0:=by rw[<-h.Yy.all];exact h.ZU
 rw[h.Yy.all]at ha;rcases MI _ _ hz a ha with q|q|⟨c,hc,q,alY⟩;cases q;rw[q];exact qy;rw[q];have hn:∀x,x∈c.over->x.p≠bF->x.p∈cw p:=λx hx hp=>by unfold cw;rw[aa (λg=>g h.ok)];exact AX.2 (.inr ⟨hp,x,cV.2 ⟨c,hc,by unfold refsOf;exact bh.2 (.inr hx)⟩,rfl⟩)
 refine MJ ((MH alY).imp λ{a b} h e=>by subst e;exact su a h) λx y hx hy e=>?_;have mixed:∀x y:bg,x∈c.over->¬(x.p=bF/\0<=x.n)->0<=y.n->x≠⟨d,y.n⟩:=λx y hx h1 h2 e=>by
  have hp:x.p=d:=by rw[e]
  have hnn:x.n=y.n:=by rw[e]
  have :x.p≠bF:=λg=>h1 ⟨g,by rw[hnn];exact h2⟩;exact hd (hp▸hn x hx this)
 unfold cr at e;by_cases h1:x.p=bF/\0<=x.n;rw[af h1]at e;by_cases h2:y.p=bF/\0<=y.n;rw[af h2]at e;injection e with _ e;cases x;cases y;simp_all;rw[aa h2]at e;exact absurd e.symm (mixed y x hy h2 h1.2);rw[aa h1]at e;by_cases h2:y.p=bF/\0<=y.n;rw[af h2]at e;exact absurd e (mixed x y hx h1 h2.2);rw[aa h2]at e;exact e
structure oE (s:List bO):Prop where
 fit:qH s
 ok:OkS s
 q:∀x,x∈s->KD x.pat
theorem oE.nodup {s:List bO}(h:oE s):(s.map λx=>x.id).Nodup:=OR h.ok.EH
theorem oE.idE {s:List bO}(h:oE s){x:bO}(hx:x∈s):oe x.pat=(x.id,0):=h.ok.id x hx
theorem oE.Sn {s:List bO}(h:oE s){x:bO}(hx:x∈s):(cw x.pat).length<=s.length:=wE (FJ _) (h.ok.GL x hx)
theorem WO {s:List bO}(h:oE s):El cw s:=λx hx=>by have :=Sb (h.q x hx);rwa[acM (h.q x hx)]at this
theorem YN {s:List bO}(h:oE s):ak C 179 [.sl (cn s)] (λr=>r=.val (.sl (jo (bA s)))):=by have hl:=h.ok.OK;have :=Sg cw s (WO h) h.nodup oO (λx hx=>by have :=h.Sn hx;omega);rwa[UM (λ_ _=>rfl) h.ok.EH]at this
theorem YO {s:List bO}(h:oE s){p:Dg}(hp:p∈dx s)(q:Dg):ak C 126 [.sl (cn s),.agg (cD p),.agg (cD q)] (λr=>r=.val (.bool (je s p q))):=by
 have hl:=h.ok.OK;have hlen:(qz cw s p).length<=s.length:=(FL (λ_ _=>rfl) h.ok.EH h.ok.GL (p:=p) s.length 0 [p] (by simp) (λd hd=>by rw[aS.1 hd];exact hp) (λd hd=>by rw[aS.1 hd];exact .self) (by simp) oO (λk _ hk=>absurd hk (ia _))).2.2.2;have :=Si cw s p q (WO h) hp h.nodup h.ok.GL oO (λx hx=>by have :=h.Sn hx;omega) oO;have e:decide (q∈qz cw s p)=je s p q:=by unfold je;rw[mj,aW,decide_eq_true_eq,decide_eq_true_eq,decide_eq_true_eq,UO (λ_ _=>rfl) h.ok.EH h.ok.GL hp];refine⟨λg=>⟨?_,g⟩,λg=>g.2⟩;exact(rG h.ok.GL h.ok.EH (mA (λa b=>eY a b<0) p) (λd hd=>by rw[aS.1 hd];exact hp) s.length).2 q g
 rwa[e]at this
def wH (p:ga):List bD:=(dJ p).1
theorem FM {p:ga}(h:KD p):wH p=(dw p).1.map (fU (oe p).1):=by unfold wH dJ;rw[aa (show¬(oe p).2≠0 by rw[Uu h.ok];simp)]
theorem OT {s:List bO}(h:oE s):WN wH s:=λx hx=>by
 have hd:(oe x.pat).1∉cw x.pat:=by rw[h.idE hx];exact afz h.ok hx
 rw[FM (h.q x hx)];exact UC (h.q x hx) (UQ (h.q x hx) hd) (JN (h.q x hx))
theorem acP (d:Dg)(a:bD):(fU d a).id=⟨d,a.id.n⟩:=by
 unfold fU Zy KC KB st2 st1;repeat' split
 all_goals rfl
theorem Es {α β:Type}{f:α->β}{l:List β}{m:List α}(e:l=m.map f)(n:Nat)(h1:n<l.length)(h2:n<m.length):l[n]=f m[n]:=by subst e;exact xT _
theorem WQ {s:List bO}(h:oE s){x:bO}(hx:x∈s)(n:Nat)(hn:n<(wH x.pat).length):n<(dw x.pat).1.length:=by have e:=FM (h.q x hx);rw[e,aj]at hn;exact hn
theorem afA {s:List bO}(h:oE s){x:bO}(hx:x∈s)(n:Nat)(a b:bD)(h1:a=fU (oe x.pat).1 b)(h2:b.id=⟨bF,(n:Int)⟩):a.id=⟨x.id,(n:Int)⟩:=by have h3:=h.idE hx;rw[h1,acP,h2,h3]
theorem rH {s:List bO}(h:oE s){x:bO}(hx:x∈s)(n:Nat)(hn:n<(wH x.pat).length):(wH x.pat)[n].id=⟨x.id,(n:Int)⟩:=afA h hx n _ _ (Es (FM (h.q x hx)) n hn (WQ h hx n hn)) (JN (h.q x hx) n (WQ h hx n hn))
theorem JP {α β:Type}{f g:α->List β}:∀{l:List α},(∀x,x∈l->f x=g x)->l.flatMap f=l.flatMap g|[],_=>rfl|x::l,h=>by rw[tJ,tJ,h x (by simp),JP λy hy=>h y (bq _ hy)]
theorem HI {s:List bO}(hA:oD s):cz s=wG wH s:=by
 unfold cz fL dx wG;rw[List.flatMap_map];refine JP λx hx=>?_;have hg1:(gh s x.id).1=x.pat:=by rw[nH hA hx]
 unfold wH;rw[hg1]
theorem YP {d:Dg}{i j:Int}(h:i<j):gN ⟨d,i⟩ ⟨d,j⟩<0:=by unfold gN;rw[FA,aa dD,af h];decide
theorem YQ {x y:bg}(h:eY x.p y.p<0):gN x y<0:=by unfold gN;rw[af oO];exact h
theorem MK {s:List bO}(h:oE s):(wG wH s).Pairwise λa b=>gN a.id b.id<0:=by unfold wG;rw[List.pairwise_flatMap];refine⟨λx hx=>?_,?_⟩;rw[tI];intro i j hi hj hij;rw[rH h hx i hi,rH h hx j hj];exact YP oO;refine List.Pairwise.imp_of_mem (λ{x y} hx hy hxy=>?_) h.ok.EH;intro a ha b hb;obtain⟨i,hi,rfl⟩:=gz ha;obtain⟨j,hj,rfl⟩:=gz hb;rw[rH h hx i hi,rH h hy j hj];exact YQ hxy
theorem YR {s:List bO}(h:oE s):Sm (wG wH s):=λi j hi hj=>tI.1 (MK h) i j oO hj hi
theorem FN:∀{l:List bD}{x:bg},pQ l x=(match l.find? λa=>decide (a.id=x)with|none=>(ef,false)|some a=>(a,true))|[],_=>rfl|a::l,x=>by unfold pQ;rw[mw];by_cases e:a.id=x;rw[af e,an e];rw[aa e,ah e];exact FN
theorem acQ {s:List bO}(h:oE s)(x:bg):JO wH s x=pQ (cz s) x:=by
 rw[HI h.ok.EH,FN];have key:∀l:List bO,(∀y,y∈l->y∈s)->(wG wH l).find? (λa=>decide (a.id=x))=match l.find? λy=>decide (y.id=x.p)with|none=>none|some y=>(wG wH l).find? (λa=>decide (a.id=x)):=λl hl=>by
  cases hf:l.find? (λy=>decide (y.id=x.p))with
  |some y=>rfl
  |none=>rw[oo];intro a ha;obtain⟨y,hy,ha⟩:=cV.1 ha;obtain⟨n,hn,rfl⟩:=gz ha;rw[oo]at hf;have h1:=hf y hy;rw[rH h (hl y hy) n hn];intro g;refine h1 ?_;rw[decide_eq_true_eq]at g⊢;rw[<-g]
 unfold JO;cases hf:s.find? (λy=>decide (y.id=x.p))with
 |none=>have :=key s λ_ q=>q;rw[hf]at this;rw[this]
 |some y=>
  have hy:=oq hf;have hyx:y.id=x.p:=by have :=mz hf;simpa using this
  have :(wG wH s).find? (λa=>decide (a.id=x))=(wH y.pat).find? λa=>decide (a.id=x):=by
   have go:∀l:List bO,(∀z,z∈l->z∈s)->y∈l->(wG wH l).find? (λa=>decide (a.id=x))=(wH y.pat).find? λa=>decide (a.id=x):=λl=>by
    induction l with
    |nil=>intro _ h;cases h
    |cons z l ih=>
     intro hl hm;show((wH z.pat)++wG wH l).find? _=_;rw[List.find?_append];by_cases hz:z=y;subst hz;cases hg:(wH z.pat).find? (λa=>decide (a.id=x))with
     |some a=>rfl
     |none=>rw[Option.none_or];by_cases hm2:z∈l;exact(ih (λw hw=>hl w (bq _ hw)) hm2).trans hg;rw[oo];intro a ha;obtain⟨w,hw,ha⟩:=cV.1 ha;obtain⟨n,hn,rfl⟩:=gz ha;rw[rH h (hl w (bq _ hw)) n hn];intro g;rw[decide_eq_true_eq]at g;have :w=z:=JK h.ok.EH (hl w (bq _ hw)) hy (by rw[hyx,<-g]);exact hm2 (this▸hw)
     have hm2:y∈l:=(aQ.1 hm).resolve_left λe=>hz e.symm;have hno:(wH z.pat).find? (λa=>decide (a.id=x))=none:=by rw[oo];intro a ha;obtain⟨n,hn,rfl⟩:=gz ha;rw[rH h (hl z (by simp)) n hn];intro g;rw[decide_eq_true_eq]at g;exact hz (JK h.ok.EH (hl z (by simp)) hy (by rw[hyx,<-g]))
     rw[hno,Option.none_or];exact ih (λw hw=>hl w (bq _ hw)) hm2
   exact go s (λ_ q=>q) hy
  rw[this];rfl
theorem OU {s:List bO}(x:bO):(wH x.pat).length<=2^22:=by unfold wH dJ;split;exact zL;rw[aj];exact(kG _).1
theorem Sq {s:List bO}(h:oE s)(x:bg):ak C 58 [.sl (cn s),.agg (cI x)] (λr=>r=.val (.eV [.agg (cA (pQ (cz s) x).1),.bool (pQ (cz s) x).2])):=by have hl:=h.ok.OK;have :=YM wH s x (λy hy=>(OT h y hy).Eo) oO (λy hy=>by have :=OU (s:=s) y;omega);rwa[acQ h]at this
theorem MO:∀(l:List eG)(own:List bD),(ic l own).2=0->own.length+l.length<=(ic l own).1.length|[],own,_=>ay _|c::l,own,h=>by rw[jM]at h⊢;by_cases h1:dc c≠0;rw[af h1]at h;exact absurd h h1;rw[aa h1]at h⊢;by_cases h2:mY c own≠0;rw[af h2]at h;exact absurd h h2;rw[aa h2]at h⊢;have ih:=MO l _ h;have hm:=LW c own.length;rw[aq]at ih;rw[aL];split at hm<;>omega
theorem ahR {s:List bO}(h:oE s){x:bO}(hx:x∈s):wH x.pat≠[]:=by
 have hq:=h.q x hx;have hz:(ic x.pat.changes []).2=0:=by rw[<-hq.Yy.all];exact hq.ZU
 have hg:=MO x.pat.changes [] hz;have hc:=hq.Yy.changes.1;have hall:=hq.Yy.all;intro e;have hl:(wH x.pat).length=0:=by rw[e];rfl
 rw[FM hq,aj,hall]at hl;rw[br]at hg;omega
theorem MP {s:List bO}(h:oE s):ak C 90 [.sl (cn s)] (λr=>(s=[]/\r=.val (.sl []))\/r=.own none 48 172 (eU (cz s))):=by have hl:=h.ok.OK;have :=UR wH s (OT h) (λx hx=>ahR h hx) (YR h) oO (λx _=>OU (s:=s) x);rwa[<-HI h.ok.EH]at this
theorem Pa (s:List bO):ak C 144 [.sl (cn s)] (λr=>r=.val (.fn (.func 177) [] [.imp [.sl (cn s)]])):=by refine ag Tryz.func144 rfl rfl rfl ?_;refine⟨[1],cu (cells:=[.p (.sl (cn s))]) (ys:=[.sl (cn s)]) rfl rfl rfl ?_⟩;exact rfl
theorem Va (l:List Dg):ak C 178 [.sl (jo l)] (λr=>r=.val (.fn (.func 206) [] [.imp [.sl (jo l)]])):=by refine ag Tryz.func178 rfl rfl rfl ?_;refine⟨[1],cu (cells:=[.p (.sl (jo l))]) (ys:=[.sl (jo l)]) rfl rfl rfl ?_⟩;exact rfl
theorem Vb (l:List bD):ak C 180 [.sl (eU l)] (λr=>r=.val (.fn (.func 210) [] [.imp [.sl (eU l)]])):=by refine ag Tryz.func180 rfl rfl rfl ?_;refine⟨[1],cu (cells:=[.p (.sl (eU l))]) (ys:=[.sl (eU l)]) rfl rfl rfl ?_⟩;exact rfl
theorem rI {S:ai}(rel:List (Nat×FV))(h:yP S.tmps rel):bM S {S with tmps:=Gn rel}:=⟨rfl,rfl,rfl,λ_ _ q=>⟨q,id⟩,⟨rfl,λi f f' h1 h2=>by rw[h1]at h2;obtain rfl:=au h2;exact⟨rfl,rfl,λ_=>aF.refl _⟩⟩,λi=>AF h i,λo ys q=>⟨ys,q,rfl,λi x y h1 h2=>by rw[h1]at h2;obtain rfl:=au h2;exact aF.refl _⟩,λo l' q=>⟨l',q,rfl,λi p p' h1 h2=>by rw[h1]at h2;obtain rfl:=au h2;exact⟨rfl,aF.refl _⟩⟩,λ_ _ q=>q⟩
noncomputable abbrev CK:Ctx:=(C.cut []).open {vu with KF:=[(9,(33,33,none))],rmr:=[6009]}
def vE (lv:Nat)(ids:List Dg)(k:Nat):List (Nat×FV):=[(0,.ni lv),(1,.p (.imp [.sl (ids.map cD)])),(3,.p (.int .i64 ((k:Int)-1)))]
theorem Vc (m:Nat)(Y:pE)(K:FV->ai->Prop)(ids:List Dg)(hl:ids.length<=2^40)(n:Nat)(rel:List (Nat×FV))(aN:Nat->List (Nat×List FV))(bG:Nat->List (Nat×Nat×List (Nat×FV)))(bZ:List yN)(maps:Nat->List (Nat×List (AV×FV)))(hY:∀(k:Nat)(hk:k<ids.length)(K':FV->ai->Prop),(∀S',bM S' (Kz 19 2000 (vE 1000001 ids (k+1)) (aN k) ((n,1000,rel)::bG k) bZ [] (maps k) [])->K' (.p (.bool true)) S')->Y 1000001 [.p (.int .i64 k),.p (.agg (cD ids[k]))] K' (Kz 19 2000 (vE 1000001 ids (k+1)) (aN (k+1)) ((n,1000,rel)::bG (k+1)) bZ [] (maps (k+1)) []))(hK:∀r,K r (Kz n 1000 rel (aN 0) (bG 0) bZ [] (maps 0) [])):jc CK (m+1) Y 206 [.ni 1000001,.p (.imp [.sl (ids.map cD)])] K (Kz n 1000 rel (aN ids.length) (bG ids.length) bZ [] (maps ids.length) []):=by
 refine⟨_,Tryz.func206,rfl,rfl,rfl,_,bM.refl _,?_⟩;refine⟨((ids.length:Nat):Int)-1,by rw[aj,wrap64 oO oO],?_⟩;refine⟨Nat,λk S=>k<=ids.length/\S=Kz 19 2000 (vE 1000001 ids k) (aN k) ((n,1000,rel)::bG k) bZ [] (maps k) [],λk=>k,⟨ids.length,_,rI (vE 1000001 ids ids.length) wS,ay _,rfl⟩,?_⟩;rintro k S ⟨hk,rfl⟩;refine az (λhge=>?_) (λTS=>?_);obtain⟨j,rfl⟩:∃j,k=j+1:=⟨k-1,by have :(k:Int)-1≥0:=hge;omega⟩;have hjl:j<ids.length:=oO
 have hji:(((j+1:Nat):Int)-1)=(j:Int):=oO
 have iX:(ids.map cD)[(((j+1:Nat):Int)-1).toNat]?=some (cD ids[j]):=by rw[hji];exact ct rfl hjl
 refine⟨oO,_,iX,rfl,?_⟩;refine⟨_,rI (vE 1000001 ids (j+1)) wS,?_⟩;rw[hji];refine hY j hjl _ λS' hw=>⟨_,hw,?_⟩;refine bl ?_;refine⟨((j:Nat):Int)-1,by rw[hji,wrap64 oO oO],?_⟩;exact⟨j,_,rI (vE 1000001 ids j) wS,⟨oO,rfl⟩,DL _⟩;obtain rfl:k=0:=by have :¬((k:Int)-1≥0):=TS;omega
 exact⟨_,bM.refl _,hK _⟩
def Ap (lv:Nat)(ats:List bD)(k:Nat):List (Nat×FV):=[(0,.ni lv),(1,.p (.imp [.sl (ats.map cA)])),(3,.p (.int .i64 ((k:Int)-1)))]
theorem Vd (m:Nat)(Y:pE)(K:FV->ai->Prop)(ats:List bD)(hl:ats.length<=2^40)(n:Nat)(rel:List (Nat×FV))(aN:Nat->List (Nat×List FV))(bG:Nat->List (Nat×Nat×List (Nat×FV)))(bZ:List yN)(maps:Nat->List (Nat×List (AV×FV)))(hY:∀(k:Nat)(hk:k<ats.length)(K':FV->ai->Prop),(∀S',bM S' (Kz 19 4000 (Ap 1000002 ats (k+1)) (aN k) ((n,3000,rel)::bG k) bZ [] (maps k) [])->K' (.p (.bool true)) S')->Y 1000002 [.p (.int .i64 k),.p (.agg (cA ats[k]))] K' (Kz 19 4000 (Ap 1000002 ats (k+1)) (aN (k+1)) ((n,3000,rel)::bG (k+1)) bZ [] (maps (k+1)) []))(hK:∀r,K r (Kz n 3000 rel (aN 0) (bG 0) bZ [] (maps 0) [])):jc CK (m+1) Y 210 [.ni 1000002,.p (.imp [.sl (ats.map cA)])] K (Kz n 3000 rel (aN ats.length) (bG ats.length) bZ [] (maps ats.length) []):=by
 refine⟨_,Tryz.func210,rfl,rfl,rfl,_,bM.refl _,?_⟩;refine⟨((ats.length:Nat):Int)-1,by rw[aj,wrap64 oO oO],?_⟩;refine⟨Nat,λk S=>k<=ats.length/\S=Kz 19 4000 (Ap 1000002 ats k) (aN k) ((n,3000,rel)::bG k) bZ [] (maps k) [],λk=>k,⟨ats.length,_,rI (Ap 1000002 ats ats.length) wS,ay _,rfl⟩,?_⟩;rintro k S ⟨hk,rfl⟩;refine az (λhge=>?_) (λTS=>?_);obtain⟨j,rfl⟩:∃j,k=j+1:=⟨k-1,by have :(k:Int)-1≥0:=hge;omega⟩;have hjl:j<ats.length:=oO
 have hji:(((j+1:Nat):Int)-1)=(j:Int):=oO
 have iX:(ats.map cA)[(((j+1:Nat):Int)-1).toNat]?=some (cA ats[j]):=by rw[hji];exact ct rfl hjl
 refine⟨oO,_,iX,rfl,?_⟩;refine⟨_,rI (Ap 1000002 ats (j+1)) wS,?_⟩;rw[hji];refine hY j hjl _ λS' hw=>⟨_,hw,?_⟩;refine bl ?_;refine⟨((j:Nat):Int)-1,by rw[hji,wrap64 oO oO],?_⟩;exact⟨j,_,rI (Ap 1000002 ats j) wS,⟨oO,rfl⟩,DL _⟩;obtain rfl:k=0:=by have :¬((k:Int)-1≥0):=TS;omega
 exact⟨_,bM.refl _,hK _⟩
theorem JW (a b:bg):kg (.agg (cI a)) (.agg (cI b))=decide (a=b):=aaO a b
theorem jQ (x:bg):gB true yY (.agg (cI x))=true:=rfl
abbrev vF:=List (bg×AV)
def iE (l:vF):List (AV×FV):=l.map λp=>(.agg (cI p.1),.p p.2)
def iK (l:vF):List AV:=l.map λp=>.agg (cI p.1)
def iV (l:vF):List AV:=l.map λp=>p.2
def uA:vF->bg->Option AV|[],_=>none|(y,v)::l,x=>if x=y then some v else uA l x
def Sv:vF->bg->AV->vF|[],x,v=>[(x,v)]|(y,w)::l,x,v=>if x=y then(x,v)::l else(y,w)::Sv l x v
theorem Ve (y:bg)(v:AV)(l:vF)(x:bg):uA ((y,v)::l) x=if x=y then some v else uA l x:=rfl
theorem YW (y:bg)(w:AV)(l:vF)(x:bg)(v:AV):Sv ((y,w)::l) x v=if x=y then(x,v)::l else(y,w)::Sv l x v:=rfl
theorem gA (l:vF):∀p,p∈iE l->gB true yY p.1=true:=by intro p hp;obtain⟨d,-,rfl⟩:=aI.1 hp;exact jQ d.1
theorem vj:∀(l:vF)(x:bg),rW (.agg (cI x)) (iE l)=(uA l x).map FV.p|[],_=>rfl|(y,v)::l,x=>by show(match kg (.agg (cI x)) (.agg (cI y))with|true=>some (FV.p v)|false=>rW (.agg (cI x)) (iE l))=_;rw[JW,vj l x,Ve];by_cases h:x=y;rw[an h,af h];rfl;rw[ah h,aa h]
theorem Vf:∀(l:vF)(x:bg)(v:AV),Cy (.agg (cI x)) (.p v) (iE l)=iE (Sv l x v)|[],_,_=>rfl|(y,w)::l,x,v=>by show(match kg (.agg (cI x)) (.agg (cI y))with|true=>(AV.agg (cI x),FV.p v)::iE l|false=>(AV.agg (cI y),FV.p w)::Cy (.agg (cI x)) (.p v) (iE l))=_;rw[JW,Vf l x v,YW];by_cases h:x=y;rw[an h,af h];rfl;rw[ah h,aa h];rfl
theorem fC:∀l:vF,Cz (iK l) (aH (iV l))=iE l|[]=>rfl|d::l=>by show(_::Cz (iK l) (aH (iV l)))=_;rw[fC l];rfl
theorem HJ:∀l:vF,gC (iE l)=iK l|[]=>rfl|d::l=>by show(_::gC (iE l))=_;rw[HJ l];rfl
theorem HK:∀l:vF,FV.fD (tY (iE l))=some (iV l)|[]=>rfl|d::l=>by show FV.fD (FV.p d.2::tY (iE l))=_;simp only[FV.fD,FV.fh,HK l];rfl
theorem eF (k:Nat):∀l:vF,Cu (FV.kill k) (iE l)=iE l|[]=>rfl|d::l=>by show((AV.agg (cI d.1),FV.p d.2)::Cu (FV.kill k) (iE l))=_;rw[eF k l];rfl
def Bx:List (Nat×FV):=[(3,.ptr 3 0),(4,.ptr 4 0)]
def Lp:List (Nat×List FV):=[(3,[.fI 8]),(4,[.fI 9])]
def Lq (a b:vF):List (Nat×List (AV×FV)):=[(8,iE a),(9,iE b)]
def FP (s:List bO):List (Nat×FV):=[(1,.p (.imp [.sl (cn s)])),(2,.ptr 1002 0)]
def MQ:List (Nat×List FV):=[(1002,[.ni 1000000])]
theorem afI {L A B C D:List bD}(h1:L=A++D)(h2:A=B++C)(j:Nat)(hj:j<C.length):∃hr:B.length+j<L.length,L[B.length+j]=C[j]:=by subst h1;subst h2;refine⟨by rw[aq,aq];omega,?_⟩;rw[yh (by rw[aq];omega),Ec oO];congr 1;omega
abbrev stK (s:List bO)(ids:List Dg)(ats:List bD)(k j:Nat)(a b:vF):ai:=Kz 35 5000 [] (MQ++Lp) [(19,4000,Ap 1000002 ats (j+1)),(35,3000,[(2,.ptr 1002 0)]),(19,2000,vE 1000001 ids (k+1)),(35,1000,FP s),(40,0,Bx)] [.ready,.busy,.busy] [] (Lq a b) []
theorem Pb {s:List bO}(h:oE s)(m:Nat)(Y:pE)(K:FV->ai->Prop)(re ki:Nat->vF)(hY:∀(r:Nat)(hr:r<(fL s (bA s)).length)(ats:List bD)(k j:Nat)(K':FV->ai->Prop),(∀S',bM S' (stK s (bA s) ats k j (re r) (ki r))->K' (.p (.bool true)) S')->Y 1000000 [.agg (aH (cA (fL s (bA s))[r]))] K' (stK s (bA s) ats k j (re (r+1)) (ki (r+1))))(hK:∀r,K r (Kz 40 0 Bx Lp [] [.ready] [] (Lq (re 0) (ki 0)) [])):jc CK (m+3) Y 177 [.ni 1000000,.p (.imp [.sl (cn s)])] K (Kz 40 0 Bx Lp [] [.ready] [] (Lq (re (fL s (bA s)).length) (ki (fL s (bA s)).length)) []):=by
 have Ua:=pG s;have hl:=h.ok.OK;have hoi:∀d,d∈bA s->d∈dx s:=λd hd=>(rF h.ok d).1 hd;refine⟨_,Tryz.func177,rfl,rfl,rfl,_,bM.refl _,?_⟩;refine cl (YN h).dN ?_;refine cl (Va (bA s)).dN ?_;unfold jo;refine kO (T:=Kz 35 1000 (FP s) (MQ++Lp) [(40,0,Bx)] [.ready,.ready] [] (Lq (re (fL s ((bA s).take (bA s).length)).length) (ki (fL s ((bA s).take (bA s).length)).length)) []) (iG kK wS oS ⟨rfl,wS,trivial⟩ trivial ⟨dP rfl (by simp only[eF,aJ]),dP rfl (by simp only[eF,aJ]),trivial⟩ trivial) ?_;refine Vc (m+1) _ _ (bA s) oO 35 (FP s) (λ_=>MQ++Lp) (λ_=>[(40,0,Bx)]) [.ready,.ready] (λk=>Lq (re (fL s ((bA s).take k)).length) (ki (fL s ((bA s).take k)).length)) ?_ (λr=>?_);rotate_left;refine⟨_,iG (n:=40) (off:=0) (rel:=Bx) (aN:=Lp) (bG:=[]) (bZ:=[.ready]) (cL:=[]) (maps:=Lq (re 0) (ki 0)) (iM:=[]) kK wS oS trivial trivial ⟨dP rfl rfl,dP rfl rfl,trivial⟩ trivial,hK _⟩;intro k hk K' uF;obtain⟨x,hx,hxi⟩:=aI.1 (hoi _ (aK hk));have hfx:=HH h.nodup hx;have hAx:=(OT h x hx).Eo;have NF:fL s ((bA s).take (k+1))=fL s ((bA s).take k)++wH x.pat:=by rw[Ma hk,<-hxi,nH h.ok.EH hx];rfl
 rw[<-hxi]at*;refine⟨rfl,?_⟩;refine cl (Sd s x x.id hfx oO).dN ?_;refine cl hAx.dN ?_;refine cl (Vb (wH x.pat)).dN ?_;have hlen:(fL s ((bA s).take (k+1))).length=(fL s ((bA s).take k)).length+(wH x.pat).length:=by rw[NF,aq]
 have hal:=OU (s:=s) x;rw[hlen];refine kO (T:=Kz 35 3000 [(2,.ptr 1002 0)] (MQ++Lp) [(19,2000,vE 1000001 (bA s) (k+1)),(35,1000,FP s),(40,0,Bx)] [.ready,.busy,.ready] [] (Lq (re ((fL s ((bA s).take k)).length+(wH x.pat).length)) (ki ((fL s ((bA s).take k)).length+(wH x.pat).length))) []) (iG kK wS oS ⟨rfl,wS,rfl,wS,rfl,wS,trivial⟩ trivial ⟨dP rfl (by simp only[eF]),dP rfl (by simp only[eF]),trivial⟩ trivial) ?_;refine Vd (m+1) _ _ (wH x.pat) oO 35 [(2,.ptr 1002 0)] (λ_=>MQ++Lp) (λ_=>[(19,2000,vE 1000001 (bA s) (k+1)),(35,1000,FP s),(40,0,Bx)]) [.ready,.busy,.ready] (λj=>Lq (re ((fL s ((bA s).take k)).length+j)) (ki ((fL s ((bA s).take k)).length+j))) ?_ (λr=>?_);rotate_left;exact uF _ (iG kK wS oS ⟨rfl,wS,rfl,wS,trivial⟩ trivial ⟨dP rfl rfl,dP rfl rfl,trivial⟩ trivial);intro j hj K2 hK2;have hsplit:fL s (bA s)=fL s ((bA s).take (k+1))++fL s ((bA s).drop (k+1)):=by unfold fL;rw[<-oc,cT]
 have hL:=afI hsplit NF;obtain⟨hr,hLr⟩:=hL j hj;have hM:∀r:Nat,r+j+1=r+(j+1):=λr=>oO
 refine⟨rfl,?_⟩;refine⟨stK s (bA s) (wH x.pat) k j (re ((fL s ((bA s).take k)).length+j+1)) (ki ((fL s ((bA s).take k)).length+j+1)),iG kK trivial oS ⟨rfl,wS,rfl,wS,rfl,wS,rfl,wS,rfl,wS,trivial⟩ trivial ⟨dP rfl (by simp only[eF,hM]),dP rfl (by simp only[eF,hM]),trivial⟩ trivial,?_⟩;have hy:=hY ((fL s ((bA s).take k)).length+j) hr (wH x.pat) k j;rw[hLr]at hy;refine hy _ λS' hw=>⟨_,hw,?_⟩;refine bl ?_;exact hK2 _ (iG kK wS oS ⟨rfl,wS,rfl,wS,rfl,wS,rfl,wS,trivial⟩ trivial ⟨dP rfl rfl,dP rfl rfl,trivial⟩ trivial)
def rT (l:List bg):vF:=l.map λx=>(x,.bool true)
def AZ {α:Type}(f:α->List AV)(l:List (bg×List α)):vF:=l.map λp=>(p.1,.sl (p.2.map f))
abbrev Pc (l:List (bg×List bg)):vF:=AZ cI l
def JX:List bg->bg->List bg|[],x=>[x]|y::l,x=>if x=y then y::l else y::JX l x
def PC {α:Type}:List (bg×List α)->bg->α->List (bg×List α)|[],x,d=>[(x,[d])]|(y,w)::l,x,d=>if x=y then(y,w++[d])::l else(y,w)::PC l x d
def pU {α:Type}:List (bg×List α)->bg->List α|[],_=>[]|(y,w)::l,x=>if x=y then w else pU l x
theorem JY:∀(l:List bg)(x:bg),uA (rT l) x=if x∈l then some (.bool true)else none
 |[],x=>by simp[rT,uA]
 |y::l,x=>by show(if x=y then some (AV.bool true)else uA (rT l) x)=_;rw[JY l x];by_cases h:x=y;rw[af h,af (by rw[h];simp)];rw[aa h];by_cases h2:x∈l;rw[af h2,af (bq _ h2)];rw[aa h2,aa (by simp[h,h2])]
theorem WV:∀(l:List bg)(x:bg),Sv (rT l) x (.bool true)=rT (JX l x)|[],x=>rfl|y::l,x=>by show(if x=y then(x,AV.bool true)::rT l else(y,AV.bool true)::Sv (rT l) x (.bool true))=rT (if x=y then y::l else y::JX l x);rw[WV l x];by_cases h:x=y;rw[af h,af h,h];rfl;rw[aa h,aa h];rfl
theorem Ev {α:Type}(f:α->List AV):∀(l:List (bg×List α))(x:bg),(∃w,uA (AZ f l) x=some (.sl (w.map f))/\pU l x=w)\/(uA (AZ f l) x=none/\pU l x=[])|[],x=>.inr ⟨rfl,rfl⟩|(y,w)::l,x=>by show(∃u,(if x=y then some (AV.sl (w.map f))else uA (AZ f l) x)=some (.sl (u.map f))/\(if x=y then w else pU l x)=u)\/((if x=y then some (AV.sl (w.map f))else uA (AZ f l) x)=none/\(if x=y then w else pU l x)=[]);by_cases h:x=y;rw[af h,af h];exact .inl ⟨w,rfl,rfl⟩;rw[aa h,aa h];exact Ev f l x
theorem WW {α:Type}(f:α->List AV):∀(l:List (bg×List α))(x:bg)(d:α),Sv (AZ f l) x (.sl ((pU l x++[d]).map f))=AZ f (PC l x d)|[],x,d=>rfl|(y,w)::l,x,d=>by show(if x=y then(x,AV.sl (((if x=y then w else pU l x)++[d]).map f))::AZ f l else(y,AV.sl (w.map f))::Sv (AZ f l) x (.sl (((if x=y then w else pU l x)++[d]).map f)))=AZ f (if x=y then(y,w++[d])::l else(y,w)::PC l x d);by_cases h:x=y;rw[af h,af h,af h,h];rfl;rw[aa h,aa h,aa h,WW f l x d];rfl
theorem Sw (l:List (bg×List bg))(x:bg):(∃w,uA (Pc l) x=some (.sl (iq w))/\pU l x=w)\/(uA (Pc l) x=none/\pU l x=[]):=Ev cI l x
theorem sx {R:List bg}{x:bg}(h:x∈R):rW (.agg (cI x)) (iE (rT R))=some (.p (.bool true)):=by rw[vj,JY,af h];rfl
theorem vk {R:List bg}{x:bg}(h:¬x∈R):rW (.agg (cI x)) (iE (rT R))=none:=by rw[vj,JY,aa h];rfl
theorem Pd (R:List bg)(x:bg):Cy (.agg (cI x)) (.p (.bool true)) (iE (rT R))=iE (rT (JX R x)):=by rw[Vf,WV]
theorem Sy {α:Type}(f:α->List AV)(l:List (bg×List α))(x:bg):match rW (.agg (cI x)) (iE (AZ f l))with|some v=>v=.p (.sl ((pU l x).map f))|none=>(pU l x).map f=[]:=by rw[vj];rcases Ev f l x with⟨w,h1,h2⟩|⟨h1,h2⟩;rw[h1,h2];rfl;rw[h1,h2];rfl
theorem WX {α:Type}(f:α->List AV)(l:List (bg×List α))(x:bg)(d:α):Cy (.agg (cI x)) (.p (.sl ((pU l x).map f++[f d]))) (iE (AZ f l))=iE (AZ f (PC l x d)):=by rw[show(pU l x).map f++[f d]=(pU l x++[d]).map f from by rw[aM];rfl,Vf,WW]
theorem Pe {x y:bg}:∀{l:List bg},y∈JX l x↔y=x\/y∈l
 |[]=>by simp[JX]
 |z::l=>by unfold JX;by_cases h:x=z;rw[af h];constructor;exact .inr;rintro(g|g);rw[g,h];simp;exact g;rw[aa h];simp only[aQ,Pe (l:=l)];constructor;rintro(g|g|g);exact .inr (.inl g);exact .inl g;exact .inr (.inr g);rintro(g|g|g);exact .inr (.inl g);exact .inl g;exact .inr (.inr g)
theorem Pf {α:Type}:∀(l:List (bg×List α))(x:bg)(d:α)(y:bg),pU (PC l x d) y=if y=x then pU l x++[d]else pU l y
 |[],x,d,y=>by simp[PC,pU]
 |(z,w)::l,x,d,y=>by unfold PC;by_cases h:x=z;rw[af h];subst h;show(if y=x then w++[d]else pU l y)=if y=x then(if x=x then w else pU l x)++[d]else(if y=x then w else pU l y);by_cases h2:y=x;rw[af h2,af h2,af rfl];rw[aa h2,aa h2,aa h2];rw[aa h];show(if y=z then w else pU (PC l x d) y)=if y=x then(if x=z then w else pU l x)++[d]else(if y=z then w else pU l y);rw[Pf l x d y,aa h];by_cases h2:y=z;rw[af h2,af h2,aa (λe=>h (e.symm.trans h2))];rw[aa h2,aa h2]
def JZ (a:bD)(p:List bg×List (bg×List bg))(x:bg):List bg×List (bg×List bg):=(if a.kind=7 then JX p.1 x else p.1,PC p.2 x a.id)
def wJ (a:bD)(p:List bg×List (bg×List bg)):List bg×List (bg×List bg):=if a.id∈p.1 then p else a.over.foldl (JZ a) p
def By:List bD->List bg×List (bg×List bg)|[]=>([],[])|a::l=>wJ a (By l)
theorem acY {l:List bD}{k:Nat}(h:k<l.length):By (l.drop k)=wJ l[k] (By (l.drop (k+1))):=by rw[bL h];rfl
theorem agy (a:bD):∀(o:List bg)(p:List bg×List (bg×List bg))(x:bg),x∈(o.foldl (JZ a) p).1↔(a.kind=7/\x∈o)\/x∈p.1
 |[],p,x=>by simp
 |y::o,p,x=>by
  rw[eR,agy a o (JZ a p y) x,aQ];have e:x∈(JZ a p y).1↔(a.kind=7/\x=y)\/x∈p.1:=by show x∈(if a.kind=7 then JX p.1 y else p.1)↔_;by_cases h:a.kind=7;rw[af h,Pe];exact⟨λg=>g.imp (λq=>⟨h,q⟩) id,λg=>g.imp (λq=>q.2) id⟩;rw[aa h];exact⟨.inr,λg=>g.elim (λq=>absurd q.1 h) id⟩
  rw[e];constructor;rintro(⟨h,g⟩|⟨h,g⟩|g);exact .inl ⟨h,.inr g⟩;exact .inl ⟨h,.inl g⟩;exact .inr g;rintro(⟨h,g|g⟩|g);exact .inr (.inl ⟨h,g⟩);exact .inl ⟨h,g⟩;exact .inr (.inr g)
theorem agz (a:bD):∀(o:List bg)(p:List bg×List (bg×List bg))(x:bg),o.Nodup->pU (o.foldl (JZ a) p).2 x=pU p.2 x++if x∈o then[a.id]else[]
 |[],p,x,_=>by simp
 |y::o,p,x,hn=>by rw[kD]at hn;rw[eR,agz a o (JZ a p y) x hn.2];show pU (PC p.2 y a.id) x++_=_;rw[Pf];by_cases h:x=y;subst h;rw[af rfl,aa hn.1,af (by simp),aY];rw[aa h];by_cases h2:x∈o;rw[af h2,af (bq _ h2)];rw[aa h2,aa (by simp[h,h2])]
theorem Pg (a:bD):∀(o:List bg)(p:List bg×List (bg×List bg))(x:bg),(pU (o.foldl (JZ a) p).2 x).length<=(pU p.2 x).length+o.length
 |[],p,x=>by simp
 |y::o,p,x=>by
  rw[eR,aL];have h1:=Pg a o (JZ a p y) x;have h2:(pU (JZ a p y).2 x).length<=(pU p.2 x).length+1:=by show(pU (PC p.2 y a.id) x).length<=_;rw[Pf];split;rename_i e;rw[e,aq];exact ay _;omega
  omega
theorem Ka:∀(l:List bD)(x:bg),x∈(By l).1↔∃b,b∈kJ l/\b.kind=7/\x∈b.over
 |[],x=>by simp[By,kJ]
 |a::l,x=>by
  have ih:=Ka l;have hr:=Ka l a.id;have e2:kJ (a::l)=rq a (kJ l):=rfl;have e1:By (a::l)=wJ a (By l):=rfl;rw[e1,e2];unfold wJ rq;by_cases h:a.id∈(By l).1;have h2:Js (kJ l) a=true:=by obtain⟨b,q1,q2,q3⟩:=hr.1 h;unfold Js;exact fR.2 ⟨b,q1,by rw[an q2,an q3];rfl⟩
  rw[af h,af h2];exact ih x;have h2:¬Js (kJ l) a=true:=by intro g;obtain⟨b,q1,q2⟩:=fR.1 g;rw[aW,decide_eq_true_eq,decide_eq_true_eq]at q2;exact h (hr.2 ⟨b,q1,q2.1,q2.2⟩)
  rw[aa h,aa h2,agy,ih x];constructor;rintro(⟨g1,g2⟩|⟨b,g1,g2⟩);exact⟨a,by simp,g1,g2⟩;exact⟨b,bq _ g1,g2⟩;rintro⟨b,g1,g2⟩;rcases aQ.1 g1 with rfl|g1;exact .inl g2;exact .inr ⟨b,g1,g2⟩
theorem Sz {l:List bD}{a:bD}:a.id∈(By l).1↔Js (kJ l) a=true:=by rw[Ka];unfold Js;rw[fR];constructor;rintro⟨b,q1,q2,q3⟩;exact⟨b,q1,by rw[an q2,an q3];rfl⟩;rintro⟨b,q1,q2⟩;rw[aW,decide_eq_true_eq,decide_eq_true_eq]at q2;exact⟨b,q1,q2.1,q2.2⟩
def Lr (l:List bD)(x:bg):List bg:=((l.filter λa=>decide (x∈a.over)).map λa=>a.id).reverse
theorem acZ:∀(l:List bD)(x:bg),(∀a,a∈l->a.over.Nodup)->pU (By l).2 x=Lr (kJ l) x|[],x,_=>rfl|a::l,x,h=>by have ih:=acZ l x λb hb=>h b (bq _ hb);have e2:kJ (a::l)=rq a (kJ l):=rfl;have e1:By (a::l)=wJ a (By l):=rfl;rw[e1,e2];unfold wJ rq;by_cases h1:a.id∈(By l).1;rw[af h1,af (Sz.1 h1)];exact ih;rw[aa h1,aa λg=>h1 (Sz.2 g),agz _ _ _ _ (h a (by simp)),ih];unfold Lr;by_cases h2:x∈a.over;rw[af h2,qA (by simpa using h2)];simp;rw[aa h2,ot (by simpa using h2),aY]
theorem Ph {M:Nat}:∀(l:List bD)(x:bg),(∀a,a∈l->a.over.length<=M)->(pU (By l).2 x).length<=l.length*M|[],x,_=>zL|a::l,x,h=>by have ih:=Ph l x λb hb=>h b (bq _ hb);have h0:=h a (by simp);show(pU (wJ a (By l)).2 x).length<=_;rw[aL,Nat.succ_mul];unfold wJ;split;omega;have :=Pg a a.over (By l) x;omega
theorem Co (x:bg):∀(l:List bD)(out:List bg),l.foldl (qt x) out=((l.filter λa=>decide (x∈a.over)).map λa=>a.id).foldl qh out|[],out=>rfl|a::l,out=>by rw[eR,Co x l];unfold qt;by_cases h:x∈a.over;rw[af h,qA (by simpa using h)];rfl;rw[aa h,ot (by simpa using h)]
theorem MR {l:List bD}{x y:bg}:y∈oR l x↔∃a,a∈l/\x∈a.over/\a.id=y:=by unfold oR;rw[Co,Mt];simp only[aI,hU,decide_eq_true_eq,gr,or_false];constructor;rintro⟨a,⟨h1,h2⟩,h3⟩;exact⟨a,h1,h2,h3⟩;rintro⟨a,h1,h2,h3⟩;exact⟨a,⟨h1,h2⟩,h3⟩
theorem Kb {l:List bD}{x y:bg}:y∈Lr l x↔y∈oR l x:=by rw[MR];unfold Lr;simp only[List.mem_reverse,aI,hU,decide_eq_true_eq];constructor;rintro⟨a,⟨h1,h2⟩,h3⟩;exact⟨a,h1,h2,h3⟩;rintro⟨a,h1,h2,h3⟩;exact⟨a,⟨h1,h2⟩,h3⟩
theorem YX (l:List bD)(x:bg):Hj (oR l x):=by unfold oR;rw[Co];exact FC List.Pairwise.nil
theorem FQ:∀l:List bD,(kJ l).Sublist l|[]=>List.Sublist.refl _|a::l=>by show(rq a (kJ l)).Sublist (a::l);unfold rq;split;exact(FQ l).cons a;exact(FQ l).cons_cons a
theorem Vg {l:List bD}(h:(l.map λa=>a.id).Nodup)(x:bg):(Lr l x).Nodup:=by unfold Lr;rw[List.Nodup,List.pairwise_reverse];exact(h.sublist (List.Sublist.map _ List.filter_sublist)).imp λg=>eO g
theorem YY {l:List bD}(h:(l.map λa=>a.id).Nodup)(x:bg):oU (Lr l x)=oR l x:=GI (Mw (Vg h x)) (YX l x) λy=>by rw[Mv,Kb]
theorem ac0 {l:List bD}{x:bg}:Lr l x=[]↔oR l x=[]:=by constructor;intro h;rw[Pj]at h⊢;exactλy hy=>h y (Kb.2 hy);intro h;rw[Pj]at h⊢;exactλy hy=>h y (Kb.1 hy)
theorem YZ {l:List bg}(h:Hj l):l.Nodup:=h.imp λ{a b} g e=>by subst e;exact su a g
theorem Vh {p:ga}{a:bD}(h:a∈(dJ p).1):Hj a.over:=by unfold dJ at h;split at h;cases h;obtain⟨b,-,rfl⟩:=aI.1 h;exact FC List.Pairwise.nil
theorem afJ {s:List bO}{ds:List Dg}{a:bD}(h:a∈fL s ds):Hj a.over:=by obtain⟨d,-,hd⟩:=cV.1 h;exact Vh hd
theorem Vi {s:List bO}(h:oE s){d:Dg}(hd:d∈dx s){a:bD}(ha:a∈(dJ (gh s d).1).1):∃n,∃hn:n<(dJ (gh s d).1).1.length,a=(dJ (gh s d).1).1[n]/\a.id=⟨d,(n:Int)⟩:=by
 obtain⟨x,hx,rfl⟩:=aI.1 hd;have hg:(gh s x.id).1=x.pat:=by rw[nH h.ok.EH hx]
 rw[hg]at ha⊢;obtain⟨n,hn,rfl⟩:=gz ha;exact⟨n,hn,rfl,rH h hx n hn⟩
theorem MS {s:List bO}(h:oE s):∀{ds:List Dg},ds.Nodup->(∀d,d∈ds->d∈dx s)->((fL s ds).map λa=>a.id).Nodup
 |[],_,_=>qy
 |d::ds,hn,hm=>by
  rw[kD]at hn;have hd:=hm d (by simp);have ih:=MS h hn.2 λe he=>hm e (bq _ he);show(((dJ (gh s d).1).1++fL s ds).map λa=>a.id).Nodup;rw[aM,kz];refine⟨?_,ih,?_⟩;rw[List.Nodup,List.pairwise_map,tI];intro i j hi hj hij e;obtain⟨x,hx,rfl⟩:=aI.1 hd;have hg:(gh s x.id).1=x.pat:=by rw[nH h.ok.EH hx]
  have e1:∀k (hk:k<(dJ (gh s x.id).1).1.length),((dJ (gh s x.id).1).1[k]).id=⟨x.id,(k:Int)⟩:=by rw[hg];exactλk hk=>rH h hx k hk
  rw[e1 i hi,e1 j hj]at e;injection e with _ e;omega;intro x hx y hy e;subst e;obtain⟨a,ha,e1⟩:=aI.1 hx;obtain⟨b,hb,e2⟩:=aI.1 hy;obtain⟨d2,hd2,hb⟩:=cV.1 hb;obtain⟨n,_,-,q1⟩:=Vi h hd ha;obtain⟨m,_,-,q2⟩:=Vi h (hm d2 (bq _ hd2)) hb;rw[q1]at e1;rw[q2,<-e1]at e2;injection e2 with e2 _;exact hn.1 (e2▸hd2)
theorem SA {s:List bO}(h:OkS s):(bA s).Nodup:=(Ao h.EH s.length [] qy (λd hd=>by cases hd)).1
theorem Za {s:List bO}(h:oE s):((oT s).map λa=>a.id).Nodup:=(MS h (SA h.ok) λd hd=>(rF h.ok d).1 hd).sublist (List.Sublist.map _ (FQ _))
theorem WY {s:List bO}(x:bg):pU (By (fL s (bA s))).2 x=Lr (oT s) x:=acZ _ x λ_ ha=>YZ (afJ ha)
theorem Zb {s:List bO}(h:oE s)(x:bg):oU (Lr (oT s) x)=oR (oT s) x:=YY (Za h) x
theorem SH {l:List bD}{i:Nat}{d:bD}(h:i<l.length):l.getD i d=l[i]:=by rw[oa,av h];rfl
theorem Kk (d:Dg)(a:bD):(fU d a).kind=a.kind:=by
 unfold fU Zy KC KB st2 st1;repeat' split
 all_goals rfl
theorem Vp (d:Dg)(a:bD)(h:a.kind=2):(fU d a).file=cr a.file d:=by
 have h1:(st1 d a).kind=2:=h;have e2:st2 d (st1 d a)={st1 d a with file:=cr a.file d}:=by unfold st2;rw[af (by rw[h1];decide)];rfl
 unfold fU;rw[e2];unfold Zy KC KB;rw[af (show({st1 d a with file:=cr a.file d}:bD).kind=2 from h)];rw[aa (by show¬a.kind=6;rw[h];decide)]
theorem Vq {c:eG}{f:Nat}{a:bD}(h:a∈fc c f)(h2:a.kind=2):c.kind=2/\a.file=c.file:=by unfold fc at h;by_cases e:c.kind=5;rw[af e]at h;rcases bh.1 h with h|h;obtain⟨i,-,rfl⟩:=aI.1 h;exact absurd h2 (by show¬(5:Int)=2;decide);obtain⟨i,-,rfl⟩:=aI.1 h;exact absurd h2 (by show¬(6:Int)=2;decide);rw[aa e]at h;obtain rfl:=aS.1 h;unfold od at h2⊢;by_cases e1:c.kind=1;rw[af e1]at h2;exact absurd (show(1:Int)=2 from h2) dD;rw[aa e1]at h2⊢;by_cases e2:c.kind=2;rw[af e2];exact⟨e2,rfl⟩;rw[aa e2]at h2;by_cases e3:c.kind=3;rw[af e3]at h2;exact absurd (show(3:Int)=2 from h2) dD;rw[aa e3]at h2;by_cases e4:c.kind=4;rw[af e4]at h2;exact absurd (show(4:Int)=2 from h2) dD;rw[aa e4]at h2;by_cases e6:c.kind=6;rw[af e6]at h2;exact absurd (show(6:Int)=2 from h2) dD;rw[aa e6]at h2;exact absurd (show(7:Int)=2 from h2) dD
theorem MY:∀(l:List eG)(own:List bD),(ic l own).2=0->(∀a,a∈own->a∈(ic l own).1)/\(own<+:(ic l own).1)/\∀a,a∈(ic l own).1->a.kind=2->a∈own\/∃c,c∈l/\c.kind=2/\a.file=c.file/\(c.file.p=bF->0<=c.file.n/\∃b,(ic l own).1[c.file.n.toNat]?=some b/\b.kind=1)
 |[],own,_=>⟨λa h=>h,List.prefix_refl _,λa h _=>.inl h⟩
 |c::l,own,h=>by
  rw[jM]at h⊢;by_cases h1:dc c≠0;rw[af h1]at h;exact absurd h h1;rw[aa h1]at h⊢;by_cases h2:mY c own≠0;rw[af h2]at h;exact absurd h h2;rw[aa h2]at h⊢;obtain⟨g1,g2,g3⟩:=MY l _ h;have hpre:own<+:(ic l (own++fc c own.length)).1:=(List.prefix_append _ _).trans g2;refine⟨λa ha=>g1 a (gY _ ha),hpre,λa ha hk=>?_⟩;rcases g3 a ha hk with q|⟨c',hc',q⟩;rcases bh.1 q with q|q;exact .inl q;obtain⟨k1,k2⟩:=Vq q hk;refine .inr ⟨c,by simp,k1,k2,λhz=>?_⟩;have hr:mY c own=0:=fE.1 h2;have hone:=pT.1 hr (if 2<=c.kind/\c.kind<=6 then uG c.file own.length (er c.kind (mo own c.file))else 0) (by unfold Ru;simp);rw[af oO]at hone;unfold uG at hone;cases hal:BU c.file own.length with
  |false=>rw[hal,aa dD]at hone;exact absurd hone dD
  |true=>
   rw[hal,af rfl]at hone;unfold BU at hal;rw[af hz,aW,decide_eq_true_eq,decide_eq_true_eq]at hal;have hfit:er c.kind (mo own c.file)=true:=by
    cases hf:er c.kind (mo own c.file)with
    |true=>rfl
    |false=>rw[af ⟨hz,hf⟩]at hone;exact absurd hone dD
   unfold er at hfit;rw[aW,decide_eq_true_eq]at hfit;have hlt:c.file.n.toNat<own.length:=oO
   refine⟨hal.1,own[c.file.n.toNat],?_,?_⟩;obtain⟨t,ht⟩:=hpre;rw[<-ht,cO hlt,av hlt];have e:=hfit.1;unfold mo at e;rw[af ⟨hz,hal.1,hal.2⟩,SH hlt]at e;exact e
  exact .inr ⟨c',bq _ hc',q⟩
theorem uD {s:List bO}(h:oE s){a:bD}:a∈cz s↔∃x,x∈s/\a∈wH x.pat:=by rw[HI h.ok.EH];exact cV
theorem Kl {s:List bO}(h:oE s){a b:bD}(ha:a∈cz s)(hb:b∈cz s)(e:a.id=b.id):a=b:=by
 obtain⟨x,hx,ha⟩:=(uD h).1 ha;obtain⟨y,hy,hb⟩:=(uD h).1 hb;obtain⟨i,hi,rfl⟩:=gz ha;obtain⟨j,hj,rfl⟩:=gz hb;rw[rH h hx i hi,rH h hy j hj]at e;injection e with e1 e2;obtain rfl:=JK h.ok.EH hx hy e1;obtain rfl:i=j:=oO
 rfl
theorem SI:(dJ DR).1=[]:=by
 unfold dJ oe oB;have h:(dw DR).2≠0:=dD
 rw[af h];show(if(dw DR).2≠0 then(([],(dw DR).2):List bD×Int)else _).1=[];rw[af h]
theorem afL {s:List bO}(h:oE s){a:bD}(ha:a∈cz s)(hk:a.kind=2):∃b,b∈cz s/\b.id=a.file/\b.kind=1:=by
 obtain⟨x,hx,ha⟩:=(uD h).1 ha;have hq:=h.q x hx;have hz:(ic x.pat.changes []).2=0:=by rw[<-hq.Yy.all];exact hq.ZU
 have hall:=hq.Yy.all;have vR:=FM hq;have hid:=h.idE hx;rw[hid]at vR;have ha0:=ha;rw[vR]at ha;obtain⟨a0,ha1,rfl⟩:=aI.1 ha;rw[Kk]at hk;rw[Vp _ _ hk];rw[hall]at ha1;rcases(MY _ _ hz).2.2 a0 ha1 hk with q|⟨c,hc,hck,Vr,hown⟩;cases q;rw[Vr];by_cases hp:c.file.p=bF;obtain⟨h0,b,hb,hbk⟩:=hown hp;have hlt:=(aG.1 hb).1;have dI:c.file.n.toNat<(wH x.pat).length:=by rw[vR,aj,hall];exact hlt
 refine⟨(wH x.pat)[c.file.n.toNat],(uD h).2 ⟨x,hx,aK _⟩,?_,?_⟩;rw[rH h hx _ dI];unfold cr;rw[af ⟨hp,h0⟩];congr 1;omega;rw[Es vR _ dI (by rw[hall];exact hlt),Kk];have :(dw x.pat).1[c.file.n.toNat]?=some b:=by rw[hall];exact hb
 rw[av (by rw[hall];exact hlt)]at this;rw[au this];exact hbk;have hch:=pT.1 (h.ok.refs x hx) (Zz s c x.id) (gY _ (aI.2 ⟨c,hc,rfl⟩));have h1:=pT.1 hch _ (gq ..);rw[aa hp]at h1;cases hA:(iy s c.file).2 with
 |false=>rw[hA,af rfl]at h1;exact absurd h1 dD
 |true=>
  rw[hA,aa dD]at h1;cases hF:er c.kind (iy s c.file).1 with
  |false=>rw[hF,af rfl]at h1;exact absurd h1 dD
  |true=>
   unfold er at hF;rw[aW,decide_eq_true_eq]at hF;have sO:=hF.1;unfold iy at hA sO;by_cases hn:c.file.n<0\/((dJ (gh s c.file.p).1).1.length:Int)<=c.file.n;rw[af hn]at hA;exact absurd hA dD;rw[aa hn]at sO;have hlt:c.file.n.toNat<(dJ (gh s c.file.p).1).1.length:=oO
   have hmem:c.file.p∈dx s:=by refine iU λhm=>?_;rw[FI hm]at hlt;rw[SI]at hlt;exact absurd hlt (ia _)
   obtain⟨y,hy,hyi⟩:=aI.1 hmem;have hg:(gh s c.file.p).1=y.pat:=by rw[<-hyi,nH h.ok.EH hy]
   rw[hg]at hlt sO;have hlt:c.file.n.toNat<(wH y.pat).length:=hlt;refine⟨(wH y.pat)[c.file.n.toNat],(uD h).2 ⟨y,hy,aK _⟩,?_,?_⟩;rw[rH h hy _ hlt,hyi];unfold cr;rw[aa (λg=>hp g.1)];cases hcc:c.file with
   |mk p n=>rw[hcc]at hn;simp only at hn⊢;congr 1;omega
   have sO:((wH y.pat).getD c.file.n.toNat ef).kind=1:=sO;rw[SH hlt]at sO;exact sO
theorem Cs:∀{l:List bD}{x:bg},(sw l x).2=true↔∃a,a∈l/\a.id=x/\a.kind=1
 |[],x=>by simp[sw]
 |a::l,x=>by unfold sw;by_cases h:a.id=x/\a.kind=1;rw[af h];exact⟨λ_=>⟨a,by simp,h⟩,λ_=>rfl⟩;rw[aa h,Cs];constructor;rintro⟨b,q1,q2⟩;exact⟨b,bq _ q1,q2⟩;rintro⟨b,q1,q2⟩;rcases aQ.1 q1 with rfl|q1;exact absurd q2 h;exact⟨b,q1,q2⟩
theorem SJ {s:List bO}{a:bD}(h:a∈wz s):a∈cz s:=(hU.1 h).1
theorem adp {s:List bO}(h:oE s){a:bD}(ha:a∈cz s):a.id∈gL s↔a∈wz s:=by unfold gL;rw[aI];constructor;rintro⟨b,hb,e⟩;rw[<-Kl h (SJ hb) ha e];exact hb;intro g;exact⟨a,g,rfl⟩
theorem Zm {s:List bO}(h:oE s){a:bD}(ha:a∈cz s)(hk:a.kind=2):(sw (wz s) a.file).2=decide (a.file∈gL s):=by rw[mj,decide_eq_true_eq,Cs];constructor;rintro⟨b,q1,q2,-⟩;rw[<-q2];exact aI.2 ⟨b,q1,rfl⟩;intro g;obtain⟨b,hb,e⟩:=aI.1 g;obtain⟨c,hc,e2,hk2⟩:=afL h ha hk;obtain rfl:=Kl h (SJ hb) hc (e.trans e2.symm);exact⟨b,hb,e,hk2⟩
theorem Vs {s:List bO}(h:oE s)(x:bg):((pQ (cz s) x).2&&decide ((pQ (cz s) x).1.kind=1))=(sw (cz s) x).2:=by
 rw[mj,aW,decide_eq_true_eq,Cs,FN];cases hf:(cz s).find? (λa=>decide (a.id=x))with
 |none=>constructor;rintro⟨h1,-⟩;exact absurd h1 dD;rintro⟨a,h1,h2,-⟩;rw[oo]at hf;exact absurd (hf a h1) (by simp[h2])
 |some a=>
  have ha:=oq hf;have hx:a.id=x:=by have :=mz hf;simpa using this
  constructor;rintro⟨-,h1⟩;exact⟨a,ha,hx,h1⟩;rintro⟨b,h1,h2,h3⟩;obtain rfl:=Kl h ha h1 (hx.trans h2.symm);exact⟨rfl,h3⟩
theorem JQ {p:ga}(h:iI p=false):(dw p).1.length<=80020:=by
 have hc:p.changes.length<=20:=by unfold iI at h;simp only[kH,decide_eq_false_iff_not]at h;omega
 have hb:=(Ac p.changes [] λa h=>by cases h).1;rw[br]at hb;unfold dw;repeat' split
 all_goals first|exact zL|omega
theorem afB {p:ga}(h:iI p=false):(dJ p).1.length<=80020:=by unfold dJ;split;exact zL;rw[aj];exact JQ h
theorem Sr {Q:ga->Prop}(h0:Q DR):∀{s:List bO},(∀x,x∈s->Q x.pat)->∀d,Q (gh s d).1|[],_,_=>h0|x::s,h,d=>by unfold gh;split;exact h x (by simp);exact Sr h0 (λy hy=>h y (bq _ hy)) d
theorem Ss {s:List bO}(h:∀x,x∈s->iI x.pat=false):∀ids:List Dg,(fL s ids).length<=80020*ids.length|[]=>ay _|d::l=>by have h1:=Ss h l;have h2:(dJ (gh s d).1).1.length<=80020:=afB (Sr (Q:=λp=>iI p=false) dD h d);show((dJ (gh s d).1).1++fL s l).length<=_;rw[aq,aL];omega
theorem UT {s:List bO}(h:vr s=false):∀x,x∈s->iI x.pat=false:=λx hx=>by
 unfold vr xW at h;simp only[kH,decide_eq_false_iff_not]at h;obtain⟨h1,h2,-⟩:=h;rw[ck oO]at h1;cases hq:iI x.pat with
 |false=>rfl
 |true=>rw[fR.2 ⟨x,hx,hq⟩]at h1;exact absurd h1 dD
theorem ahJ {p:ga}(hf:DQ p)(hg:iI p=false)(h:(oe p).2=0):KD p:=by refine⟨hf,?_,by have :=JQ hg;omega⟩;unfold oe at h;by_cases g:(oB p).2≠0;rw[af g]at h;exact absurd h g;exact fE.1 g
theorem UU {s:List bO}(hz:SzT s)(h:GA s=true):oE s/\s.length<=8/\(oT s).length<=2^20/\∀x,x∈s->iI x.pat=false:=by
 unfold GA at h;rw[aW,decide_eq_true_eq]at h;obtain⟨h1,h2⟩:=h;have h1:vr s=false:=by
  cases hq:vr s with
  |false=>rfl
  |true=>rw[hq]at h1;cases h1
 have hg:=UT h1;have hS:=acH h2;obtain⟨hF,hl⟩:=Wz hz h1;refine⟨⟨hF,hS,λx hx=>ahJ (hF.each x hx) (hg x hx) (by rw[hS.id x hx])⟩,hl,?_,hg⟩;have h3:=AO (fL s (bA s));have h4:=Ss hg (bA s);have h5:=pG s;show(kJ (fL s (bA s))).length<=_;omega
theorem oV {s:List bO}{x y:bO}:y∈mL s x↔y=x\/y∈s:=by
 induction s with
 |nil=>simp[mL]
 |cons z l ih=>unfold mL;split;simp only[aQ,ih];constructor;rintro(g|g|g);exact .inr (.inl g);exact .inl g;exact .inr (.inr g);rintro(g|g|g);exact .inr (.inl g);exact .inl g;exact .inr (.inr g);simp only[aQ]
theorem JR (x:bO):∀s:List bO,(mL s x).length=s.length+1|[]=>rfl|y::l=>by unfold mL;split;rw[aL,JR x l,aL];rfl
theorem JS {x:bO}:∀{s:List bO},oD s->(∀y,y∈s->y.id≠x.id)->oD (mL s x)
 |[],_,_=>mA _ _
 |y::l,h,hn=>by
  have h1:=dZ.1 h;unfold mL;by_cases e:eY y.id x.id<0;rw[af e];refine dZ.2 ⟨λz hz=>?_,JS h1.2 λz hz=>hn z (bq _ hz)⟩;rcases oV.1 hz with rfl|hz;exact e;exact h1.1 z hz;rw[aa e];have hxy:eY x.id y.id<0:=by have h2:=om y.id x.id;have h3:eY y.id x.id≠0:=λg=>hn y (by simp) (mS g);omega
  refine dZ.2 ⟨λz hz=>?_,h⟩;rcases aQ.1 hz with rfl|hz;exact hxy;exact kU hxy (h1.1 z hz)
theorem Et {s:List bO}{x:bO}{d:Dg}:d∈dx (mL s x)↔d=x.id\/d∈dx s:=by unfold dx;simp only[aI,oV];constructor;rintro⟨y,rfl|hy,rfl⟩;exact .inl rfl;exact .inr ⟨y,hy,rfl⟩;rintro(rfl|⟨y,hy,rfl⟩);exact⟨x,.inl rfl,rfl⟩;exact⟨y,.inr hy,rfl⟩
theorem acR {s:List bO}{x:bO}(hA:oD s)(hn:x.id∉dx s){d:Dg}(hd:d≠x.id):gh (mL s x) d=gh s d:=by have hA2:oD (mL s x):=JS hA λy hy e=>hn (e▸aI.2 ⟨y,hy,rfl⟩);by_cases h:d∈dx s;obtain⟨y,hy,rfl⟩:=aI.1 h;rw[nH hA hy,nH hA2 (oV.2 (.inr hy))];rw[FI h,FI (λg=>(Et.1 g).elim hd h)]
theorem YS {s:List bO}{x:bO}(hA:oD s)(hn:x.id∉dx s){i:bg}(hi:i.p≠x.id):iy (mL s x) i=iy s i:=by unfold iy;rw[acR hA hn hi]
theorem YT {p:ga}(h:(oB p).2=0){c:eG}(hc:c∈p.changes){i:bg}(hi:i∈refsOf c)(hz:i.p≠bF):i.p∈cw p:=by unfold cw;rw[aa (λg=>g h)];exact AX.2 (.inr ⟨hz,i,cV.2 ⟨c,hc,hi⟩,rfl⟩)
theorem afC {s:List bO}{x:bO}(hA:oD s)(hn:x.id∉dx s){p:ga}(hp:(oB p).2=0)(hne:x.id∉cw p){c:eG}(hc:c∈p.changes)(d:Dg):Zz (mL s x) c d=Zz s c d:=by
 have key:∀i,i∈refsOf c->¬i.p=bF->iy (mL s x) i=iy s i:=λi hi hz=>YS hA hn λe=>hne (e▸YT hp hc hi hz);have e1:c.file∈refsOf c:=by unfold refsOf;simp
 have e2:c.parent∈refsOf c:=by unfold refsOf;simp
 have e3:c.dm∈refsOf c:=by unfold refsOf;simp
 have e4:c.dG∈refsOf c:=by unfold refsOf;simp
 have e5:∀i,i∈c.over->i∈refsOf c:=λi hi=>by unfold refsOf;simp[hi]
 have hend:∀i,i∈refsOf c->Uf (mL s x) i c.file d=Uf s i c.file d:=λi hi=>by unfold Uf;by_cases g:i.p=bF\/i=c.file;rw[af g,af g];rw[aa g,aa g,key i hi λq=>g (.inl q)]
 have AN:c.over.map (Yi (mL s x) c d)=c.over.map (Yi s c d):=fQ λi hi=>by unfold Yi;by_cases g:i.p=bF;rw[af g,af g];rw[aa g,aa g,key i (e5 i hi) g]
 have hfi:(if c.file.p=bF then(0:Int)else if(iy (mL s x) c.file).2=false then 7 else if er c.kind (iy (mL s x) c.file).1=false then 8 else 0)=(if c.file.p=bF then 0 else if(iy s c.file).2=false then 7 else if er c.kind (iy s c.file).1=false then 8 else 0):=by by_cases g:c.file.p=bF;rw[af g,af g];rw[aa g,aa g,key _ e1 g]
 have hpa:(if c.parent.p=bF then(0:Int)else if(iy (mL s x) c.parent).2=false then 7 else if Be (iy (mL s x) c.parent).1=false then 8 else 0)=(if c.parent.p=bF then 0 else if(iy s c.parent).2=false then 7 else if Be (iy s c.parent).1=false then 8 else 0):=by by_cases g:c.parent.p=bF;rw[af g,af g];rw[aa g,aa g,key _ e2 g]
 unfold Zz;rw[hfi,hpa,hend _ e3,hend _ e4,AN]
theorem ML {s:List bO}{x:bO}(hA:oD s)(hn:x.id∉dx s){p:ga}(hp:(oB p).2=0)(hne:x.id∉cw p)(d:Dg):vb (mL s x) p d=vb s p d:=by unfold vb;rw[fQ λc hc=>afC hA hn hp hne hc d]
def AY (s:List bO)(o:List Dg):Prop:=∀(a b:List Dg)(e:Dg),o=a++e::b->∀y,y∈s->y.id=e->∀q,q∈cw y.pat->q∈a
theorem GN {s:List bO}{o:List Dg}(h:AY s o){e:Dg}(he:∀y,y∈s->y.id=e->∀q,q∈cw y.pat->q∈o):AY s (o++[e]):=by
 intro a b e' hab y hy ZB q hq;rcases List.eq_nil_or_concat b with rfl|⟨b',z,rfl⟩;have h1:=List.append_inj' hab rfl;obtain⟨rfl,h2⟩:=h1;injection h2 with h2 _;subst h2;exact he y hy ZB q hq;have h1:o++[e]=(a++e'::b')++[z]:=by rw[hab];simp
 have h2:=(List.append_inj' h1 rfl).1;exact h a b' e' h2 y hy ZB q hq
theorem GO {s:List bO}(hA:oD s):∀(n:Nat)(out:List Dg),AY s out->AY s (uz s n out)
 |0,out,h=>h
 |n+1,out,h=>by
  unfold uz;cases hf:s.find? (qL out)with
  |none=>exact h
  |some x=>refine GO hA n _ (GN h λy hy ZB q hq=>?_);have hx:=oq hf;obtain rfl:=JK hA hy hx ZB;have hn:=mz hf;unfold qL at hn;simp only[aW,eC,decide_eq_false_iff_not,sn,bY,decide_eq_true_eq]at hn;exact hn.2 q hq
theorem OV {s:List bO}(hA:oD s):AY s (bA s):=by unfold bA;rw[<-En hA];exact GO hA _ _ λa b e h=>by simp at h
theorem MM {out:List Dg}{P:Dg->Prop}:∀{o:List Dg}{d:Dg},d∈o->d∉out->P d->∃a e b,o=a++e::b/\e∉out/\P e/\∀q,q∈a->q∈out\/¬P q|x::o,d,hd,hn,hp=>by by_cases hx:x∉out/\P x;exact⟨[],x,o,rfl,hx.1,hx.2,λq hq=>by cases hq⟩;have hdo:d∈o:=(aQ.1 hd).resolve_left λe=>hx ⟨e▸hn,e▸hp⟩;obtain⟨a,e,b,h1,h2,h3,h4⟩:=MM hdo hn hp;refine⟨x::a,e,b,by rw[h1];rfl,h2,h3,λq hq=>?_⟩;rcases aQ.1 hq with rfl|hq;by_cases g:q∈out;exact .inl g;exact .inr λgp=>hx ⟨g,gp⟩;exact h4 q hq
theorem UW {t:List bO}(hA:oD t)(hc:∀x,x∈t->∀d,d∈cw x.pat->d∈dx t){o:List Dg}(ho:AY t o)(hall:∀d,d∈dx t->d∈o):(bA t).length=t.length:=by
 have go:∀(n:Nat)(out:List Dg),out.Nodup->(∀d,d∈out->d∈dx t)->out.length+n=t.length->(uz t n out).length=t.length:=λn=>by
  induction n with
  |zero=>intro out _ _ h;exact h
  |succ n ih=>
   intro out hn hm hl;have hex:∃d,d∈dx t/\d∉out:=by refine iU λg=>?_;have :∀d,d∈dx t->d∈out:=λd hd=>iU λq=>g ⟨d,hd,q⟩;have :=sv (OR hA) this;unfold dx at this;rw[aj]at this;omega
   obtain⟨d,hd,hdo⟩:=hex;obtain⟨a,e,b,h1,h2,h3,h4⟩:=MM (P:=λq=>q∈dx t) (hall d hd) hdo hd;obtain⟨y,hy,ZB⟩:=aI.1 h3;have hny:qL out y=true:=by unfold qL;simp only[aW,eC,decide_eq_false_iff_not,sn,bY,decide_eq_true_eq];refine⟨by rw[ZB];exact h2,λq hq=>?_⟩;have :=ho a b e h1 y hy ZB q hq;rcases h4 q this with g|g;exact g;exact absurd (hc y hy q hq) g
   unfold uz;cases hf:t.find? (qL out)with
   |none=>rw[oo]at hf;exact absurd hny (hf y hy)
   |some x=>have hx:=oq hf;have BK:=mz hf;unfold qL at BK;simp only[aW,eC,decide_eq_false_iff_not]at BK;refine ih (out++[x.id]) ?_ (λq hq=>?_) (by rw[aq,fP];omega);rw[kz];refine⟨hn,by simp,λu hu v hv e=>?_⟩;rw[aS.1 hv]at e;exact BK.1 (e▸hu);rcases bh.1 hq with hq|hq;exact hm q hq;rw[aS.1 hq];exact aI.2 ⟨x,hx,rfl⟩
 unfold bA;rw[<-En hA];exact go t.length [] qy (λd h=>by cases h) (by simp)
theorem afD {s:List bO}(h:OkS s){p:ga}{d:Dg}(hl:s.length<400)(hid:oe p=(d,0))(hp:(oB p).2=0)(hnew:(gh s d).2=false)(hn:sn (dx s) (cw p)=true)(hr:vb s p d=0):OkS (mL s ⟨d,p⟩):=by
 have hdn:d∉dx s:=λg=>by obtain⟨y,hy,rfl⟩:=aI.1 g;rw[nH h.EH hy]at hnew;cases hnew
 have VM:∀q,q∈cw p->q∈dx s:=λq hq=>by unfold sn at hn;simpa using bY.1 hn q hq
 have hA:oD (mL s ⟨d,p⟩):=JS h.EH λy hy e=>hdn (by rw[<-(show y.id=d from e)];exact aI.2 ⟨y,hy,rfl⟩);have hc:∀x,x∈mL s ⟨d,p⟩->∀q,q∈cw x.pat->q∈dx (mL s ⟨d,p⟩):=λx hx q hq=>by rcases oV.1 hx with rfl|hx;exact Et.2 (.inr (VM q hq));exact Et.2 (.inr (h.GL x hx q hq))
 have ajP:∀y,y∈s->(oB y.pat).2=0:=λy hy=>by have :=h.id y hy;unfold oe at this;by_cases g:(oB y.pat).2≠0;rw[af g]at this;exact absurd (aB Prod.snd this) g;exact fE.1 g
 refine⟨by rw[JR];omega,hA,λx hx=>?_,hc,?_,λx hx=>?_⟩;rcases oV.1 hx with rfl|hx;exact hid;exact h.id x hx;refine UW hA hc (o:=bA s++[d]) (GN (λa b e hab y hy ZB q hq=>?_) λy hy ZB q hq=>?_) λq hq=>?_;rcases oV.1 hy with rfl|hy;exfalso;have he:e∈bA s:=by rw[hab];simp
 exact hdn (by rw[show d=e from ZB];exact(rF h e).1 he);exact OV h.EH a b e hab y hy ZB q hq;rcases oV.1 hy with rfl|hy;exact(rF h q).2 (VM q hq);exact absurd (show d∈dx s from by rw[<-(show y.id=d from ZB)];exact aI.2 ⟨y,hy,rfl⟩) hdn;rcases Et.1 hq with rfl|hq;simp;exact gY _ ((rF h q).2 hq);rcases oV.1 hx with rfl|hx;rw[ML h.EH hdn hp (λg=>hdn (VM _ g))];exact hr;rw[ML h.EH hdn (ajP x hx) (λg=>hdn (h.GL x hx _ g))];exact h.refs x hx
theorem OW {s:List bO}(h:oE s){p:ga}(hf:DQ p)(afx:(dw p).1.length<=100000)(h0:(yT s p).2.2=0):oE (yT s p).1/\(yT s p).1=mL s ⟨(oe p).1,p⟩/\(yT s p).2.1=(oe p).1/\oe p=((yT s p).2.1,0)/\(oe p).1∉dx s:=by
 unfold yT at h0⊢;by_cases h1:(oe p).2≠0;rw[af h1]at h0;exact absurd h0 h1;rw[aa h1]at h0⊢;by_cases h2:(gh s (oe p).1).2=true;rw[af h2]at h0;exfalso;split at h0;exact absurd h0 dD;exact absurd h0 dD;rw[aa h2]at h0⊢;by_cases h3:sn (dx s) (cw p)=false;rw[af h3]at h0;exact absurd h0 dD;rw[aa h3]at h0⊢;by_cases h4:vb s p (oe p).1≠0;rw[af h4]at h0;exact absurd h0 h4;rw[aa h4]at h0⊢;by_cases h5:400<=s.length;rw[af h5]at h0;exact absurd h0 dD;rw[aa h5]at h0⊢;have hid:oe p=((oe p).1,0):=Prod.ext rfl (fE.1 h1);have adW:(oB p).2=0:=by have :=hid;unfold oe at this;by_cases g:(oB p).2≠0;exfalso;rw[af g]at this;exact g (aB Prod.snd this);exact fE.1 g
 have hnew:(gh s (oe p).1).2=false:=by simpa using h2
 have hdn:(oe p).1∉dx s:=λg=>by obtain⟨y,hy,e⟩:=aI.1 g;rw[<-e,nH h.ok.EH hy]at hnew;cases hnew
 have hok:=afD h.ok (p:=p) (d:=(oe p).1) oO hid adW hnew (by simpa using h3) (fE.1 h4);refine⟨⟨⟨by rw[JR];omega,λx hx=>?_⟩,hok,λx hx=>?_⟩,rfl,rfl,hid,hdn⟩;rcases oV.1 hx with rfl|hx;exact hf;exact h.fit.each x hx;rcases oV.1 hx with rfl|hx;exact⟨hf,adW,afx⟩;exact h.q x hx
def cX1:eG:=⟨1,aU,1,aU,[],0,[],aU,aU,[],[]⟩
def cX3:eG:=⟨3,aU,0,aU,[],420,[],aU,aU,[],[]⟩
def pA:ga:=⟨[97,110,110],[],0,[],[cX1,cX3]⟩
def dA:Dg:=⟨[160,106,104,240,57,97,91,16,176,25,50,185,85,229,48,181,189,223,53,124,235,164,54,255,44,53,61,120,240,173,229,243],rfl⟩
def pB:ga:=Cc ⟨dA,0⟩ 493 1 [⟨dA,1⟩]
def dB:Dg:=⟨[151,208,136,182,187,212,76,247,16,24,48,160,94,212,99,129,50,158,7,246,217,108,91,194,29,39,69,44,0,150,19,228],rfl⟩
def pC:ga:=Cc ⟨dA,0⟩ 511 2 [⟨dA,1⟩]
def dC:Dg:=⟨[239,82,228,151,204,79,186,248,96,92,196,232,5,98,183,44,77,223,70,113,42,92,202,169,137,91,57,217,119,231,180,56],rfl⟩
def sA:List bO:=[⟨dA,pA⟩]
def sB:List bO:=[⟨dB,pB⟩,⟨dA,pA⟩]
def sC:List bO:=[⟨dB,pB⟩,⟨dA,pA⟩,⟨dC,pC⟩]
def lA:List bD:=(dw pA).1.map (fU dA)
def lB:List bD:=(dw pB).1.map (fU dB)
def lC:List bD:=(dw pC).1.map (fU dC)
theorem acU {p:ga}{e:Bytes}{d:Dg}(h:oB p=(e,0))(hs:ajf e=d.1):oe p=(d,0):=by unfold oe;rw[h,aa (λg=>g rfl)];exact aB (λz:Dg=>(z,(0:Int))) (Subtype.ext ((ajg e).trans hs))
theorem OY {p:ga}(h:(oB p).2=0):oB p=((oB p).1,0):=by rw[<-h]
theorem idA:oe pA=(dA,0):=acU (OY kK) kK
theorem idB:oe pB=(dB,0):=acU (OY kK) kK
theorem idC:oe pC=(dC,0):=acU (OY kK) kK
theorem JV {p:ga}{d:Dg}(h:oe p=(d,0)):(dJ p).1=(dw p).1.map (fU d):=by unfold dJ;rw[h,aa (λg=>g rfl)]
theorem atA:(dJ pA).1=lA:=JV idA
theorem atB:(dJ pB).1=lB:=JV idB
theorem atC:(dJ pC).1=lC:=JV idC
theorem Su {s:List bO}{x:bg}{p:ga}{l:List bD}(hg:(gh s x.p).1=p)(ha:(dJ p).1=l)(h:¬(x.n<0\/(l.length:Int)<=x.n)):iy s x=(l.getD x.n.toNat ef,true):=by unfold iy;rw[hg,ha,aa h]
theorem acV {s:List bO}(hg:(gh s dA).1=pA)(mode time:Int)(d:Dg):vb s (Cc ⟨dA,0⟩ mode time [⟨dA,1⟩]) d=0:=by
 have h0:iy s ⟨dA,0⟩=(lA.getD 0 ef,true):=Su hg atA dD;have h1:iy s ⟨dA,1⟩=(lA.getD 1 ef,true):=Su hg atA dD;have ho:Yi s (Jr ⟨dA,0⟩ mode [⟨dA,1⟩]) d ⟨dA,1⟩=0:=by unfold Yi;rw[h1];kernel_rfl
 show eo ([Zz s (Jr ⟨dA,0⟩ mode [⟨dA,1⟩]) d]++[])=0;have hc:Zz s (Jr ⟨dA,0⟩ mode [⟨dA,1⟩]) d=0:=by show eo ((if dA=bF then 0 else if(iy s ⟨dA,0⟩).2=false then 7 else if er 3 (iy s ⟨dA,0⟩).1=false then 8 else 0)::0::0::0::([Yi s (Jr ⟨dA,0⟩ mode [⟨dA,1⟩]) d ⟨dA,1⟩]++[]))=0;rw[ho,h0];kernel_rfl
 rw[hc];rfl
theorem UY {s:List bO}{p:ga}{d:Dg}(hi:oe p=(d,0))(hg:(gh s d).2=false)(hn:sn (dx s) (cw p)=true)(hr:vb s p d=0)(hl:s.length<400):yT s p=(mL s ⟨d,p⟩,d,0):=by unfold yT;rw[hi,aa (λg=>g rfl),hg,aa dD,hn,aa dD,hr,aa (λg=>g rfl),aa oO]
theorem ahM:yT [] pA=(sA,dA,0):=(UY idA rfl kK kK dD).trans rfl
theorem ahN:yT sA pB=(sB,dB,0):=(UY idB kK kK (acV kK _ _ _) dD).trans (aB (λz:List bO=>(z,dB,(0:Int))) kK)
theorem ahO:yT sB pC=(sC,dC,0):=(UY idC kK kK (acV kK _ _ _) dD).trans (aB (λz:List bO=>(z,dC,(0:Int))) kK)
theorem UZ (c:eG)(h1:c.name=[])(h2:c.data=[])(h3:c.lines=[])(h4:c.over.length<=1):SzC c:=by refine⟨by rw[h1];exact zL,by rw[h2];exact zL,?_,oO⟩;rw[h3];exact⟨zL,λx h=>by cases h⟩
theorem ajR:DQ pA:=Oy ⟨dD,dD,dD,dD,λc hc=>by rcases aQ.1 hc with rfl|hc;exact UZ _ rfl rfl rfl dD;obtain rfl:=aS.1 hc;exact UZ _ rfl rfl rfl dD⟩ (Uh kK)
theorem afF (file:bg)(mode time:Int)(x:bg):DQ (Cc file mode time [x]):=Oy ⟨by show(3:Nat)<=_;decide,by show(0:Nat)<=_;decide,by show(0:Nat)<=_;decide,by show(1:Nat)<=_;decide,λc hc=>by obtain rfl:=aS.1 hc;exact UZ _ rfl rfl rfl (ay 1)⟩ (Uh kK)
theorem ajS:oE []:=⟨⟨zL,λx h=>by cases h⟩,acH kK,λx h=>by cases h⟩
theorem ahP:oE sA:=by have :=(OW ajS ajR (bH (JQ kK) dD) (by rw[ahM])).1;rwa[ahM]at this
theorem ajT:oE sB:=by have :=(OW ahP (p:=pB) (afF _ _ _ _) (bH (JQ kK) dD) (by rw[ahN])).1;rwa[ahN]at this
theorem ahQ:oE sC:=by have :=(OW ajT (p:=pC) (afF _ _ _ _) (bH (JQ kK) dD) (by rw[ahO])).1;rwa[ahO]at this
theorem WR:cz sA=lA:=by show(dJ (gh sA dA).1).1++[]=lA;rw[show(gh sA dA).1=pA from kK,atA,aY]
theorem afG:oT sA=kJ lA:=by show kJ (fL sA (bA sA))=_;rw[show bA sA=[dA]from kK];exact aB kJ WR
theorem WS:cz sC=lB++(lA++(lC++[])):=by show(dJ (gh sC dB).1).1++((dJ (gh sC dA).1).1++((dJ (gh sC dC).1).1++[]))=_;rw[show(gh sC dB).1=pB from kK,show(gh sC dA).1=pA from kK,show(gh sC dC).1=pC from kK,atA,atB,atC]
theorem WT:oT sC=kJ (lA++(lB++(lC++[]))):=by show kJ (fL sC (bA sC))=_;rw[show bA sC=[dA,dB,dC]from kK];refine aB kJ ?_;show(dJ (gh sC dA).1).1++((dJ (gh sC dB).1).1++((dJ (gh sC dC).1).1++[]))=_;rw[show(gh sC dB).1=pB from kK,show(gh sC dA).1=pA from kK,show(gh sC dC).1=pC from kK,atA,atB,atC]
def al5 (all eff:List bD):List bg:=(all.filter λa=>decide ((oR eff a.id).length=0)).map λa=>a.id
theorem OZ (s:List bO):gL s=al5 (cz s) (oT s):=rfl
theorem acW:Bt sA ⟨dA,0⟩=420:=by unfold Bt fH;rw[OZ,WR,afG];kernel_rfl
theorem WU:∃a b,fH sC ⟨dA,0⟩ 3=[a,b]/\a.mode=493:=by unfold fH;rw[OZ,WS,WT];exact⟨(lB.getD 0 ef),(lC.getD 0 ef),kK,kK⟩
theorem acX:Bt sC ⟨dA,0⟩=493:=by obtain⟨a,b,h,hm⟩:=WU;unfold Bt;rw[h];exact hm
theorem afH:iL sC 2=[⟨9,⟨dA,0⟩,[⟨dB,0⟩,⟨dC,0⟩]⟩]:=by unfold iL Eu vC jP;rw[OZ,WS,WT];kernel_rfl
end Qv
