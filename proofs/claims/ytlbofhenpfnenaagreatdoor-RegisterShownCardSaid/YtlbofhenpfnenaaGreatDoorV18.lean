/- Part 43 of the proof: its lemmas. No condition. -/
import Derived.Test.YtlbofhenpfnenaaGreatDoorV6
import Derived.Test.YtlbofhenpfnenaaGreatDoorV9
import Derived.Test.YtlbofhenpfnenaaGreatDoorV17
set_option maxRecDepth 10000
set_option maxHeartbeats 80000000
set_option linter.all false
open Go Go.Proofs Go.RowKit
namespace Qv
theorem Uz {x:bg}{d:Dg}(h:x.p=bF)(h0:0<=x.n):cr x d=⟨d,x.n⟩:=af ⟨h,h0⟩
theorem rC (x:bg)(d:Dg):ak C 150 [.agg (cI x),.imp (cD d)] (λr=>r=.val (.agg (cI (cr x d)))):=by refine ag Tryz.func150 rfl rfl rfl ?_;refine⟨none,?_⟩;refine cl (fA x) ?_;unfold cr;by_cases h:x.p=bF;rw[an h];refine az (λh2=>?_) (λh2=>?_);rw[af ⟨h,h2⟩];exact rfl;rw[aa λg=>h2 g.2];exact rfl;rw[ah h,aa λg=>h g.1];exact rfl
theorem WE {aN:List (Nat×List FV)}{o:Nat}{own:List bD}(k j i:Nat)(h:Qv.getObj aN o=some (FV.eL k (FV.eL j (FV.eL i (bW own))))):∃ys,Qv.getObj aN o=some ys/\ys.length=(bW own).length/\∀(i:Nat)(x y:FV),ys[i]?=some x->(bW own)[i]?=some y->aF x y:=by rw[qw,qw,qw]at h;exact aC h
theorem FF (d E:Nat)(rL:List (List AV)):∀l:List AV,FV.CA d E rL (aH l)=aH l|[]=>rfl|x::l=>by simp only[aH,FV.CA,FV.KH,FF d E rL l]
def pR (own:List bD)(d:Dg)(k:Nat):List bD:=(own.take k).map (fU d)++own.drop k
theorem UA (own:List bD)(d:Dg):pR own d 0=own:=rfl
theorem YD (own:List bD)(d:Dg)(k:Nat):(pR own d k).length=own.length:=by unfold pR;simp;omega
theorem YE (own:List bD)(d:Dg):pR own d own.length=own.map (fU d):=by unfold pR;simp
theorem acw {own:List bD}{k:Nat}(h:k<own.length)(d:Dg):bW (pR own d k)=bW ((own.take k).map (fU d))++(aH (cA own[k])++bW (own.drop (k+1))):=by unfold pR;rw[bL h,sr,<-gW,sr,Jy]
theorem UB {own:List bD}{k:Nat}(h:k<own.length)(d:Dg):bW (pR own d (k+1))=bW ((own.take k).map (fU d))++(aH (cA (fU d own[k]))++bW (own.drop (k+1))):=by unfold pR;rw[ec h,aM,bf,sr,sr,List.map_singleton,Jy]
theorem Sa {A B X:List FV}{z w:FV}(hz:aF z w){aN:List (Nat×List FV)}{o:Nat}(h:Qv.getObj aN o=some (A++((X++[z])++B))){Y:List FV}(hY:Y=A++((X++[w])++B)):∃ys,Qv.getObj aN o=some ys/\ys.length=Y.length/\∀(i:Nat)(x y:FV),ys[i]?=some x->Y[i]?=some y->aF x y:=by
 subst hY;refine⟨_,h,by simp,λi x y h1 h2=>?_⟩;have e1:A++((X++[z])++B)=(A++X)++(z::B):=by simp
 have e2:A++((X++[w])++B)=(A++X)++(w::B):=by simp
 rw[e1]at h1;rw[e2]at h2;by_cases hl:i<(A++X).length;rw[cO hl]at h1 h2;rw[h1]at h2;exact aF.eq (au h2);rw[dY oO]at h1 h2;cases hi:i-(A++X).length with
 |zero=>rw[hi]at h1 h2;cases h1;cases h2;exact hz
 |succ n=>rw[hi]at h1 h2;simp only[mb]at h1 h2;rw[h1]at h2;exact aF.eq (au h2)
theorem ajF (d:Dg)(a:bD):(st2 d a).kind=a.kind:=by unfold st2;split<;>rfl
theorem ajG (d:Dg)(a:bD):(KB d a).kind=a.kind:=by unfold KB;split<;>rfl
theorem OO {l:List bg}:∀ys,ys∈iq l->ys.length=33/\∀y,y∈ys->y.one=true:=by intro ys h;obtain⟨x,-,rfl⟩:=aI.1 h;exact⟨rfl,λy hy=>bY.1 (show(cI x).all AV.one=true from rfl) y hy⟩
theorem acy (l:List bg):(iq l).flatten.length=l.length*33:=by rw[gG (e:=33) λzs h=>(OO zs h).1];simp[iq]
theorem ahD (x:bg):ahA (cI x):=by intro y hy;have :=bY.1 (show(cI x).all (λy=>match y with|.int _ _=>true|_=>false)=true from rfl) y hy;cases y<;>first|exact⟨_,_,rfl⟩|cases this
theorem afw (l:List bg)(x:bg)(o:Nat):FV.eL o (aH (iq l).flatten++aH [cI x].flatten)=aH (iq (l++[x])).flatten:=by
 have :aH (iq l).flatten++aH [cI x].flatten=aH (iq (l++[x])).flatten:=by unfold iq;rw[aM,ye,eP,eP,eP,aM];rfl
 rw[this];exact jj o _
theorem alQ:Sort.SWO (Proofs.ltOf gN):=⟨λx=>by unfold Proofs.ltOf;exact ah (su x),λx y z h1 h2=>by unfold Proofs.ltOf at*;exact an (rA (qx h1) (qx h2)),λx y z h1 h2=>by
 unfold Proofs.ltOf at*;refine ah λh=>?_;have h1:=ym h1;have h2:=ym h2;by_cases e:gN y x=0;rw[wC e]at h2;exact h2 h;have :=rz x y;have h3:gN y x<0:=oO
 exact h2 (rA h3 h)⟩
theorem JE (Cx:Ctx)(hP:Cx.P=Tryz.prog)(l:List bg)(hl:l.length<=2^40):ZD Cx 152 33 33 (iq l).flatten [.fn (.func 118) [] []] (λr ys=>r=false/\ys=(iq (oU l)).flatten):=Mo cI 33 (λ_=>rfl) ahD Tryz.sortI152 dD Tryz.isAgg33 Tryz.sizeOf33 gN alQ (λx y h1 h2=>by have :=rz x y;exact wC oO) 118 (enters_of Tryz.func118 kK rfl) Uv Cx hP ⟨_,Tryz.func152,rfl,rfl⟩ 33 l oO
theorem Eg (d:Nat)(ys X:List AV):FV.Pu d ys (aH X)=aH X:=by rw[FV.vp,eP,gZ];rfl
theorem agw (own:List bD)(k d:Nat)(ys:List AV):FV.Pu d ys (FV.eL k (bW own))=bW own:=by rw[qw];exact Eg d ys _
theorem acz {aN:List (Nat×List FV)}{o:Nat}{own:List bD}(k d:Nat)(ys:List AV)(h:Qv.getObj aN o=some (FV.Pu d ys (FV.eL k (bW own)))):∃zs,Qv.getObj aN o=some zs/\zs.length=(bW own).length/\∀(i:Nat)(x y:FV),zs[i]?=some x->(bW own)[i]?=some y->aF x y:=by rw[agw]at h;exact aC h
theorem JF {p:ga}(h:KD p)(hn:∀a,a∈(dw p).1->(a.over.map λx=>cr x (oe p).1).Nodup)(hid:OG (dw p).1):ak C 121 [.agg (cP p)] (λr=>r=.own (some [.int .i64 0]) 48 172 (eU ((dw p).1.map (fU (oe p).1)))):=by
 have hbd:=(kG p).2;have afx:=h.OK;have hI:=Uu h.ok;refine bn {vu with opens:=[85],BB:=[25]} [14,16,18] Tryz.func121 rfl rfl rfl ?_;refine cl (Aj h).dN ?_;generalize(dw p).1=own at hn hbd hid afx⊢;refine⟨bW own,rfl,?_⟩;refine cF (λg=>absurd rfl g) (λ_=>?_);refine cl (acp h).dN ?_;rw[hI]at hn⊢;generalize Ri (eX (kE p))=d at hn⊢;refine cF (λg=>absurd rfl g) (λ_=>?_);refine⟨[7],cu (cells:=aH (cD d)) (ys:=cD d) rfl (bk _) rfl ?_⟩;refine⟨own.length,by rw[agw];exact jN own,?_⟩;refine bu 97 (λk:Nat=>[(4,.fe 16 48 172),(8,.fn (.func 150) [] [.p (.imp (cD d))]),(32,.fe 16 48 172),(33,.p (.int .i64 (own.length:Int))),(34,.p (.int .i64 k))]) (λk=>[(16,bW (pR own d k))]) (λk=>k<=own.length) (λk=>own.length-k) 0 (zL) kK wS ⟨(by rw[UA];exact acz 7 7 (cD d) kK),trivial⟩ ?_;intro k hk;refine az (λhlt=>?_) (λhge=>?_)
 ·have hlt:k<own.length:=by have :(k:Int)<(own.length:Int):=hlt;omega
  have vR:=acw hlt d;have hnext:=UB hlt d;have KQ:=hn own[k] (aK _);have AN:=hbd own[k] (aK _);have ahE:=hid k hlt;have hAl:(bW ((own.take k).map (fU d))).length=k*172:=by rw[jN,aj,aD];congr 1;omega
  have hCl:(bW (pR own d k)).length=own.length*172:=by rw[jN,YD]
  generalize own[k]=a at vR hnext KQ AN ahE;generalize bW ((own.take k).map (fU d))=A at vR hnext hAl;generalize bW (own.drop (k+1))=B at vR hnext;have hle:k*172+172<=own.length*172:=oO
  refine⟨k,k*172,rfl,rfl,by rw[hCl];exact hle,?_⟩;refine⟨A,aH (cA a),B,vR,hAl,?_⟩;refine cl (rC a.id d).dN ?_;have hw1:cr a.id d=⟨d,a.id.n⟩:=Uz (by rw[ahE]) (by rw[ahE];exact DF k);rw[hw1];have h1k:(st1 d a).kind=a.kind:=rfl;refine share (T:=?T1) (λH1=>?m1) ?r1;case m1=>refine cF (λh7=>?_) (λh7=>?_);refine cl (rC a.file d).dN ?_;refine dL 97 [(4,.fe 16 48 172),(8,.fn (.func 150) [] [.p (.imp (cD d))]),(32,.fe 16 48 172),(33,.p (.int .i64 (own.length:Int))),(34,.p (.int .i64 k)),(9,.p (.int .i64 k)),(10,.ptr 10 0)] [(10,aH (cA (st2 d (st1 d a)))),(16,bW (pR own d k))] kK wS ⟨(by rw[show st2 d (st1 d a)={st1 d a with file:=cr a.file d}from af h7];exact aC kK),tG 10 kK,trivial⟩ ?_;exact H1.out;refine dL 97 [(4,.fe 16 48 172),(8,.fn (.func 150) [] [.p (.imp (cD d))]),(32,.fe 16 48 172),(33,.p (.int .i64 (own.length:Int))),(34,.p (.int .i64 k)),(9,.p (.int .i64 k)),(10,.ptr 10 0)] [(10,aH (cA (st2 d (st1 d a)))),(16,bW (pR own d k))] kK wS ⟨(by rw[show st2 d (st1 d a)=st1 d a from aa (λg=>g h7)];exact aC kK),tG 10 kK,trivial⟩ ?_;exact H1.out
  case r1=>
   have hk2:=ajF d (st1 d a);rw[h1k]at hk2;generalize he2:st2 d (st1 d a)=a2 at hk2⊢;refine share (T:=?T2) (λH2=>?m2) ?r2;case m2=>refine aA (λh7=>?_) (λh7=>?_);refine cl (rC a2.parent d).dN ?_;refine dL 97 [(4,.fe 16 48 172),(8,.fn (.func 150) [] [.p (.imp (cD d))]),(32,.fe 16 48 172),(33,.p (.int .i64 (own.length:Int))),(34,.p (.int .i64 k)),(9,.p (.int .i64 k)),(10,.ptr 10 0)] [(10,aH (cA (KB d a2))),(16,bW (pR own d k))] kK wS ⟨(by rw[show KB d a2={a2 with parent:=cr a2.parent d}from af h7];exact aC kK),aC kK,trivial⟩ ?_;exact H2.out;refine dL 97 [(4,.fe 16 48 172),(8,.fn (.func 150) [] [.p (.imp (cD d))]),(32,.fe 16 48 172),(33,.p (.int .i64 (own.length:Int))),(34,.p (.int .i64 k)),(9,.p (.int .i64 k)),(10,.ptr 10 0)] [(10,aH (cA (KB d a2))),(16,bW (pR own d k))] kK wS ⟨(by rw[show KB d a2=a2 from aa h7];exact aC kK),aC kK,trivial⟩ ?_;exact H2.out
   case r2=>
    have hk3:=ajG d a2;generalize he3:KB d a2=a3 at hk3⊢;refine share (T:=?T3) (λH3=>?m3) ?r3;case m3=>refine aA (λh7=>?_) (λh7=>?_);refine cm 9 kK ?_;refine⟨_,(rC a3.fr d).dN,?_⟩;refine⟨_,(rC a3.to d).dN,?_⟩;refine dL 97 [(4,.fe 16 48 172),(8,.fn (.func 150) [] [.p (.imp (cD d))]),(32,.fe 16 48 172),(33,.p (.int .i64 (own.length:Int))),(34,.p (.int .i64 k)),(9,.p (.int .i64 k)),(10,.ptr 10 0)] [(10,aH (cA (KC d a3))),(16,bW (pR own d k))] kK wS ⟨(by rw[show KC d a3={a3 with fr:=cr a3.fr d,to:=cr a3.to d}from af h7];exact aC kK),aC kK,trivial⟩ ?_;exact H3.out;refine dL 97 [(4,.fe 16 48 172),(8,.fn (.func 150) [] [.p (.imp (cD d))]),(32,.fe 16 48 172),(33,.p (.int .i64 (own.length:Int))),(34,.p (.int .i64 k)),(9,.p (.int .i64 k)),(10,.ptr 10 0)] [(10,aH (cA (KC d a3))),(16,bW (pR own d k))] kK wS ⟨(by rw[show KC d a3=a3 from aa h7];exact aC kK),aC kK,trivial⟩ ?_;exact H3.out
    case r3=>
     have acB:(KC d a3).over=a.over:=by rw[Ji,<-he3,Jh,<-he2,Jg];rfl
     have hfull:fU d a={KC d a3 with over:=oU (a.over.map λx=>cr x d)}:=by have :Wt d a.over=oU (a.over.map λx=>cr x d):=(Uy KQ).symm;unfold fU Zy;rw[he2,he3,acB,this]
     generalize KC d a3=a4 at acB hfull⊢;have Ua:a4.over.length<=400:=by rw[acB];exact AN
     refine bu 97 (λx:Nat×Bool×List bg=>[(4,.fe 16 48 172),(8,.fn (.func 150) [] [.p (.imp (cD d))]),(32,.fe 16 48 172),(33,.p (.int .i64 (own.length:Int))),(34,.p (.int .i64 k)),(9,.p (.int .i64 k)),(10,.ptr 10 0),(11,match x.2.1 with|true=>.fe 85 33 33|false=>.full []),(74,.p (.sl (iq a4.over))),(75,.p (.int .i64 (((iq a4.over).length:Nat):Int))),(76,.p (.int .i64 x.1))]) (λx=>(10,aH (cA a4))::(16,bW (pR own d k))::(match x.2.1 with|true=>[(85,aH (iq x.2.2).flatten)]|false=>[])) (λx=>x.1<=a4.over.length/\x.2.2=(a4.over.take x.1).map (λy=>cr y d)/\(x.2.1=false->x.1=0)) (λx=>a4.over.length-x.1) (0,false,[]) ⟨zL,rfl,λ_=>rfl⟩ kK wS oS ?_;rintro⟨j,b,acc⟩ ⟨hj,hacc,hb⟩;have hj:j<=a4.over.length:=hj;have hacc:acc=(a4.over.take j).map (λy=>cr y d):=hacc;have ajH:acc.length=j:=by rw[hacc,aj,aD];omega
     have jH:(iq a4.over).length=a4.over.length:=by simp[iq]
     refine az (λdI=>?_) (λtA=>?_);have Hl:j<a4.over.length:=by have :(j:Int)<(((iq a4.over).length:Nat):Int):=dI;omega
     have iX:(iq a4.over)[((j:Nat):Int).toNat]?=some (cI a4.over[j]):=ct rfl Hl;have acC:acc++[cr a4.over[j] d]=(a4.over.take (j+1)).map (λy=>cr y d):=by rw[hacc,ec Hl,aM];rfl
     generalize a4.over[j]=y at iX acC;cases b with
     |false=>obtain rfl:j=0:=hb rfl;obtain rfl:acc=[]:=bK.1 ajH;refine⟨oO,_,iX,rfl,?_⟩;refine cl (rC y d).dN ?_;refine⟨mu _ _,(λzs h=>by rw[aS.1 h];rfl),(show 1*40<=140737488355328 by decide),aH (iq [cr y d]).flatten,rfl,?_⟩;exact⟨1,dD,aO (1,true,[cr y d]) ⟨Hl,acC,(λh=>nomatch h)⟩ (by show a4.over.length-1<a4.over.length-0;omega) kK wS ⟨aC kK,WE 85 84 13 kK,aC kK,trivial⟩⟩
     |true=>refine⟨oO,_,iX,rfl,?_⟩;refine cl (rC y d).dN ?_;refine⟨acc.length,by rw[jj,jj,iZ];exact acy acc,(λzs h=>by rw[aS.1 h];rfl),by show(acc.length+1)*40<=_;omega,aH (iq (acc++[cr y d])).flatten,by rw[jj,jj];exact afw acc (cr y d) _,?_⟩;exact nx (j+1) (aO (j+1,true,acc++[cr y d]) ⟨Hl,acC,(λh=>nomatch h)⟩ (by show a4.over.length-(j+1)<a4.over.length-j;omega) kK wS ⟨aC kK,WE 85 84 13 kK,aC kK,trivial⟩)
     obtain rfl:j=a4.over.length:=by have :¬(j:Int)<(((iq a4.over).length:Nat):Int):=tA;omega
     rw[aJ,acB]at hacc;subst hacc;have hcA:cA (fU d a)=(cA a4).take 171++[.sl (iq (oU (a.over.map λx=>cr x d)))]:=by rw[hfull];rfl
     have hmid:aH (cA (fU d a))=(aH ((cA a4).take 171))++[.p (.sl (iq (oU (a.over.map λx=>cr x d))))]:=by rw[hcA,eP,eP,aM];rfl
     rw[hmid]at hnext;cases b with
     |false=>
      have h0:a4.over.length=0:=hb rfl;have ho0:a.over=[]:=by rw[<-acB];exact bK.1 h0
      refine cl (Ed 118).dN ?_;refine .inr ?_;refine⟨k,k*172,rfl,rfl,by rw[hCl];exact hle,?_⟩;refine⟨A,aH (cA a),B,vR,hAl,?_⟩;refine⟨A++((aH ((cA a4).take 171)++[.full []])++B),rfl,?_⟩;exact nx (k+1) (aO (k+1) hlt oO kK wS ⟨Sa (by rw[ho0,show oU (([]:List bg).map λx=>cr x d)=[]from by simp[oU]];exact aF.ag1 []) kK hnext,trivial⟩)
     |true=>refine .inr (.inr (An rfl rfl (bk _) (JE _ rfl (a.over.map λx=>cr x d) (by rw[aj];omega)) λr ys hr=>?_));obtain⟨rfl,rfl⟩:=hr;refine .inl ⟨85,33,iq (oU (a.over.map λx=>cr x d)),⟨⟨_,rfl,bk _⟩,OO⟩,?_⟩;refine⟨k,k*172,rfl,rfl,by rw[show FV.CA 85 33 (iq (oU (a.over.map λx=>cr x d))) (bW (pR own d k))=bW (pR own d k)from FF _ _ _ _,hCl];exact hle,?_⟩;refine⟨A,aH (cA a),B,(FF _ _ _ _).trans vR,hAl,?_⟩;refine⟨A++((aH ((cA a4).take 171)++[.eH 85 33 33 (iq (oU (a.over.map λx=>cr x d)))])++B),rfl,?_⟩;exact nx (k+1) (aO (k+1) hlt oO kK wS ⟨Sa (aF.Gp 85 33 33 _) kK hnext,trivial⟩)
 obtain rfl:k=own.length:=by have :¬(k:Int)<(own.length:Int):=hge;omega
 rw[YE];exact⟨eU (own.map (fU d)),jW _,bk _,rfl⟩
theorem UC {p:ga}(h:KD p)(hn:∀a,a∈(dw p).1->(a.over.map λx=>cr x (oe p).1).Nodup)(hid:OG (dw p).1):ak C 93 [.agg (cP p)] (λr=>r=.own (some [.int .i64 0]) 48 172 (eU ((dw p).1.map (fU (oe p).1)))):=by refine bn vu [] Tryz.func93 rfl rfl rfl ?_;refine cl (JF h hn hid).dN ?_;generalize(dw p).1.map (fU (oe p).1)=l;refine⟨bW l,rfl,?_⟩;exact⟨eU l,jW _,bk _,rfl⟩
end Qv
