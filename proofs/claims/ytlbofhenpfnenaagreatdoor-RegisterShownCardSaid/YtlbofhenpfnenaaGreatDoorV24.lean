/- Part 49 of the proof: its lemmas. No condition. -/
import Derived.Test.YtlbofhenpfnenaaGreatDoorV8
import Derived.Test.YtlbofhenpfnenaaGreatDoorV19
import Derived.Test.YtlbofhenpfnenaaGreatDoorV23
set_option maxRecDepth 10000
set_option maxHeartbeats 80000000
set_option linter.all false
open Go Go.Proofs Go.RowKit
namespace Qv
theorem adv {sA sB sC:List bO}{dA dB dC:Dg}{a b:bD}{i j:bg}(h1:ak C 17 [.sl (cn []),.agg (cP pA)] (λr=>r=.val (Jq (sA,dA,true))))(h2:ak C 17 [.sl (cn sA),.agg (cP (Cc ⟨dA,0⟩ 493 1 [⟨dA,1⟩]))] (λr=>r=.val (Jq (sB,dB,true))))(h3:ak C 17 [.sl (cn sB),.agg (cP (Cc ⟨dA,0⟩ 511 2 [⟨dA,1⟩]))] (λr=>r=.val (Jq (sC,dC,true))))(h4:ak C 20 [.sl (cn sC),.agg (cI ⟨dA,0⟩),.int .i64 3] (λr=>r=.val (.sl (eU [a,b]))))(h5:ak C 13 [.sl (cn sC)] (λr=>r=.val (.sl [cK ⟨9,⟨dA,0⟩,[i,j]⟩])))(h6:ak C 21 [.sl (cn sA),.agg (cI ⟨dA,0⟩)] (λr=>r=.val (.int .i64 420)))(h7:ak C 21 [.sl (cn sC),.agg (cI ⟨dA,0⟩)] (λr=>r=.val (.int .i64 493)))(hc:¬gN ⟨dC,0⟩ ⟨dB,0⟩<0):ak C 15 [] (λr=>r=.val (.bool true)):=by refine ag Tryz.func15 rfl rfl rfl ?_;refine cl h1 ?_;refine⟨.plan ⟨[0,1,2,3],[4,5,6,7],[],[2]⟩ (.one 0 (.one 1 (.one 2 (.one 3 (.alt 4 (.alt 5 (.alt 6 (.alt 7 .fin .stop) .stop) .stop) (.alt 5 (.alt 4 (.alt 6 (.alt 7 .fin .stop) .stop) .stop) .stop)))))) (some (sg 112 0 [(1,.p (.sl (cn sA))),(2,.ptr 2 0),(3,.p (.bool true)),(4,.ptr 4 0),(5,.ptr 5 0)] [(2,aH (cD dA)),(4,aH (cI ⟨dA,0⟩)),(5,aH (cI ⟨dA,1⟩))] [] [] [])),kK,?_,?_⟩;refine⟨_,rfl,kK,?_⟩;refine⟨_,rfl,kK,?_⟩;refine⟨_,rfl,kK,?_⟩;refine⟨_,rfl,kK,?_⟩;refine⟨?_,?_⟩;refine⟨kK,?_⟩;refine⟨kK,?_⟩;refine⟨kK,?_⟩;refine⟨kK,?_⟩;exact bw kK wS oS trivial trivial;refine⟨kK,?_⟩;refine⟨kK,?_⟩;refine⟨kK,?_⟩;refine⟨kK,?_⟩;exact bw kK wS oS trivial trivial;refine cl (RB ⟨dA,0⟩ 493 1 [⟨dA,1⟩]) ?_;refine cl h2 ?_;refine cl (RB ⟨dA,0⟩ 511 2 [⟨dA,1⟩]) ?_;refine cl h3 ?_;refine cl h4 ?_;refine cl h5 ?_;refine⟨none,?_⟩;refine bl ?_;refine bl ?_;refine bl ?_;refine cF (λh=>absurd rfl h) (λ_=>?_);refine cF (λh=>absurd rfl h) (λ_=>?_);refine cl h6 ?_;refine cF (λh=>absurd rfl h) (λ_=>?_);refine cl (zP ⟨dC,0⟩ ⟨dB,0⟩) ?_;refine az (λg=>absurd g hc) (λ_=>?_);refine cm 29 kK ?_;refine⟨.int .i64 493,h7,?_⟩;refine aA (λ_=>?_) (λh=>absurd rfl h);refine⟨dD,_,rfl,rfl,?_⟩;refine aA (λ_=>?_) (λh=>absurd rfl h);refine⟨dD,_,rfl,rfl,?_⟩;refine ou ?_;refine iu (a:=⟨dA,0⟩) (b:=⟨dA,0⟩) ?_;rw[an (rfl:(⟨dA,0⟩:bg)=⟨dA,0⟩)];refine⟨dD,_,rfl,rfl,?_⟩;refine aA (λ_=>?_) (λh=>absurd rfl h);exact rfl
theorem Kr {s t:List bO}{p:ga}{d:Dg}(h:oE s)(hl:s.length<=2^20)(hp:DQ p)(ha:yT s p=(t,d,0)):ak C 17 [.sl (cn s),.agg (cP p)] (λr=>r=.val (Jq (t,d,true))):=by
 have hg:=abX s p h.fit hl hp;have e:Oz s p=(t,d,true):=by unfold Oz;rw[ha];rfl
 rwa[e]at hg
theorem wK:ak C 15 [] (λr=>r=.val (.bool true)):=by obtain⟨a,b,hv,-⟩:=WU;have h4:=rK ahQ ⟨dA,0⟩ 3;rw[hv]at h4;have h5:=FU ahQ;rw[afH]at h5;have h6:=Ey ahP ⟨dA,0⟩;rw[acW]at h6;have h7:=Ey ahQ ⟨dA,0⟩;rw[acX]at h7;exact adv (Kr ajS dD ajR ahM) (Kr ahP dD (afF _ _ _ _) ahN) (Kr ajT dD (afF _ _ _ _) ahO) h4 h5 h6 h7 (by rw[show gN ⟨dC,0⟩ ⟨dB,0⟩=1 from kK];decide)
theorem amd (data old new:Bytes)(offset:Int):ak C 8 [.str data,.int .i64 offset,.str old,.str new] (λr=>r=.val (.bool true)):=by
 have EI:=wK;refine ag Tryz.func8 rfl rfl rfl ?_;refine⟨none,?_⟩;refine az (λh1=>?_) (λh1=>?_);refine cl EI ?_;exact rfl;refine az (λh2=>?_) (λh2=>?_);refine cl EI ?_;exact rfl;refine az (λh3=>?_) (λh3=>?_);refine cl EI ?_;exact rfl;have g1:data.length<=3000:=by have :¬(data.length:Int)>3000:=h1;omega
 have g2:old.length<=3000:=by have :¬(old.length:Int)>3000:=h2;omega
 have g3:new.length<=3000:=by have :¬(new.length:Int)>3000:=h3;omega
 have c1:=ya data offset old new oO g2 g3;have c2:=Ul data offset old new g1 g2 g3;generalize jU data offset old new=X at c1 c2;obtain⟨y,e⟩:=X;refine cl c1 ?_;refine cl c2 ?_;refine⟨none,?_⟩;refine aA (λ_=>?_) (λh=>absurd rfl h);refine aA (λ_=>?_) (λh=>absurd rfl h);refine cl EI ?_;exact rfl
theorem ame (s:List bO)(hz:SzT s):ak C 3 [.sl (cn s)] (λr=>r=.val (.bool true)):=by
 have EI:=wK;refine ag Tryz.func3 rfl rfl rfl ?_;refine⟨none,?_⟩;refine cl (Jp s hz) ?_;refine bl ?_;cases hf:GA s with
 |false=>refine cl EI ?_;exact rfl
 |true=>
  obtain⟨h,hl8,hE,-⟩:=UU hz hf;have hl:s.length<=400:=oO
  have c1:=FU h;have c2:=acT s h.fit hl hE λa _=>afE s a.id h.fit hl hE h.ok.EH h.ok.GL (EC h a.id) (by have :=EB hl a.id;omega);have hal:=jb hl;have hk:∀n,(Eu s n).length<=(cz s).length:=λn=>wI s _ _;have jH:(iL s 2).length<=2^47:=by rw[kQ,kQ,aq,aq];have :=hk 0;have :=hk 1;have :(iL s 0).length=0:=rfl;omega
  have hid:∀c,c∈iL s 2->c.ids.length<=2^47:=λc hc=>by unfold iL Eu at hc;obtain⟨n,-,hc⟩:=cV.1 hc;obtain⟨a,-,hc⟩:=cV.1 hc;unfold vC at hc;split at hc;cases hc;obtain rfl:=aS.1 hc;rw[aj];have :(pH (cz s) (gL s) a.id (3+(n:Int))).length<=(cz s).length:=di _ _;omega
  have c3:=Zp (iL s 2) (iL s 2) jH jH hid hid;rw[an rfl]at c3;generalize(iL s 2).map cK=Q at c1 c2 c3;refine cl c1 ?_;refine cl c2 ?_;refine cl c3 ?_;refine cl EI ?_;exact rfl
theorem ah4 {C:Ctx}{ops:Array Oper}{K:ai->Prop}{S:ai}(x y:FV)(d e:Nat)(hk:mT ops.toList=[d,e])(h:KZ C ops ops.toList (λS'=>S'.get d=x/\S'.get e=y) S)(hK:K (((S.sG (dstsOf ops.toList)).put (some d) x).put (some e) y)):Kv C ops ops.toList (λS'=>getAll S' (mT ops.toList)=[x,y]) S/\BD K (S.sG (dstsOf ops.toList)) (mT ops.toList) (λvs=>vs=[x,y]):=by
 refine⟨?_,?_⟩;refine zO _ _ ?_;have e:(λS':ai=>getAll S' (mT ops.toList)=[x,y])=λS'=>S'.get d=x/\S'.get e=y:=by funext S';rw[hk];show([S'.get d,S'.get e]=[x,y])=_;simp
 rw[e];exact h;rw[hk];exact⟨λv=>⟨λw=>⟨λhv=>by injection hv with h1 h2;injection h2 with h2 h3;subst h1;subst h2;exact hK⟩⟩⟩
theorem Xe {α:Type}[BEq α][LawfulBEq α][DecidableEq α]{a b:α}{K:Bool->Prop}(h:K (decide (a=b))):Al λt:Bool=>t=(a==b)->K t:=aA (λe=>by rwa[an e]at h) (λe=>by rwa[ah e]at h)
theorem SP {α:Type}[BEq α][LawfulBEq α][DecidableEq α]{a b:α}{K:Bool->Prop}(h:K (decide (a≠b))):Al λt:Bool=>t=!(a==b)->K t:=cF (λe=>by rwa[an e]at h) (λe=>by rwa[ah (λg=>g e)]at h)
theorem aj2 {a b:bg}{K:Bool->Prop}(h1:a=b->K true)(h2:a≠b->K false):Al λt:Bool=>t=sameAs (cI a) (cI b)->K t:=iu (by by_cases e:a=b;rw[an e];exact h1 e;rw[ah e];exact h2 e)
theorem adw {a b:bg}{K:Bool->Prop}(h1:a≠b->K true)(h2:a=b->K false):Al λt:Bool=>t=!sameAs (cI a) (cI b)->K t:=DA (by by_cases e:a=b;rw[an e];exact h2 e;rw[ah e];exact h1 e)
theorem Xf {f:bg}{kd:Int}{c:Bg}(h:c.file≠f):cAt f kd c=false:=by unfold cAt;rw[ah h];rfl
theorem Xg {f:bg}{kd:Int}{c:Bg}(h:c.kind≠kd):cAt f kd c=false:=by unfold cAt;rw[ah h];exact xY _
theorem HM {f:bg}{kd:Int}{c:Bg}(h:c.file=f)(h2:c.kind=kd):cAt f kd c=true:=HL.2 ⟨h,h2⟩
theorem rU {α:Type}{l:List α}{k:Nat}(p:α->Bool)(h:k<l.length):(l.take (k+1)).any p=((l.take k).any p||p l[k]):=by rw[<-dn h,qm,og,mC,oh]
theorem amh (s:List bO)(hz:SzT s)(n:Nat)(hn:n<256):ak C 7 [.sl (cn s),.int .u8 (n:Int)] (λr=>r=.val (.bool true)):=by
 have EI:=wK;refine ag Tryz.func7 rfl rfl rfl ?_;refine cl (Jp s hz) ?_;refine bl ?_;cases hf:GA s with
 |false=>refine cl EI ?_;exact rfl
 |true=>
  obtain⟨h,hl8,hE,-⟩:=UU hz hf;have hl:s.length<=400:=oO
  have cf:=Zr s n hn h.fit hl;have hfa:=afR h (n:=n);generalize yw s n=P at cf hfa;obtain⟨f,b⟩:=P;refine cl cf ?_;refine bl ?_;cases b with
  |false=>refine cl EI ?_;exact rfl
  |true=>
   obtain⟨a0,ha0,hk0,afS⟩:=hfa rfl;have afS:a0.id=f:=afS;have c3:=rK h f 3;have c4:=rK h f 4;have c5:=Ey h f;have c6:=SG h f;have c7:=SK h f;have c8:=FU h;have hvl:=Ae hl f 3;have hwl:=Ae hl f 4;have Xh:=SN h;have hmem:=λc hc=>afQ (s:=s) (c:=c) hc;have hM:Aq (fH s f 3)=qM (pH (cz s) (gL s) f 3):=adt λa ha=>by obtain⟨g1,g2⟩:=hU.1 ha;unfold yU at g2;rw[aW,decide_eq_true_eq]at g2;exact(Vt h g1).1 g2.1
   have hD:Bz (fH s f 4)=qM (pH (cz s) (gL s) f 4):=adu λa ha=>by obtain⟨g1,g2⟩:=hU.1 ha;unfold yU at g2;rw[aW,decide_eq_true_eq]at g2;exact(Vt h g1).2 g2.1
   have hex:=λg=>ah3 ha0 hk0 (s:=s) (by rw[afS];exact g);rw[afS,<-hM,<-hD]at hex;have hm:Bt s f=match fH s f 3 with|[]=>0|a::_=>a.mode:=rfl;have hd:Mc s f=match fH s f 4 with|[]=>[]|a::_=>a.data:=rfl;have anf:(iL s 2).length<=2^33:=by have hk:∀n,(Eu s n).length<=(cz s).length:=λn=>wI s _ _;have hal:=jb hl;rw[kQ,kQ,aq,aq];have :=hk 0;have :=hk 1;have :(iL s 0).length=0:=rfl;omega
   have adx:∀c,c∈iL s 2->c.file=f->(c.kind=9->Aq (fH s f 3)=true)/\(c.kind=10->Bz (fH s f 4)=true)/\jP s f=false:=λc hc Vr=>by obtain⟨g1,g2⟩:=hmem c hc;rw[Vr]at g1 g2;rw[hM,hD];refine⟨λhk=>?_,λhk=>?_,g2⟩;rcases g1 with g1|g1;exact g1.2;rw[g1.1]at hk;exact absurd hk dD;rcases g1 with g1|g1;rw[g1.1]at hk;exact absurd hk dD;exact g1.2
   clear hmem hM hD cf hz hf hE Xh;have Xh:=SN h;unfold eU at c3 c4;generalize fH s f 3=V at*;generalize fH s f 4=W at*;generalize Bt s f=m at*;generalize Mc s f=e at*;generalize iL s 2=X at*;generalize jP s f=G at*;refine cm 8 kK ?_;refine⟨.sl (V.map cA),c3,?_⟩;refine⟨.sl (W.map cA),c4,?_⟩;refine⟨some (λvs=>vs=[.p (.bool (decide (V=[]))),.p (.bool (decide (W=[])))]),ah4 (.p (.bool (decide (V=[])))) (.p (.bool (decide (W=[])))) 9 10 rfl ?_ ?_⟩;have hm0:V=[]->m=0:=λg=>by rw[hm,g]
   have Gd:W=[]->e=[]:=λg=>by rw[hd,g]
   have fV:∀(Z:List bD),((((Z.map cA).length:Nat):Int)=0↔Z=[]):=λZ=>by rw[aj,<-bK];omega
   refine aA (λhv=>?_) (λhv=>?_);have hv:V=[]:=(fV V).1 hv;refine⟨.int .i64 m,c5,?_⟩;refine aA (λ_=>?_) (λg=>absurd (hm0 hv) g);refine aA (λhw=>?_) (λhw=>?_);have hw:W=[]:=(fV W).1 hw;refine⟨.str e,c6,?_⟩;refine aA (λ_=>?_) (λg=>absurd (Gd hw) g);rw[an hv,an hw];exact⟨rfl,rfl⟩;have hw:¬W=[]:=λg=>hw ((fV W).2 g);rw[an hv,ah hw];exact⟨rfl,rfl⟩;have hv:¬V=[]:=λg=>hv ((fV V).2 g);refine aA (λhw=>?_) (λhw=>?_);have hw:W=[]:=(fV W).1 hw;refine⟨.str e,c6,?_⟩;refine aA (λ_=>?_) (λg=>absurd (Gd hw) g);rw[ah hv,an hw];exact⟨rfl,rfl⟩;have hw:¬W=[]:=λg=>hw ((fV W).2 g);rw[ah hv,ah hw];exact⟨rfl,rfl⟩;obtain⟨b9,hb9⟩:∃b9:Nat->Bool,∀k,b9 k=(decide (V=[])||(V.take k).any λx=>decide (x.mode=m)):=⟨_,λ_=>rfl⟩;obtain⟨Pt,Ku⟩:∃Pt:Nat->Bool,∀k,Pt k=(V.take k).any λx=>decide (x.mode≠(V.headD ef).mode):=⟨_,λ_=>rfl⟩;have e9:decide (V=[])=b9 0:=by rw[hb9,jA,mC,oh]
   have e11:false=Pt 0:=by rw[Ku,jA,mC]
   rw[e9];refine bu 187 (λk:Nat=>[(0,.p (.sl (cn s))),(5,.ptr 5 0),(7,.p (.sl (V.map cA))),(8,.p (.sl (W.map cA))),(9,.p (.bool (b9 k))),(10,.p (.bool (decide (W=[])))),(11,.p (.bool (Pt k))),(12,.p (.bool false)),(56,.p (.sl (V.map cA))),(57,.p (.int .i64 ((V.map cA).length:Int))),(58,.p (.int .i64 k))]) (λ_=>[(5,aH (cI f))]) (λk=>k<=V.length) (λk=>V.length-k) 0 (zL) rfl ⟨aF.refl _,aF.refl _,aF.refl _,aF.refl _,aF.refl _,aF.refl _,aF.eq (aB (λz=>FV.p (.bool z)) e11),aF.refl _,aF.refl _,aF.refl _,aF.refl _,trivial⟩ oS ?_;intro k hk;refine bQ (λhlt=>?_) (λhge=>?_);have h9:b9 (k+1)=(b9 k||decide (V[k].mode=m)):=by rw[hb9,hb9,rU _ hlt,Bool.or_assoc]
   have h11:Pt (k+1)=(Pt k||decide (V[k].mode≠(V.headD ef).mode)):=by rw[Ku,Ku,rU _ hlt]
   have hpos:0<V.length:=oO
   have sO:k+1<=V.length:=hlt;have hv0:V[0]=V.headD ef:=by
    cases V with
    |nil=>simp at hpos
    |cons a l=>rfl
   refine ix hlt ?_;generalize V[k]=x at h9 h11⊢;refine Wb (.p (.bool (b9 (k+1)))) 9 kK kK ?_ ?_;rw[h9];generalize b9 k=bb;cases bb with
   |true=>exact rfl
   |false=>refine⟨.int .i64 m,c5,?_⟩;refine Xe ?_;exact rfl
   refine Wb (.p (.bool (Pt (k+1)))) 11 kK kK ?_ ?_;rw[h11];generalize Pt k=bb;cases bb with
   |true=>exact rfl
   |false=>refine⟨dD,_,ct (k:=0) rfl hpos,rfl,?_⟩;rw[hv0];refine SP ?_;exact rfl
   exact nx (k+1) (aO (k+1) sO oO rfl wS oS);obtain rfl:k=V.length:=oO
   have t9:b9 V.length=true:=by
    rw[hb9,aJ,hm];cases V with
    |nil=>rfl
    |cons a l=>rw[og,an rfl,tE,Bool.or_true]
   have t11:Pt V.length=Aq V:=by rw[Ku,aJ];rfl
   rw[t9,t11];clear t9 t11 hb9 Ku e9 e11 hk hge;obtain⟨b9,hb9⟩:∃b9:Nat->Bool,∀k,b9 k=(decide (W=[])||(W.take k).any λx=>decide (x.data=e)):=⟨_,λ_=>rfl⟩;obtain⟨Pt,Ku⟩:∃Pt:Nat->Bool,∀k,Pt k=(W.take k).any λx=>decide (x.data≠(W.headD ef).data):=⟨_,λ_=>rfl⟩;have e9:decide (W=[])=b9 0:=by rw[hb9,jA,mC,oh]
   have e11:false=Pt 0:=by rw[Ku,jA,mC]
   generalize hDM:Aq V=DM at*;refine bu 187 (λk:Nat=>[(0,.p (.sl (cn s))),(5,.ptr 5 0),(7,.p (.sl (V.map cA))),(8,.p (.sl (W.map cA))),(9,.p (.bool true)),(10,.p (.bool (b9 k))),(11,.p (.bool DM)),(12,.p (.bool (Pt k))),(82,.p (.sl (W.map cA))),(83,.p (.int .i64 ((W.map cA).length:Int))),(84,.p (.int .i64 k))]) (λ_=>[(5,aH (cI f))]) (λk=>k<=W.length) (λk=>W.length-k) 0 (zL) rfl ⟨aF.refl _,aF.refl _,aF.refl _,aF.refl _,aF.refl _,aF.eq (aB (λz=>FV.p (.bool z)) e9),aF.refl _,aF.eq (aB (λz=>FV.p (.bool z)) e11),aF.refl _,aF.refl _,aF.refl _,trivial⟩ oS ?_;intro k hk;refine bQ (λhlt=>?_) (λhge=>?_);have h9:b9 (k+1)=(b9 k||decide (W[k].data=e)):=by rw[hb9,hb9,rU _ hlt,Bool.or_assoc]
   have h11:Pt (k+1)=(Pt k||decide (W[k].data≠(W.headD ef).data)):=by rw[Ku,Ku,rU _ hlt]
   have hpos:0<W.length:=oO
   have sO:k+1<=W.length:=hlt;have hv0:W[0]=W.headD ef:=by
    cases W with
    |nil=>simp at hpos
    |cons a l=>rfl
   refine ix hlt ?_;generalize W[k]=x at h9 h11⊢;refine Wb (.p (.bool (b9 (k+1)))) 10 kK kK ?_ ?_;rw[h9];generalize b9 k=bb;cases bb with
   |true=>exact rfl
   |false=>refine⟨.str e,c6,?_⟩;refine Xe ?_;exact rfl
   refine Wb (.p (.bool (Pt (k+1)))) 12 kK kK ?_ ?_;rw[h11];generalize Pt k=bb;cases bb with
   |true=>exact rfl
   |false=>refine⟨dD,_,ct (k:=0) rfl hpos,rfl,?_⟩;rw[hv0];refine SP ?_;exact rfl
   exact nx (k+1) (aO (k+1) sO oO rfl wS oS);obtain rfl:k=W.length:=oO
   have t9:b9 W.length=true:=by
    rw[hb9,aJ,hd];cases W with
    |nil=>rfl
    |cons a l=>rw[og,an rfl,tE,Bool.or_true]
   have t11:Pt W.length=Bz W:=by rw[Ku,aJ];rfl
   rw[t9,t11];clear t9 t11 hb9 Ku e9 e11 hk hge;generalize hDD:Bz W=DD at*;clear hDM hDD hm hd c3 c4 c5 c6 hvl hwl;refine cl c8 ?_;have e9:DM=flag DM f 9 X 0:=by unfold flag;rw[jA,mC];cases DM<;>rfl
   have e11:DD=flag DD f 10 X 0:=by unfold flag;rw[jA,mC];cases DD<;>rfl
   refine bu 187 (λk:Nat=>[(0,.p (.sl (cn s))),(5,.ptr 5 0),(9,.p (.bool true)),(10,.p (.bool true)),(11,.p (.bool (flag DM f 9 X k))),(12,.p (.bool (flag DD f 10 X k))),(109,.p (.sl (X.map cK))),(110,.p (.int .i64 ((X.map cK).length:Int))),(111,.p (.int .i64 k))]) (λ_=>[(5,aH (cI f))]) (λk=>k<=X.length) (λk=>X.length-k) 0 (zL) rfl ⟨aF.refl _,aF.refl _,aF.refl _,aF.refl _,aF.eq (aB (λz=>FV.p (.bool z)) e9),aF.eq (aB (λz=>FV.p (.bool z)) e11),aF.refl _,aF.refl _,aF.refl _,trivial⟩ oS ?_;intro k hk;refine bQ (λhlt=>?_) (λhge=>?_);have s9:=Na DM f 9 X k hlt;have s10:=Na DD f 10 X k hlt;obtain⟨q9,q10,qG⟩:(X[k].file=f->X[k].kind=9->flag DM f 9 X k=true)/\(X[k].file=f->X[k].kind=10->flag DD f 10 X k=true)/\(X[k].file=f->G=false):=⟨λh1 h2=>Kt Xh ((adx _ (aK hlt) h1).1 h2) hlt (HM h1 h2),λh1 h2=>Kt Xh ((adx _ (aK hlt) h1).2.1 h2) hlt (HM h1 h2),λh1=>(adx _ (aK hlt) h1).2.2⟩;have sO:k+1<=X.length:=hlt;refine ix hlt ?_;generalize X[k]=c at s9 s10 q9 q10 qG⊢;generalize flag DM f 9 X k=o9 at s9 q9⊢;generalize flag DD f 10 X k=o10 at s10 q10⊢;have gone:c.file=f->ak C 24 [.sl (cn s),.agg (cI f)] (λr=>r=.val (.bool false)):=λg=>by rw[<-qG g];exact c7
   refine⟨some (λvs=>vs=[.p (.bool false)]),Rc (.p (.bool false)) 141 rfl ?_ ?_⟩;refine ou ?_;refine aj2 (a:=c.file) (b:=f) (λVr=>?_) (λ_=>rfl);have cg:=gone Vr;refine aA (λh9=>?_) (λh9=>?_);have h9:c.kind=9:=h9;obtain rfl:=q9 Vr h9;refine bl ?_;refine aA (λh10=>absurd (h9.symm.trans h10) dD) (λ_=>?_);refine⟨.bool false,cg,?_⟩;exact rfl;refine aA (λh10=>?_) (λh10=>?_);have h10:c.kind=10:=h10;obtain rfl:=q10 Vr h10;refine bl ?_;refine⟨.bool false,cg,?_⟩;exact rfl;refine⟨.bool false,cg,?_⟩;exact rfl;refine⟨some (λvs=>vs=[.p (.bool (flag DM f 9 X (k+1)))]),Rc (.p (.bool (flag DM f 9 X (k+1)))) 11 rfl ?_ ?_⟩;rw[s9];cases o9 with
   |false=>exact rfl
   |true=>refine ou ?_;refine adw (a:=c.file) (b:=f) (λVr=>?_) (λVr=>?_);rw[Xf Vr];exact rfl;refine cF (λh9=>?_) (λh9=>?_);have h9:c.kind≠9:=h9;rw[Xg h9];exact rfl;have h9:c.kind=9:=h9;rw[HM Vr h9];exact rfl
   refine⟨some (λvs=>vs=[.p (.bool (flag DD f 10 X (k+1)))]),Rc (.p (.bool (flag DD f 10 X (k+1)))) 12 rfl ?_ ?_⟩;rw[s10];cases o10 with
   |false=>exact rfl
   |true=>refine ou ?_;refine adw (a:=c.file) (b:=f) (λVr=>?_) (λVr=>?_);rw[Xf Vr];exact rfl;refine cF (λh9=>?_) (λh9=>?_);have h9:c.kind≠10:=h9;rw[Xg h9];exact rfl;have h9:c.kind=10:=h9;rw[HM Vr h9];exact rfl
   exact nx (k+1) (aO (k+1) sO oO rfl wS oS);obtain rfl:k=X.length:=oO
   have f9:G=false->flag DM f 9 X X.length=false:=λg=>SO λhq=>(hex g).1 hq;have f10:G=false->flag DD f 10 X X.length=false:=λg=>SO λhq=>(hex g).2 hq;generalize flag DM f 9 X X.length=o9 at f9⊢;generalize flag DD f 10 X X.length=o10 at f10⊢;refine⟨none,?_⟩;cases o9 with
   |false=>
    refine bl ?_;cases o10 with
    |false=>refine bl ?_;refine cl EI ?_;exact rfl
    |true=>
     refine bl ?_;cases G with
     |false=>exact absurd (f10 rfl) dD
     |true=>refine cl c7 ?_;refine cl EI ?_;exact rfl
   |true=>
    refine bl ?_;cases G with
    |false=>exact absurd (f9 rfl) dD
    |true=>refine cl c7 ?_;refine cl EI ?_;exact rfl
theorem GU {data:Bytes}{offset:Int}{old new y:Bytes}(h:jU data offset old new=(y,0)):∃(n:Nat) (r:Bytes),offset=n/\n<=data.length/\data=data.take n++(old++r)/\y=data.take n++(new++r)/\data.length=n+(old.length+r.length):=by
 unfold jU at h;by_cases h1:offset<0\/(data.length:Int)<offset;rw[af h1]at h;cases h;rw[aa h1]at h;obtain⟨n,rfl⟩:=gu (show 0<=offset by omega);rw[gR]at h;by_cases h2:¬(old.length<=(data.drop n).length/\(data.drop n).take old.length=old);rw[af h2]at h;cases h;rw[aa h2]at h;have h2:=fE.1 h2;split at h;cases h;have h3:y=data.take n++new++(data.drop n).drop old.length:=(aB Prod.fst h).symm;have h4:data.drop n=old++(data.drop n).drop old.length:=by conv=>lhs;rw[<-cT old.length (data.drop n),h2.2]
 refine⟨n,(data.drop n).drop old.length,rfl,oO,?_,by rw[h3,bf],?_⟩;rw[<-h4,cT];have e1:(data.drop n).length=data.length-n:=bV;have e2:=h2.1;rw[bV,e1];omega
theorem Vu {data:Bytes}{offset:Int}{old new:Bytes}:∀{y:Bytes}{e:Int},jU data offset old new=(y,e)->e≠0->y=[]:=by intro y e h he;unfold jU at h;split at h;exact(aB Prod.fst h).symm;split at h;exact(aB Prod.fst h).symm;split at h;exact(aB Prod.fst h).symm;exact absurd (aB Prod.snd h).symm he
theorem Vv (a r old new:Bytes)(hl:(a++(old++r)).length<=65536)(hn:(a++(new++r)).length<=65536):jU (a++(new++r)) (a.length:Nat) new old=(a++(old++r),0):=by rw[aq,aq]at hl hn;unfold jU;rw[aa (by rw[aq];omega),gR,List.drop_left,aa (λg=>g ⟨by rw[aq];omega,List.take_left⟩),aa (by rw[aq,aq];omega),List.take_left,List.drop_left,bf]
theorem amf (data old new:Bytes)(offset:Int):ak C 9 [.str data,.int .i64 offset,.str old,.str new] (λr=>r=.val (.bool true)):=by
 have EI:=wK;refine ag Tryz.func9 rfl rfl rfl ?_;refine⟨none,?_⟩;refine az (λh1=>?_) (λh1=>?_);refine cl EI ?_;exact rfl;refine az (λh2=>?_) (λh2=>?_);refine cl EI ?_;exact rfl;refine az (λh3=>?_) (λh3=>?_);refine cl EI ?_;exact rfl;have g1:data.length<=3000:=by have :¬(data.length:Int)>3000:=h1;omega
 have g2:old.length<=3000:=by have :¬(old.length:Int)>3000:=h2;omega
 have g3:new.length<=3000:=by have :¬(new.length:Int)>3000:=h3;omega
 have c1:=ya data offset old new oO g2 g3;obtain⟨X,hX⟩:∃X,jU data offset old new=X:=⟨_,rfl⟩;rw[hX]at c1;obtain⟨y,e⟩:=X;refine cl c1 ?_;refine cF (λhe=>?_) (λhe=>?_);obtain rfl:=Vu hX he;refine⟨none,?_⟩;refine aA (λ_=>?_) (λh=>absurd rfl h);refine cl EI ?_;exact rfl;have he:e=0:=he;subst he;obtain⟨n,t,rfl,hn,hd,hy,hdl⟩:=GU hX;have hal:(data.take n).length=n:=by rw[aD];omega
 have Xr:y.length=n+(new.length+t.length):=by rw[hy,aq,aq,hal]
 have hb:jU y (n:Int) new old=(data,0):=by have :=Vv (data.take n) t old new (by rw[<-hd];omega) (by rw[<-hy];omega);rwa[hal,<-hd,<-hy]at this
 have c2:=ya y n new old oO g3 g2;rw[hb]at c2;refine cl c2 ?_;refine⟨none,?_⟩;refine aA (λ_=>?_) (λh=>absurd rfl h);refine aA (λ_=>?_) (λh=>absurd rfl h);refine cl EI ?_;exact rfl
theorem aj1 (data old new:Bytes)(offset:Int):ak C 10 [.str data,.int .i64 offset,.str old,.str new] (λr=>r=.val (.bool true)):=by
 have EI:=wK;refine ag Tryz.func10 rfl rfl rfl ?_;refine⟨none,?_⟩;refine az (λh1=>?_) (λh1=>?_);refine cl EI ?_;exact rfl;refine az (λh2=>?_) (λh2=>?_);refine cl EI ?_;exact rfl;refine az (λh3=>?_) (λh3=>?_);refine cl EI ?_;exact rfl;have g1:data.length<=3000:=by have :¬(data.length:Int)>3000:=h1;omega
 have g2:old.length<=3000:=by have :¬(old.length:Int)>3000:=h2;omega
 have g3:new.length<=3000:=by have :¬(new.length:Int)>3000:=h3;omega
 have c1:=ya data offset old new oO g2 g3;obtain⟨X,hX⟩:∃X,jU data offset old new=X:=⟨_,rfl⟩;rw[hX]at c1;obtain⟨y,e⟩:=X;refine cl c1 ?_;refine cF (λhe=>?_) (λhe=>?_);refine cl EI ?_;exact rfl;have he:e=0:=he;subst he;obtain⟨n,t,rfl,hn,hd,hy,hdl⟩:=GU hX;have hal:(data.take n).length=n:=by rw[aD];omega
 have Xr:y.length=n+(new.length+t.length):=by rw[hy,aq,aq,hal]
 have y1:y.take n=data.take n:=by rw[hy];exact List.take_left' hal
 have y2:(y.take (n+new.length)).drop n=new:=by rw[hy,<-bf,List.take_left' (by rw[aq,hal])];exact EE hal
 have y3:y.drop (n+new.length)=t:=by rw[hy,<-bf];exact EE (by rw[aq,hal])
 have d3:data.drop (n+old.length)=t:=by
  conv=>lhs;rw[hd,<-bf]
  exact EE (by rw[aq,hal])
 refine⟨none,?_⟩;refine az (λg=>absurd (show(n:Int)<0 from g) oO) (λ_=>?_);refine az (λg=>absurd (show(old.length:Int)>(data.length:Int)from g) oO) (λ_=>?_);refine nx (data.length-old.length) ?_;refine az (λg=>absurd (show(n:Int)>((data.length-old.length:Nat):Int)from g) oO) (λ_=>?_);refine nx (data.length-old.length) ?_;refine nx (data.length-old.length+new.length) ?_;refine cF (λg=>absurd (show(y.length:Int)=((data.length-old.length+new.length:Nat):Int)by omega) g) (λ_=>?_);refine cm 37 kK ?_;refine⟨.p (.str (data.take n)),⟨n,rfl,zL,oO,data.take n,y1,rfl⟩,?_⟩;refine⟨.p (.str (data.take n)),⟨n,rfl,zL,hn,data.take n,rfl,rfl⟩,?_⟩;refine aA (λ_=>?_) (λh=>absurd rfl h);refine nx (n+new.length) ?_;refine⟨.p (.str new),⟨n+new.length,rfl,n,rfl,oO,by show _<=y.length;omega,new,y2,rfl⟩,?_⟩;refine aA (λ_=>?_) (λh=>absurd rfl h);refine nx (n+new.length) ?_;refine⟨.p (.str t),⟨n+new.length,rfl,oO,ay _,t,by rw[aJ,y3],rfl⟩,?_⟩;refine nx (n+old.length) ?_;refine⟨.p (.str t),⟨n+old.length,rfl,oO,ay _,t,by rw[aJ,d3],rfl⟩,?_⟩;refine aA (λ_=>?_) (λh=>absurd rfl h);refine⟨.bool true,EI,?_⟩;exact rfl
theorem szV {s:List bO}(hl:s.length<=400)(f:bg)(kind:Int):SzA (fH s f kind):=by have h1:=Ae hl f kind;refine⟨oO,λa ha=>?_⟩;unfold fH at ha;split at ha;cases ha;have :=rj a (hU.1 ha).1;omega
theorem amg (s:List bO)(hz:SzT s)(f:bg)(kind:Int):ak C 6 [.sl (cn s),.agg (cI f),.int .i64 kind] (λr=>r=.val (.bool true)):=by
 have EI:=wK;refine ag Tryz.func6 rfl rfl rfl ?_;refine cl (Jp s hz) ?_;refine bl ?_;cases hf:GA s with
 |false=>refine cl EI ?_;exact rfl
 |true=>
  obtain⟨h,hl8,hE,-⟩:=UU hz hf;have hl:s.length<=400:=oO
  have c1:=rK h f kind;have c2:=Fw s f kind h.fit hl hE;have c3:=XV _ _ (szV hl f kind) (szV hl f kind);rw[an rfl]at c3;have c4:=Ey h f;have c5:=ae3 s f h.fit hl hE;have c6:=SG h f;have c7:=ae4 s f h.fit hl hE;generalize eU (fH s f kind)=V at c1 c2 c3;generalize Bt s f=m at c4 c5;generalize Mc s f=d at c6 c7;refine cm 31 kK ?_;refine⟨.sl V,c1,?_⟩;refine⟨.sl V,c2,?_⟩;refine⟨.bool true,c3,?_⟩;refine⟨.int .i64 m,c4,?_⟩;refine⟨.int .i64 m,c5,?_⟩;refine aA (λ_=>?_) (λh=>absurd rfl h);refine⟨.str d,c6,?_⟩;refine⟨.str d,c7,?_⟩;refine aA (λ_=>?_) (λh=>absurd rfl h);refine⟨.bool true,EI,?_⟩;exact rfl
end Qv
