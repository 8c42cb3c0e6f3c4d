/- Part 34 of the proof: its lemmas. No condition. -/
import Derived.Test.YtiboombocnfngaaGreatDoorZ6
import Derived.Test.YtiboombocnfngaaGreatDoorZ12
import Derived.Test.YtiboombocnfngaaGreatDoorZ21
import Derived.Test.YtiboombocnfngaaGreatDoorZ22
import Derived.Test.YtiboombocnfngaaGreatDoorZ24
import Derived.Test.YtiboombocnfngaaGreatDoorZ26
set_option maxRecDepth 10000
set_option maxHeartbeats 80000000
set_option linter.all false
open Go Go.Proofs Go.RowKit
namespace Qv
theorem vk {α:Type}{f:α->List AV}{R:List α}{k:Nat}(h:k<R.length):gR f R=gR f (R.take k)++(aI (f R[k])++gR f (R.drop (k+1))):=by
 have e:R=R.take k++([R[k]]++R.drop (k+1)):=by rw[pq,<-bM h,dU]
 have e1:gR f [R[k]]=aI (f R[k]):=by unfold gR;simp
 rw[<-e1,<-BF,<-BF,<-e]
theorem NX {α:Type}{f:α->List AV}{R:List α}(ns:List Nat){aD:List (Nat×List FV)}{o:Nat}(h:Qv.getObj aD o=some (ns.foldl (λc n=>FV.dJ n c) (gR f R))):∃zs,Qv.getObj aD o=some zs/\zs.length=(gR f R).length/\∀(i:Nat)(x y:FV),zs[i]?=some x->(gR f R)[i]?=some y->bt x y:=by
 have e:ns.foldl (λc n=>FV.dJ n c) (gR f R)=gR f R:=by
  clear h;induction ns with
  |nil=>rfl
  |cons n ns ih=>rw[fc,Xy];exact ih
 rw[e]at h;exact aA h
theorem ad5 {l:List Ed}(h:l≠[]):qG l≠[]:=λg=>by
 cases l with
 |nil=>exact h rfl
 |cons a l=>have :=(Ja (a::l) a).2 (by simp);rw[g]at this;cases this
theorem LW (a b:Ed):∀l:List Ed,qG (l++[a,b])=if a=b then qG (l++[a])else qG (l++[a])++[b]
 |[]=>by simp only[dS,qG];by_cases h:a=b;rw[af h,h];simp;rw[aa h];simp[cU h,h]
 |x::l=>by
  have ih:=LW a b l;simp only[cr];rw[qG,ih,qG];by_cases h:a=b;rw[af h,af h];rw[aa h,aa h];have hne:qG (l++[a])≠[]:=ad5 (by simp);cases hc:qG (l++[a])with
  |nil=>exact absurd hc hne
  |cons y r=>by_cases g:y=x<;>simp[g]
theorem LX {S:List Ed}{m:Nat}(h1:1<=m)(h:m<S.length):qG (S.take (m+1))=if S[m-1]=S[m]then qG (S.take m)else qG (S.take m)++[S[m]]:=by
 have e1:S.take (m+1)=S.take (m-1)++[S[m-1],S[m]]:=by
  rw[bQ h];have :S.take m=S.take (m-1)++[S[m-1]]:=by
   conv=>lhs;rw[show m=(m-1)+1 from oO]
   rw[bQ oO]
  rw[this,bl];rfl
 have e2:S.take m=S.take (m-1)++[S[m-1]]:=by
  conv=>lhs;rw[show m=(m-1)+1 from oO]
  rw[bQ oO]
 rw[e1,LW,<-e2]
theorem abt {S:List Ed}{k:Nat}{x:Ed}(h:k<S.length):(S.set k x).take (k+1)=S.take k++[x]:=by rw[bQ (by rw[CE];exact h),List.getElem_set_self];congr 1;rw[List.take_set,List.set_eq_of_length_le (by rw[aN];omega)]
theorem agH {α:Type}{f:α->List AV}{R:List α}{k:Nat}(h:k<R.length)(x:α):gR f (R.take k)++(aI (f x)++gR f (R.drop (k+1)))=gR f (R.set k x):=by
 have e:=List.set_eq_take_append_cons_drop (l:=R) (i:=k) (a:=x);rw[af h]at e;have e1:gR f [x]=aI (f x):=by unfold gR;simp
 rw[<-e1,<-BF,<-BF,e];rfl
theorem ad6 {α:Type}{f:α->List AV}{e:Nat}(hf:∀x,(f x).length=e)(R:List α)(k:Nat):(gR f R).take (k*e)=gR f (R.take k):=by
 by_cases h:k<=R.length;conv=>lhs;rw[<-dU k R,BF]
 rw[List.take_left' (by rw[gN hf,aN];congr 1;omega)];rw[fe (l:=R) oO,fe (by rw[gN hf];exact ew _ oO)]
theorem jv (e:Ed):(pY e).length=2:=rfl
theorem ad7 (e:EdS):(Vn e).length=2:=rfl
theorem Jt (l:List Ed):∀ys,ys∈l.map pY->ys.length=2/\∀y,y∈ys->y.one=true:=by intro ys h;obtain⟨x,-,rfl⟩:=aB.1 h;exact⟨rfl,λy hy=>br.1 (show(pY x).all AV.one=true from rfl) y hy⟩
theorem LY {ls:List bB}(h:ls.length<=2^30)(i:bB):-1<=ES ls i/\ES ls i<=2^30:=by unfold ES;split<;>omega
def edS (ls:List bB)(h:ls.length<=2^30)(a:bO):EdS:=⟨TJ ls a,LY h a.fr,LY h a.to⟩
theorem XR (ls:List bB)(h:ls.length<=2^30)(l:List bO):qG (((l.map (edS ls h)).mergeSort λx y=>!decide (EW y x<0)).map λe=>e.1)=l.foldl (λr a=>pS r (TJ ls a)) []:=by
 have e1:(((l.map (edS ls h)).mergeSort λx y=>!decide (EW y x<0)).map λe=>e.1)=((l.map (TJ ls)).mergeSort λx y=>!decide (To y x<0)):=by rw[List.map_mergeSort (f:=λe:EdS=>e.1) (r:=λx y=>!decide (EW y x<0)) (s:=λx y=>!decide (To y x<0)) (λa _ b _=>rfl),dV];rfl
 rw[e1,aaT,List.foldl_map]
theorem XU (a:bO)(f:bB):au C 65 [.agg (cA a),.imp (cI f)] (λr=>r=.val (.bool (decide (a.id=f)))):=by exact aq Tryz.func65 rfl rfl rfl (pZ (jH (a:=a.id) (b:=f) rfl))
theorem Vt {l:List bO}{E:bB->Bool}{a:bO}(ha:a∈l):decide (a.id∈BH l E)=!(l.any λb=>decide (a.id∈b.over)&&E b.id):=by rw[jq,decide_eq_true_eq];unfold BH;rw[aB];constructor;rintro⟨b,hb,e⟩;have :=(eC.1 hb).2;rw[e]at this;exact this;intro h;exact⟨a,eC.2 ⟨ha,h⟩,rfl⟩
theorem ad8 {V:List bB}{l:List bO}{f i:bB}(h:i∉f::(NT l f).map λa=>a.id):Gd (.agg (cI i)) (.p (.int .i64 (((Kv V l f).map Gm).length:Int))) (kE wI (TK f ((NT l f).map λa=>a.id)))=kE wI (TK f ((NT l f).map (λa=>a.id)++[i])):=by rw[<-abm h,<-uy];unfold Kv;rw[aj,aj,aj];rfl
def eG:Extra:={qz with inl:=[66,70],opens:=[114],Mh:=[(1008,(109,172,none))],rmr:=[1008],frm:=[7],Mg:=[24]}
theorem TZ {x:iI}{E:bB->Bool}{rk:bB->Nat}(h:Gb x.atoms E rk)(hz:SzL x)(hL:BH x.atoms E=vj x)(f:bB)(hG:(AL x f).2=true->(AL x f).1.kind=1->aiP x f):au C 22 [.agg (iD x),.agg (cI f)] (λr=>r=.val (.eS [.agg (cGr (uA x f).1),.int .i64 (uA x f).2])):=by
 have hfx:AL x f=match x.atoms.find? λa=>decide (a.id=f)with|some a=>(a,true)|none=>(de,false):=rfl;unfold uA;generalize AL x f=F at hfx hG⊢;have hGr:=λ(q:F.2=true) (q2:F.1.kind=1)=>hG q q2;clear hG;obtain⟨ps,l⟩:=x;obtain⟨hl,ho⟩:=hz;simp only at h hl ho hL hfx⊢;unfold iD;refine bn eG [] Tryz.func22 rfl rfl rfl ⟨[3],cZ (cells:=aI (cI f)) (ys:=cI f) rfl (bu _) rfl (cl (Xg l 65 (.imp (cI f)) (λa=>decide (a.id=f)) (λa _=>XU a f) oO).dY ?_)⟩;rcases zP (λa:bO=>decide (a.id=f)) l 0 with⟨e1,e2⟩|⟨k0,hk0,e1,e2⟩;rw[e1];rw[e2]at hfx;refine aQ (λ_=>?_) (λg=>absurd dD g);rw[hfx,af rfl];exact rfl;rw[dn]at e1;rw[e1];rw[e2]at hfx;refine aQ (λg=>absurd g oO) (λ_=>?_);rw[hfx]at hGr⊢;simp only at hGr;rw[aa (show¬true=false by decide)];refine⟨none,ix hk0 ?_⟩;have alf:=λK (hK:K (cA l[k0]))=>ix (f:=cA) (l:=l) (m:=172) (K:=K) hk0 hK;refine eD (λg=>?_) (λg=>?_);rw[af (.inl g)];exact rfl;refine alf _ (eD (λg2=>?_) (λg2=>?_));rw[af (.inr g2)];exact rfl;rw[aa (λq=>q.elim (λq=>q g) (λq=>q g2))];have hGr:=hGr trivial g;refine .inl ⟨_,Tryz.func66,rfl,rfl,rfl,?_⟩;have hb:∀k i,(ou ((l.take k).foldl tH []) i).length<=2^30:=λk i=>by have h1:=Jn (K:=2^10) (l.take k) (λa ha=>ho a (rT ha)) [] i;rw[aN]at h1;have h2:min k l.length*2^10<=2^20*2^10:=ew _ oO;have h3:(ou [] i).length=0:=rfl;omega
 refine qf 40 1000 (λk:Nat=>[(3,.ptr 1011 0),(13,.p (.sl (l.map cA))),(14,.p (.int .i64 ((l.map cA).length:Int))),(15,.p (.int .i64 (k:Int)))]) (λ_=>[(2,[.p (.sl (ps.map jc)),.p (.sl (l.map cA))]),(4,[.full [],.full []]),(1011,[.fu 1008,.fu 1009])]) (λ_=>[(125,0,[(2,.ptr 2 0),(3,.p (.imp (cI f))),(4,.ptr 4 0)])]) [] (λ_=>[]) (λk=>[(1008,kE wI (wW ((l.take k).foldl tH []))),(1009,[])]) (λ_=>[]) (λk=>k<=l.length) (λk=>l.length-k) 0 zL kK wS oS ⟨rfl,wS,trivial⟩ trivial ⟨bY rfl rfl,bY rfl rfl,trivial⟩ trivial ?_;intro k hk;refine cu (λhlt=>?_) (λhge=>?_);have Ke:=ho l[k] (aT hlt);have hst:=Vr hlt;have hbk:=hb k;refine ix hlt ?_;generalize l[k]=a at Ke hst;generalize(l.take k).foldl tH []=P at hst hbk;refine qf 40 1000 (λj:Nat=>[(3,.ptr 1011 0),(13,.p (.sl (l.map cA))),(14,.p (.int .i64 ((l.map cA).length:Int))),(15,.p (.int .i64 (k:Int))),(5,.ptr 1005 0),(20,.p (.sl (a.over.map cI))),(21,.p (.int .i64 ((a.over.map cI).length:Int))),(22,.p (.int .i64 (j:Int)))]) (λ_=>[(2,[.p (.sl (ps.map jc)),.p (.sl (l.map cA))]),(4,[.full [],.full []]),(1011,[.fu 1008,.fu 1009]),(1005,aI (cA a))]) (λ_=>[(125,0,[(2,.ptr 2 0),(3,.p (.imp (cI f))),(4,.ptr 4 0)])]) [] (λ_=>[]) (λj=>[(1008,kE wI (wW ((a.over.take j).foldl (DP a) P))),(1009,[])]) (λ_=>[]) (λj=>j<=a.over.length) (λj=>a.over.length-j) 0 zL kK wS oS ⟨rfl,wS,trivial⟩ trivial ⟨bY rfl (by simp only[aY];rfl),bY rfl rfl,trivial⟩ trivial ?_;intro j hj;refine cu (λdw=>?_) (λox=>?_);have TX:=LZ (a:=a) (P:=P) dw;have hbj:∀i,(ou ((a.over.take j).foldl (DP a) P) i).length<=2^30+2^10:=λi=>by have h1:=DQ a (a.over.take j) P i;have h2:=hbk i;rw[aN]at h1;omega
 refine ix dw ?_;generalize a.over[j]=i at TX;generalize(a.over.take j).foldl (DP a) P=Q at TX hbj;refine ae3 kK ⟨_,rfl,188,28,28,29,30,33,34,31,35,36,rfl,rfl,rfl,rfl,?_⟩;refine⟨rfl,rfl,rfl,(λh=>nomatch h),kK,FB,gr,wI.fits i,(by simp only[aY];exact fD wI _),(λzs h=>by rw[aL.1 h];rfl),kB (ou Q i),(by simp only[aY];exact Rp Q i),nP,(by show((kB (ou Q i)).length+1)*296<=_;unfold kB;rw[aj];have :=hbj i;omega),kE wI (wW (XH Q i a)),(by simp only[aY];exact Vs Q i a),?_⟩;exact nx (j+1) (hU (j+1) dw oO kK wS oS ⟨rfl,wS,trivial⟩ trivial ⟨bY rfl (by rw[TX]),bY rfl rfl,trivial⟩ trivial);obtain rfl:j=a.over.length:=oO
 exact nx (k+1) (hU (k+1) hlt mM kK wS oS ⟨rfl,wS,trivial⟩ trivial ⟨bY rfl (by rw[hst,aP];rfl),bY rfl rfl,trivial⟩ trivial);obtain rfl:k=l.length:=oO
 rw[aP];have hlen:∀i,(ou (rB l) i).length<=2^47:=λi=>by have :=hb l.length i;rw[aP]at this;exact bL this dD
 refine .inl ⟨1008,kY wI (wW (rB l)),kV (wW (rB l)),⟨kE wI (wW (rB l)),rfl,DH wI _,DI wI _⟩,?_⟩;obtain⟨V,eV⟩:∃V,vj (⟨ps,l⟩:iI)=V:=⟨_,rfl⟩;obtain⟨JP,QC⟩:=hGr;have hid:Jr (⟨ps,l⟩:iI) f=(NT l f).map λa=>a.id:=rfl;rw[eV]at hL⊢;refine⟨FB,gr,wI.fits f,(λp hp=>nomatch hp),kE wI (TK f []),rfl,?_⟩;refine qf 125 0 (λx:Nat×List (bB×AV)=>[(2,.ptr 2 0),(3,.p (.imp (cI f))),(4,.ptr 4 0),(7,.ptr 1011 0),(8,.fu 40),(9,.ptr 9 0),(44,.p (.sl (l.map cA))),(45,.p (.int .i64 ((l.map cA).length:Int))),(46,.p (.int .i64 (x.1:Int)))]) (λx=>[(2,[.p (.sl (ps.map jc)),.p (.sl (l.map cA))]),(4,[.full [],.full []]),(9,[.gi 76 123 35 ((Kv V (l.take x.1) f).map Gm),.full []]),(1011,[.p (ovV (rB l)),.fu 1009])]) (λ_=>[]) [] (λ_=>[]) (λx=>[(1009,kE wI x.2),(40,kE wI (TK f ((NT (l.take x.1) f).map λa=>a.id)))]) (λ_=>[]) (λx=>x.1<=l.length/\Gp E x.2) (λx=>l.length-x.1) (0,[]) ⟨zL,λi v hv=>by cases hv⟩ kK wS ⟨aA kK,aA kK,DJ kK (bt.nW _ _ _) (bt.refl _),aA kK,trivial⟩ trivial trivial ⟨bY rfl rfl,bY rfl rfl,trivial⟩ trivial ?_;clear hge hk;rintro⟨k,M⟩ ⟨hk,hM⟩;have hk:k<=l.length:=hk;have hM:Gp E M:=hM;refine cu (λhlt=>?_) (λhge=>?_)
 ·have hn:=Ri (V:=V) (f:=f) hlt;have hn2:=Re (f:=f) hlt;have hll:=GU l f k;have hlv:=Vt (E:=E) (aT hlt);rw[hL]at hlv;have hnew:l[k].kind=5->l[k].file=f->l[k].id∉f::(NT (l.take k) f).map λa=>a.id:=λq1 q2 hin=>by
   have hs:((l.take k).map λa=>a)++l[k]::l.drop (k+1)=l:=by rw[List.map_id'];rw[<-bM hlt,dU]
   rw[hid]at JP;have e3:NT l f=NT (l.take k) f++l[k]::NT (l.drop (k+1)) f:=by
    conv=>lhs;rw[<-hs,List.map_id']
    unfold NT;rw[mj,jm,af (by simp[q1,q2])]
   rw[e3,aF,bw,<-cr,mc]at JP;exact JP.2.2 _ hin _ (kq ..) rfl
  refine ix hlt ?_;generalize l[k]=a at hn hn2 hlv hnew;refine⟨none,aH (λg5=>?_) (λg5=>?_)⟩;rotate_left;rw[aa (by rw[ah g5,pL];decide),aW]at hn hn2;exact nx (k+1) (hU (k+1,M) ⟨hlt,hM⟩ mM kK wS (by rw[hn];exact oS) trivial trivial ⟨bY rfl (by simp only[aY]),bY rfl (by simp only[aY,hn2]),trivial⟩ trivial);refine pZ (jH (a:=a.file) (b:=f) ?_);by_cases gf:a.file=f;rotate_left;rw[ah gf];rw[aa (by rw[ah gf,sB];decide),aW]at hn hn2;exact nx (k+1) (hU (k+1,M) ⟨hlt,hM⟩ mM kK wS (by rw[hn];exact oS) trivial trivial ⟨bY rfl (by simp only[aY]),bY rfl (by simp only[aY,hn2]),trivial⟩ trivial);rw[ai gf];rw[af (by rw[ai g5,ai gf];rfl)]at hn hn2;have hnew:=hnew g5 gf;refine⟨FB,gr,wI.fits a.id,(by simp only[aY];exact fD wI _),kE wI (TK f ((NT (l.take (k+1)) f).map λa=>a.id)),(by simp only[aY];rw[hn2,aF];exact ad8 hnew),?_⟩;refine⟨.plan ⟨[0,1,2,3,4,5],[9],[9,12,14],[9,11,76]⟩ (.one 0 (.one 1 (.one 2 (.one 3 (.one 4 (.one 5 (.one 6 (.one 7 (.one 8 (.alt 9 (.one 10 (.one 11 (.alt 12 (.one 13 (.alt 14 .fin .stop)) .stop))) .stop)))))))))) none,kK,?_⟩;refine⟨_,rfl,rfl,_,rfl,rfl,_,rfl,rfl,_,rfl,rfl,_,rfl,rfl,_,rfl,rfl,_,rfl,_,rfl,_,rfl,[(990001,1011),(990000,1009)],TW (rB l),990000,kE wI M,[.ptr 990001 0,.agg (aI (cI a.id))],_,rfl,⟨kK,kK,rfl,bV wI _ _ _,kK⟩,⟨kK,trivial⟩,gL [11] kK,rfl,(zi h hlen a.id hM).arg2 kK,λv l' hv=>?_⟩;obtain⟨rfl,M',rfl,uo⟩:=hv;rw[<-hlv];have hvl:(Kv V (l.take k) f).length<=2^20:=by unfold Kv;rw[aj];exact bL hll hl
  refine⟨_,rfl,_,rfl,?_⟩;refine⟨GP,GP (l:=[(a.id,a.text,decide (a.id∈V))]),by show(((Kv V (l.take k) f).map Gm).length+1)*64<=_;rw[aj];omega,(Kv V (l.take k) f++[(a.id,a.text,decide (a.id∈V))]).map Gm,by rw[aF];rfl,?_⟩;exact⟨_,rfl,nx (k+1) (hU (k+1,M') ⟨hlt,uo⟩ mM kK wS (by rw[hn];exact oS) trivial trivial ⟨bY rfl (by first|rfl|(simp only[aY,dB])),bY rfl (by first|rfl|(simp only[aY,dB])),trivial⟩ trivial)⟩
 obtain rfl:k=l.length:=by have hge:¬k<l.length:=hge;omega
 simp only[aP]at JP hid⊢;obtain⟨I,hI⟩:∃I,(NT l f).map (λa=>a.id)=I:=⟨_,rfl⟩;obtain⟨W,hW⟩:∃W,Kv V l f=W:=⟨_,rfl⟩;have hIl:I.length<=2^30:=by rw[<-hI,aj];have :=GU l f l.length;rw[aP]at this;omega
 rw[hid,hI]at JP;rw[hid]at QC⊢;rw[hI]at QC⊢;rw[hW];clear hge hk;refine qf 125 0 (λx:Nat×Bool×List (bB×AV)=>[(2,.ptr 2 0),(3,.p (.imp (cI f))),(4,.ptr 4 0),(7,.ptr 1011 0),(8,.fu 40),(9,.ptr 9 0),(81,.p (.sl (l.map cA))),(82,.p (.int .i64 ((l.map cA).length:Int))),(83,.p (.int .i64 (x.1:Int)))]) (λx=>match x.2.1 with|false=>[(2,[.p (.sl (ps.map jc)),.p (.sl (l.map cA))]),(4,[.full [],.full []]),(9,[.gi 76 123 35 (W.map Gm),.full []]),(1011,[.p (ovV (rB l)),.fu 1009])]|true=>[(2,[.p (.sl (ps.map jc)),.p (.sl (l.map cA))]),(4,[.full [],.full []]),(9,[.gi 76 123 35 (W.map Gm),.fT 114 125 2]),(1011,[.p (ovV (rB l)),.fu 1009]),(114,gR Vn ((AN V (l.take x.1) f).map (edS I hIl)))]) (λ_=>[]) [] (λ_=>[]) (λx=>[(1009,kE wI x.2.2),(40,kE wI (TK f I))]) (λ_=>[]) (λx=>x.1<=l.length/\(x.2.1=false->AN V (l.take x.1) f=[])/\Gp E x.2.2) (λx=>l.length-x.1) (0,false,M) ⟨zL,λ_=>rfl,hM⟩ kK wS oS trivial trivial ⟨bY rfl rfl,bY rfl rfl,trivial⟩ trivial ?_;clear hM;rintro⟨k,b,M⟩ ⟨hk,hb0,hM⟩;have hk:k<=l.length:=hk;have hb0:b=false->AN V (l.take k) f=[]:=hb0;have hM:Gp E M:=hM;have hib:(AN V (l.take k) f).length<=2^20:=bL (NU V l f k) hl;refine cu (λhlt=>?_) (λhge=>?_)
 ·have hn:=Rf (V:=V) (f:=f) hlt;have hlv:=Vt (E:=E) (aT hlt);rw[hL]at hlv;have hen:=QC l[k] (aT hlt);refine ix hlt ?_;generalize l[k]=a at hn hlv hen;have no:¬(a.kind=6/\a.file=f/\a.id∈V)->AN V (l.take (k+1)) f=AN V (l.take k) f:=λq=>by rw[hn,aa (by simp only[aR,decide_eq_true_eq];exactλz=>q ⟨z.1.1,z.1.2,z.2⟩),aW]
  have next:∀M2,Gp E M2->(b=false->AN V (l.take (k+1)) f=[])->k+1<=l.length/\(b=false->AN V (l.take (k+1)) f=[])/\Gp E M2:=λM2 h1 h2=>⟨hlt,h2,h1⟩;refine⟨none,aH (λg6=>?_) (λg6=>?_)⟩;rotate_left
  ·have hz:=no λq=>g6 q.1;cases b with
   |false=>exact nx (k+1) (hU (k+1,false,M) (next M hM (by rw[hz];exact hb0)) mM kK wS oS trivial trivial ⟨bY rfl (by simp only[aY]),bY rfl (by simp only[aY]),trivial⟩ trivial)
   |true=>exact nx (k+1) (hU (k+1,true,M) (next M hM (by rw[hz];exact hb0)) mM kK wS ⟨aA kK,aA kK,aA kK,aA kK,(by rw[hz];exact NX [13] kK),trivial⟩ trivial trivial ⟨bY rfl (by simp only[aY]),bY rfl (by simp only[aY]),trivial⟩ trivial)
  refine pZ (jH (a:=a.file) (b:=f) ?_);by_cases gf:a.file=f;rotate_left
  ·rw[ah gf];have hz:=no λq=>gf q.2.1;cases b with
   |false=>exact nx (k+1) (hU (k+1,false,M) (next M hM (by rw[hz];exact hb0)) mM kK wS oS trivial trivial ⟨bY rfl (by simp only[aY]),bY rfl (by simp only[aY]),trivial⟩ trivial)
   |true=>exact nx (k+1) (hU (k+1,true,M) (next M hM (by rw[hz];exact hb0)) mM kK wS ⟨aA kK,aA kK,aA kK,aA kK,(by rw[hz];exact NX [13] kK),trivial⟩ trivial trivial ⟨bY rfl (by simp only[aY]),bY rfl (by simp only[aY]),trivial⟩ trivial)
  rw[ai gf];obtain⟨en1,en2⟩:=hen g6 gf;refine .inr (.inl (.inl (.inr ⟨[(990001,1011),(990000,1009)],TW (rB l),990000,kE wI M,[.ptr 990001 0,.agg (aI (cI a.id))],_,rfl,⟨kK,kK,rfl,bV wI _ _ _,kK⟩,⟨by cases b<;>kernel_rfl,trivial⟩,gL [13] (by cases b<;>exact kK),rfl,(zi h hlen a.id hM).arg2 kK,λv l' hv=>?_⟩)));obtain⟨rfl,M',rfl,uo⟩:=hv;rw[<-hlv];by_cases gV:a.id∈V;rotate_left
  ·rw[ah gV];have hz:=no λq=>gV q.2.2;cases b with
   |false=>exact nx (k+1) (hU (k+1,false,M') (next M' uo (by rw[hz];exact hb0)) mM kK wS oS trivial trivial ⟨bY rfl (by first|rfl|(simp only[aY,dB])),bY rfl (by first|rfl|(simp only[aY,dB])),trivial⟩ trivial)
   |true=>exact nx (k+1) (hU (k+1,true,M') (next M' uo (by rw[hz];exact hb0)) mM kK wS ⟨aA kK,aA kK,aA kK,aA kK,(by rw[hz];exact NX [13] kK),trivial⟩ trivial trivial ⟨bY rfl (by first|rfl|(simp only[aY,dB])),bY rfl (by first|rfl|(simp only[aY,dB])),trivial⟩ trivial)
  rw[ai gV];rw[af (by simp[g6,gf,gV])]at hn;have k1:tQ (.agg (cI a.fr)) (kE wI (TK f I))=some (.p (.int .i64 (ES I a.fr))):=(ot wI _ a.fr).trans (by rw[Rg (kA.1 JP).1 en1];rfl);have k2:tQ (.agg (cI a.to)) (kE wI (TK f I))=some (.p (.int .i64 (ES I a.to))):=(ot wI _ a.to).trans (by rw[Rg (kA.1 JP).1 en2];rfl);cases b with
  |false=>have hb0:=hb0 rfl;rw[show AN V (l.take (k,false,M).1) f=[]from hb0]at hn;refine cw 12 kK ⟨.p (.int .i64 (ES I a.fr)),⟨FB,gr,wI.fits a.fr,(by first|exact fD wI _|(simp only[aY,dB];exact fD wI _)),some (.p (.int .i64 (ES I a.fr))),(by first|exact k1|(simp only[aY,dB];exact k1)),rfl⟩,?_⟩;refine⟨.p (.int .i64 (ES I a.to)),⟨FB,gr,wI.fits a.to,(by first|exact fD wI _|(simp only[aY,dB];exact fD wI _)),some (.p (.int .i64 (ES I a.to))),(by first|exact k2|(simp only[aY,dB];exact k2)),rfl⟩,?_⟩;refine⟨_,rfl,_,rfl,?_⟩;refine⟨kJ _ _,(λzs h=>by rw[aL.1 h];rfl),by show 1*16<=140737488355328;decide,gR Vn ([a].map (edS I hIl)),rfl,?_⟩;exact nx (k+1) (hU (k+1,true,M') ⟨hlt,λh=>(nomatch h),uo⟩ mM kK wS ⟨aA kK,aA kK,aA kK,aA kK,(by rw[hn];exact aA kK),trivial⟩ trivial trivial ⟨bY rfl (by first|rfl|(simp only[aY,dB])),bY rfl (by first|rfl|(simp only[aY,dB])),trivial⟩ trivial)
  |true=>refine cw 12 kK ⟨.p (.int .i64 (ES I a.fr)),⟨FB,gr,wI.fits a.fr,(by first|exact fD wI _|(simp only[aY,dB];exact fD wI _)),some (.p (.int .i64 (ES I a.fr))),(by first|exact k1|(simp only[aY,dB];exact k1)),rfl⟩,?_⟩;refine⟨.p (.int .i64 (ES I a.to)),⟨FB,gr,wI.fits a.to,(by first|exact fD wI _|(simp only[aY,dB];exact fD wI _)),some (.p (.int .i64 (ES I a.to))),(by first|exact k2|(simp only[aY,dB];exact k2)),rfl⟩,?_⟩;refine⟨_,rfl,_,rfl,?_⟩;refine⟨(AN V (l.take k) f).length,by show(FV.dJ 13 (gR Vn ((AN V (l.take k) f).map (edS I hIl)))).length=_;rw[Xy,gN ad7,aj],(λzs h=>by rw[aL.1 h];rfl),by show((AN V (l.take k) f).length+1)*16<=140737488355328;omega,gR Vn ((AN V (l.take k) f++[a]).map (edS I hIl)),by rw[aF,<-GQ _ ([a].map (edS I hIl)) 114];show FV.dJ 114 (FV.dJ 13 (gR Vn _)++_)=_;rw[Xy];rfl,?_⟩;exact nx (k+1) (hU (k+1,true,M') ⟨hlt,λh=>(nomatch h),uo⟩ mM kK wS ⟨aA kK,aA kK,aA kK,aA kK,(by rw[hn];exact aA kK),trivial⟩ trivial trivial ⟨bY rfl (by first|rfl|(simp only[aY,dB])),bY rfl (by first|rfl|(simp only[aY,dB])),trivial⟩ trivial)
 obtain rfl:k=l.length:=by have ox:¬k<l.length:=hge;omega
 rw[aP]at hb0 hib;have hso:=XR I hIl (AN V l f);have Rw:(((AN V l f).map (edS I hIl)).mergeSort λx y=>!decide (EW y x<0)).length=(AN V l f).length:=by rw[Dp,aj]
 cases b with
 |false=>have hb0:=hb0 rfl;rw[hb0];refine cl (Rl 69).dY (.inl ⟨_,Tryz.func70,rfl,rfl,rfl,aQ (λ_=>?_) (λq=>absurd dD q)⟩);exact .inr rfl
 |true=>
  simp only[aP];refine .inr (.inr (Ds rfl rfl (bu _) (XJ _ rfl ((AN V l f).map (edS I hIl)) (by rw[aj];omega)) λr ys hr=>?_));obtain⟨rfl,rfl⟩:=hr;rw[<-hso];generalize(((AN V l f).map (edS I hIl)).mergeSort λx y=>!decide (EW y x<0))=S0 at Rw hso⊢;obtain⟨S,hS⟩:∃S,S0.map (λe=>e.1)=S:=⟨_,rfl⟩;have hSl:S.length<=2^20:=by rw[<-hS,aj,Rw];exact hib
  have hrow:(S0.map Vn).flatten=(S.map pY).flatten:=by rw[<-hS,dV];rfl
  rw[hS];rw[hrow];have hdone:S.length<2->qG S=S:=λq=>by
   match S,q with
    |[],_=>rfl
    |[a],_=>rfl
  clear hrow Rw hso hib;refine .inl ⟨_,Tryz.func70,rfl,rfl,rfl,S.length,gN jv S,aQ (λq=>?_) (λq=>?_)⟩;have q:S.length<2:=by have q:(S.length:Int)<2:=q;omega
  rw[hdone q];exact .inl ⟨114,2,S.map pY,⟨⟨_,rfl,bu _⟩,Jt S⟩,rfl⟩;clear hdone;have q:2<=S.length:=by have q:¬(S.length:Int)<2:=q;omega
  refine qf 61 1000 (λk:Nat=>[(0,.fT 114 125 2),(3,.p (.int .i64 (k:Int)))]) (λ_=>[(4,[.full [],.full []]),(9,[.gi 76 123 35 (W.map Gm),.fT 114 125 2]),(114,gR pY S)]) (λ_=>[(125,0,[(4,.ptr 4 0),(9,.ptr 9 0)])]) [] (λ_=>[]) (λ_=>[]) (λ_=>[]) (λk=>(1<=k/\k<=S.length)/\qG (S.take k)=S.take k) (λk=>S.length-k) 1 ⟨⟨dD,oO⟩,by
   cases S with
   |nil=>rfl
   |cons a S=>rfl⟩ kK wS oS ⟨rfl,wS,trivial⟩ trivial trivial trivial ?_
  rintro k ⟨⟨Sg,hk⟩,hc⟩;have Sg:1<=k:=Sg;have hk:k<=S.length:=hk;have hc:qG (S.take k)=S.take k:=hc;refine⟨S.length,gN jv S,aQ (λhlt=>?_) (λhge=>?_)⟩;rotate_left;obtain rfl:k=S.length:=by have hge:¬(k:Int)<(S.length:Int):=hge;omega
  rw[aP]at hc;rw[hc];exact .inl ⟨114,2,S.map pY,⟨⟨_,rfl,bu _⟩,Jt S⟩,rfl⟩;have hlt:k<S.length:=by have hlt:(k:Int)<(S.length:Int):=hlt;omega
  have hstep:=LX Sg hlt;refine cw 9 kK ?_;refine⟨k,k*2,rfl,rfl,by rw[gN jv S];omega,?_⟩;refine⟨_,aI (pY S[k]),_,vk hlt,by rw[gN jv,aN];omega,?_⟩;refine⟨((k-1:Nat):Int),by rw[wrap64 oO oO];omega,?_⟩;refine⟨k-1,(k-1)*2,rfl,rfl,by rw[gN jv S];omega,?_⟩;refine⟨_,aI (pY S[k-1]),_,vk (show k-1<S.length by omega),by rw[gN jv,aN];omega,?_⟩;refine⟨_,zU,DC,rfl,rfl,aiC (a:=S[k]) (b:=S[k-1]) ?_⟩;by_cases hd:S[k]=S[k-1];rotate_left;rw[ah hd];rw[aa (cU hd),hc,<-bQ hlt]at hstep;exact nx (k+1) (hU (k+1) ⟨⟨oO,hlt⟩,hstep⟩ mM kK wS oS ⟨rfl,wS,trivial⟩ trivial trivial trivial);rw[ai hd];rw[af hd.symm,hc]at hstep;refine⟨k,S.length,rfl,gN jv S,hk,?_⟩;refine qf 61 1000 (λx:Nat×Nat×List Ed=>[(0,.fT 114 125 2),(3,.p (.int .i64 (x.2.1:Int))),(4,.sY 114 k 125 2),(5,.p (.int .i64 (x.1:Int)))]) (λx=>[(4,[.full [],.full []]),(9,[.gi 76 123 35 (W.map Gm),.fT 114 125 2]),(114,gR pY x.2.2)]) (λ_=>[(125,0,[(4,.ptr 4 0),(9,.ptr 9 0)])]) [] (λ_=>[]) (λ_=>[]) (λ_=>[]) (λx=>(x.2.2.length=S.length/\1<=x.1/\k+x.1<=S.length/\1<=x.2.1/\x.2.1+1<=k+x.1)/\x.2.2.take x.2.1=qG (S.take (k+x.1))/\∀i,k+x.1<=i+1->x.2.2[i]?=S[i]?) (λx=>S.length-(k+x.1)) (1,k,S) ⟨⟨rfl,av _,hlt,Sg,av _⟩,hstep.symm,λi _=>rfl⟩ kK wS oS ⟨rfl,wS,trivial⟩ trivial trivial trivial ?_;rintro⟨k2,kk,R⟩ ⟨⟨hRl,h21,h22,aiV,alg⟩,hRt,hRd⟩;simp only at hRl h21 h22 aiV alg hRt hRd;refine⟨S.length-k,by show(gR pY R).length=_;rw[gN jv R];omega,?_⟩;refine aQ (λhlt3=>?_) (λadS=>?_);have hlt3:k+k2<S.length:=by have hlt3:(k2:Int)<((S.length-k:Nat):Int):=hlt3;omega
  have hm:k+k2<R.length:=oO
  have hm1:k+k2-1<R.length:=oO
  have g1:R[k+k2]=S[k+k2]:=by have :=hRd (k+k2) oO;rw[an hm,an hlt3]at this;exact ak this
  have g2:R[k+k2-1]=S[k+k2-1]:=by have :=hRd (k+k2-1) oO;rw[an hm1,an oO]at this;exact ak this
  have hstep:=LX (show 1<=k+k2 by omega) hlt3;rw[<-hRt,<-g1,<-g2]at hstep;refine cw 9 kK ?_;refine⟨k2,(k+k2)*2,rfl,rfl,by rw[gN jv R];omega,?_⟩;refine⟨_,aI (pY R[k+k2]),_,vk hm,by rw[gN jv,aN];omega,?_⟩;refine⟨((k2-1:Nat):Int),by rw[wrap64 oO oO];omega,?_⟩;refine⟨k2-1,(k+k2-1)*2,rfl,by rw[show k+(k2-1)=k+k2-1 by omega],by rw[gN jv R];omega,?_⟩;refine⟨_,aI (pY R[k+k2-1]),_,vk hm1,by rw[gN jv,aN];omega,?_⟩;refine⟨_,zU,DC,rfl,rfl,aeZ (a:=R[k+k2]) (b:=R[k+k2-1]) ?_⟩;by_cases hd2:R[k+k2]=R[k+k2-1];rw[ai hd2];rw[af hd2.symm]at hstep;exact nx (k2+1) (hU (k2+1,kk,R) ⟨⟨hRl,by show 1<=k2+1;omega,by show k+(k2+1)<=S.length;omega,aiV,by show kk+1<=k+(k2+1);omega⟩,hstep.symm,λi hi=>hRd i (by have hi:k+(k2+1)<=i+1:=hi;omega)⟩ (by show S.length-(k+(k2+1))<S.length-(k+k2);omega) kK wS oS ⟨rfl,wS,trivial⟩ trivial trivial trivial);rw[ah hd2];rw[aa (cU hd2)]at hstep;have hkR:kk<R.length:=oO
  refine⟨k2,(k+k2)*2,rfl,rfl,by rw[gN jv R];omega,?_⟩;refine⟨_,aI (pY R[k+k2]),_,vk hm,by rw[gN jv,aN];omega,?_⟩;refine⟨kk,kk*2,rfl,rfl,by rw[gN jv R];omega,?_⟩;refine⟨_,aI (pY R[kk]),_,vk hkR,by rw[gN jv,aN];omega,gR pY (R.set kk R[k+k2]),agH hkR _,?_⟩;refine⟨((kk+1:Nat):Int),by show IntKind.i64.wrap ((kk:Int)+1)=_;rw[wrap64 oO oO];omega,?_⟩;exact nx (k2+1) (hU (k2+1,kk+1,R.set kk R[k+k2]) ⟨⟨by rw[CE];exact hRl,by show 1<=k2+1;omega,by show k+(k2+1)<=S.length;omega,by show 1<=kk+1;omega,by show kk+1+1<=k+(k2+1);omega⟩,(abt hkR).trans hstep.symm,λi hi=>by have hi:k+(k2+1)<=i+1:=hi;show(R.set kk _)[i]?=_;rw[vP oO];exact hRd i oO⟩ (by show S.length-(k+(k2+1))<S.length-(k+k2);omega) kK wS oS ⟨rfl,wS,trivial⟩ trivial trivial trivial);obtain hm:k+k2=S.length:=by have adS:¬(k2:Int)<((S.length-k:Nat):Int):=adS;omega
  rw[hm,aP]at hRt;rw[<-hRt];have hkk:kk<=S.length:=oO
  have hRm:(gR pY R).length=S.length*2:=by rw[gN jv R,hRl]
  have hzl:(nS (S.length-kk) [FV.p (.int .i64 0),FV.p (.int .i64 0)]).length=(S.length-kk)*2:=(pe _ _).1;have hTl:(gR pY (R.take kk)).length=kk*2:=by rw[gN jv,aN];omega
  refine⟨kk,S.length,rfl,hRm,hkk,?_⟩;refine⟨rfl,S.length-kk,by rw[show kk+(S.length-kk)=S.length by omega];exact hRm,gR pY (R.take kk)++nS (S.length-kk) [.p (.int .i64 0),.p (.int .i64 0)],by rw[<-ad6 jv R kk];rfl,?_⟩;refine⟨kk,S.length,rfl,by rw[show(_:List FV).length=_ from ay,hzl,hTl];omega,hkk,gR pY (R.take kk),(aV (FV.dJ 114) (List.take_left' hTl)).trans (Xy _ _),?_⟩;exact .inl ⟨114,2,(R.take kk).map pY,⟨⟨_,rfl,bu _⟩,Jt _⟩,rfl⟩
end Qv
