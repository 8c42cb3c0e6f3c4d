/- Part 41 of the proof: its lemmas. No condition. -/
import Derived.Test.YtlbofhenpfnenaaGreatDoorX14
import Derived.Test.YtlbofhenpfnenaaGreatDoorX25
import Derived.Test.YtlbofhenpfnenaaGreatDoorX27
import Derived.Test.YtlbofhenpfnenaaGreatDoorX30
import Derived.Test.YtlbofhenpfnenaaGreatDoorX31
import Derived.Test.YtlbofhenpfnenaaGreatDoorX32
import Derived.Test.YtlbofhenpfnenaaGreatDoorX33
set_option maxRecDepth 10000
set_option maxHeartbeats 80000000
set_option linter.all false
open Go Go.Proofs Go.RowKit
namespace Qv
def alV:Bool->List JT->FV|true,X=>.eU 33 55 35 (X.map cK)|false,_=>.full []
theorem Si {s:List bK}(h:jM s)(n:Nat)(at_ kd:Int)(files:List bf)(hfl:files.length<=2^31)(dg:Nat)(diff:List bw->Bool)(hdd:dg=37\/dg=40)(hdg:∀l:List bw,l.length<=2^47->aj C dg [.sl (fH l)] (λr=>r=.val (.bool (diff l))))(HC:diff []=false)(b:Bool)(X:List JT)(hb:b=false->X=[])(hX:X.length<=2^31)(K:FV->ah->Prop)(hK:K (.eU 33 55 35 ((X++rV (JS (er s) at_ (cq s)) kd diff files).map cK)) (rA n 0 [] [] [] [] [])):iQ CS 6 jl 43 [alV b X,.p (.fn (.func 72) [] [.imp [.sl (cU s)],.imp [.int .i64 at_],.imp [.sl (files.map cI)],.imp [.fn (.func dg) [] []],.imp [.int .i64 kd]])] K (rA n 0 [] [] [] [] []):=by
 refine⟨_,Tryz.func43,rfl,rfl,rfl,_,bL.refl _,?_⟩;have main:∀(K:FV->ah->Prop),(∀r,K r (rA 13 1000 [(2,.ptr 1002 0)] [(1002,[.eU 33 55 35 ((X++rV (JS (er s) at_ (cq s)) kd diff files).map cK)])] [(n,0,[])] [.ready] []))->iQ CS 5 YcS 72 [.mZ 1000000,.p (.imp [.sl (cU s)]),.p (.imp [.int .i64 at_]),.p (.imp [.sl (files.map cI)]),.p (.imp [.fn (.func dg) [] []]),.p (.imp [.int .i64 kd])] K (rA 13 1000 [(2,.ptr 1002 0)] [(1002,[.eU 33 55 35 (X.map cK)])] [(n,0,[])] [.ready] []):=by rcases hdd with rfl|rfl;exact acM h n at_ kd files hfl diff hdg HC X hX;exact acN h n at_ kd files hfl diff hdg HC X hX
 cases b with
 |true=>refine kq (T:=rA 13 1000 [(2,.ptr 1002 0)] [(1002,[.eU 33 55 35 (X.map cK)])] [(n,0,[])] [.ready] []) (bu kK wS oS ⟨rfl,trivial,trivial⟩ trivial) ?_;refine main _ λr=>?_;exact⟨rA n 0 [] [] [] [] [],bu kK trivial trivial trivial trivial,hK⟩
 |false=>obtain rfl:=hb rfl;refine kq (T:=rA 13 1000 [(2,.ptr 1002 0)] [(1002,[.eU 33 55 35 (([]:List JT).map cK)])] [(n,0,[])] [.ready] []) (bu kK wS ⟨acD (xs:=[.full []]) kK ⟨aR.mC _ _ _,trivial⟩,trivial⟩ ⟨rfl,trivial,trivial⟩ trivial) ?_;refine main _ λr=>?_;exact⟨rA n 0 [] [] [] [] [],bu kK trivial trivial trivial trivial,hK⟩
theorem Jz (s:List bK)(files:List bf)(kd at_:Int)(dg:Nat):aj C 36 [.sl (cU s),.sl (files.map cI),.int .i64 kd,.int .i64 at_,.fn (.func dg) [] []] (λr=>r=.val (.fn (.func 72) [] [.imp [.sl (cU s)],.imp [.int .i64 at_],.imp [.sl (files.map cI)],.imp [.fn (.func dg) [] []],.imp [.int .i64 kd]])):=by refine ag Tryz.func36 rfl rfl rfl ?_;refine⟨[5,8,6,9,7],bZ (cells:=[.p (.sl (cU s))]) (ys:=[.sl (cU s)]) rfl rfl rfl (bZ (cells:=[.p (.int .i64 at_)]) (ys:=[.int .i64 at_]) rfl rfl rfl (bZ (cells:=[.p (.sl (files.map cI))]) (ys:=[.sl (files.map cI)]) rfl rfl rfl (bZ (cells:=[.p (.fn (.func dg) [] [])]) (ys:=[.fn (.func dg) [] []]) rfl rfl rfl (bZ (cells:=[.p (.int .i64 kd)]) (ys:=[.int .i64 kd]) rfl rfl rfl ?_))))⟩;exact rfl
theorem YK {s:List bK}(h:jM s)(at_ kd:Int)(files:List bf)(hfl:files.length<=2^31)(dg:Nat)(diff:List bw->Bool)(hdd:dg=37\/dg=40)(hdg:∀l:List bw,l.length<=2^47->aj C dg [.sl (fH l)] (λr=>r=.val (.bool (diff l))))(HC:diff []=false):aj C 44 [.fn (.func 72) [] [.imp [.sl (cU s)],.imp [.int .i64 at_],.imp [.sl (files.map cI)],.imp [.fn (.func dg) [] []],.imp [.int .i64 kd]]] (λr=>r=.fresh 55 35 ((rV (JS (er s) at_ (cq s)) kd diff files).map cK)):=by refine lz {uO with inl:=[43,54],Be:=[2005]} [] Tryz.func44 rfl rfl rfl ?_;refine .inl (kq (T:=rA 5 0 [] [] [] [] []) (bu kK trivial trivial trivial trivial) ?_);refine Si h 5 at_ kd files hfl dg diff hdd hdg HC false [] (λ_=>rfl) dD _ ?_;exact .inl rfl
def sk (s:List bK):List bf:=((ou (cq s)).filter λa=>!mX s a.id).map λa=>a.id
def ajE (s:List bK):List JT:=rV (JS (er s) 3 (cq s)) 9 Ju (sk s)++rV (JS (er s) 4 (cq s)) 10 Mu (sk s)
theorem JA {s:List bK}(h:jM s):aj C 13 [.sl (cU s)] (λr=>r=.val (.sl ((ajE s).map cK))):=by
 have hl:=h.ok.JR;have hal:=mE hl;have ajD:(ou (cq s)).length<=2^22*400:=bH (dO _ _) hal;have hfp:(sk s).length<=2^22*400:=by unfold sk;rw[ai];exact bH (dO _ _) ajD
 refine lz {uO with inl:=[43,54],Be:=[2005]} [] Tryz.func13 rfl rfl rfl ?_;refine cl (Sh h).dL ?_;have hfE:sk s=((ou (cq s)).filter λa=>!mX s a.id).map λa=>a.id:=rfl;have fin:∀F':List bf,F'=sk s->F'=sk s:=λ_ h=>h;unfold OG;generalize hF:ou (cq s)=F at*;refine bI 36 (λk:Nat=>[(0,.p (.sl (cU s))),(3,.eU 24 33 33 ((((F.take k).filter λa=>!mX s a.id).map λa=>a.id).map cI)),(9,.p (.sl (F.map (Wl (er s) (nF (er s) (cq s)))))),(10,.p (.int .i64 ((F.map (Wl (er s) (nF (er s) (cq s)))).length:Int))),(11,.p (.int .i64 k))]) (λ_=>[]) (λk=>k<=F.length) (λk=>F.length-k) 0 (zL) rfl ⟨aR.refl _,aR.mC _ _ _,aR.refl _,aR.refl _,aR.refl _,trivial⟩ trivial ?_;intro k hk;refine bY (λhlt=>?_) (λhge=>?_);have hst:(((F.take (k+1)).filter λa=>!mX s a.id).map λa=>a.id).map cI=(((F.take k).filter λa=>!mX s a.id).map λa=>a.id).map cI++(if mX s F[k].id=true then[]else[cI F[k].id]):=by rw[ef hlt,ko,aN,aN];congr 1;cases hg:mX s F[k].id<;>simp[hg]
 have tW:k+1<=F.length:=hlt;have JL:((((F.take k).filter λa=>!mX s a.id).map λa=>a.id).map cI).length<=2^22*400:=by rw[ai,ai];have h1:((F.take k).filter λa=>!mX s a.id).length<=(F.take k).length:=dO _ _;rw[aH]at h1;omega
 have hte:∀zs,zs∈(((F.take k).filter λa=>!mX s a.id).map λa=>a.id).map cI->zs.length=33:=gL;refine ix hlt ?_;generalize F[k]=a at hst⊢;generalize(((F.take k).filter λa=>!mX s a.id).map λa=>a.id).map cI=O at hst JL hte⊢;refine cl (Sg h a.id).dL ?_;refine bq ?_;cases hg:mX s a.id with
 |true=>rw[hg,af rfl,bg]at hst;exact nx (k+1) (aU (k+1) tW oO rfl ⟨aR.refl _,aR.eq (by rw[hst];rfl),aR.refl _,aR.refl _,aR.refl _,trivial⟩ trivial)
 |false=>rw[hg,aa dD]at hst;refine⟨hte,(λzs hz=>by rw[aO.1 hz];rfl),by show(O.length+1)*40<=_;omega,O++[cI a.id],rfl,?_⟩;exact nx (k+1) (aU (k+1) tW oO rfl ⟨aR.refl _,aR.eq (by rw[hst];rfl),aR.refl _,aR.refl _,aR.refl _,trivial⟩ trivial)
 obtain rfl:k=F.length:=oO
 rw[aP,<-hfE];have h1:=YK h 3 9 (sk s) oO 37 Ju (.inl rfl) YE rfl;have hxl:=DU (JS (er s) 3 (cq s)) 9 Ju (sk s);refine cl (Jz s (sk s) 9 3 37).dL ?_;refine cl (Jz s (sk s) 10 4 40).dL ?_;refine cl h1.dL ?_;refine .inl (kq (T:=rA 36 0 [] [] [] [] []) (bu kK trivial trivial trivial trivial) ?_);refine Si h 36 4 10 (sk s) oO 40 Mu (.inr rfl) YF rfl true _ (λh=>by cases h) oO _ ?_;exact .inr rfl
def MD (a:bw):Prop:=(a.kind=3->a.data=[])/\(a.kind=4->a.mode=0)
theorem acR (c:ew)(f:Nat):∀a,a∈eu c f->MD a:=by
 intro a ha;unfold eu at ha;split at ha;rcases aW.1 ha with ha|ha;obtain⟨i,-,rfl⟩:=aA.1 ha;exact⟨λ_=>rfl,λ_=>rfl⟩;obtain⟨i,-,rfl⟩:=aA.1 ha;exact⟨λ_=>rfl,λ_=>rfl⟩;obtain rfl:=aO.1 ha;unfold mh;repeat' split
 all_goals first|exact⟨λ_=>rfl,λ_=>rfl⟩|exact⟨λh=>absurd (show(4:Int)=3 from h) dD,λ_=>rfl⟩|exact⟨λ_=>rfl,λh=>absurd (show(3:Int)=4 from h) dD⟩
theorem Wm:∀(l:List ew)(own:List bw),(∀a,a∈own->MD a)->∀a,a∈(fN l own).1->MD a|[],own,h=>h|c::l,own,h=>by rw[gB];split;intro a ha;cases ha;split;intro a ha;cases ha;exact Wm l _ λa ha=>(aW.1 ha).elim (h a) (acR c _ a)
theorem afl (d:Dg){a:bw}(h:MD a):MD (fD d a):=by
 have h1:(st1 d a).kind=a.kind/\(st1 d a).data=a.data/\(st1 d a).mode=a.mode:=⟨rfl,rfl,rfl⟩;have h2:∀b,(st2 d b).kind=b.kind/\(st2 d b).data=b.data/\(st2 d b).mode=b.mode:=λb=>by unfold st2;split<;>exact⟨rfl,rfl,rfl⟩
 have h3:∀b,(JO d b).kind=b.kind/\(JO d b).data=b.data/\(JO d b).mode=b.mode:=λb=>by unfold JO;split<;>exact⟨rfl,rfl,rfl⟩
 have h4:∀b,(JP d b).kind=b.kind/\(JP d b).data=b.data/\(JP d b).mode=b.mode:=λb=>by unfold JP;split<;>exact⟨rfl,rfl,rfl⟩
 have h5:∀b,(Za d b).kind=b.kind/\(Za d b).data=b.data/\(Za d b).mode=b.mode:=λb=>⟨rfl,rfl,rfl⟩;unfold MD fD;rw[(h5 _).1,(h5 _).2.1,(h5 _).2.2,(h4 _).1,(h4 _).2.1,(h4 _).2.2,(h3 _).1,(h3 _).2.1,(h3 _).2.2,(h2 _).1,(h2 _).2.1,(h2 _).2.2];exact h
theorem ahF {s:List bK}(h:jM s){a:bw}(ha:a∈cq s):MD a:=by obtain⟨x,hx,ha⟩:=(kA h).1 ha;rw[zO (h.q x hx)]at ha;obtain⟨b,hb,rfl⟩:=aA.1 ha;refine afl _ ?_;rw[(h.q x hx).Rr.all]at hb;exact Wm _ _ (λa ha=>by cases ha) b hb
theorem JB {α:Type}{p q:α->Bool}:∀{l:List α},(∀x,x∈l->p x=q x)->l.any p=l.any q|[],_=>rfl|a::l,h=>by rw[xm,xm,h a (by simp),JB λx hx=>h x (bh _ hx)]
theorem head_mem {α:Type}{l:List α}{x d:α}(h:x∈l):l.headD d∈l:=by
 cases l with
 |nil=>cases h
 |cons a l=>exact gq
theorem ahG {l:List bw}(h:∀a,a∈l->a.data=[]):Ju l=vW l:=JB λx hx=>by rw[h x hx,h _ (head_mem hx),ak (show¬([]:Bytes)≠[]fromλg=>g rfl),Bool.or_false]
theorem ahH {l:List bw}(h:∀a,a∈l->a.mode=0):Mu l=vW l:=JB λx hx=>by rw[h x hx,h _ (head_mem hx),ak (show¬(0:Int)≠0 fromλg=>g rfl),pW]
theorem JC {s:List bK}(kind:Int)(diff:List bw->Bool)(hd:∀f,diff (uN (cq s) (lu s) f kind)=vW (uN (cq s) (lu s) f kind)):∀l:List bw,rV (JS (er s) kind (cq s)) (6+kind) diff (((ou l).filter λa=>!mX s a.id).map λa=>a.id)=l.flatMap (AK s kind)
 |[]=>rfl
 |a::l=>by
  have ih:=JC kind diff hd l;rw[qv,<-ih];unfold AK ou;by_cases h1:a.kind=1;rw[qw (by rw[av h1])];cases hg:mX s a.id with
  |true=>rw[nZ (by rw[hg];decide),af (.inr (.inr rfl))];rfl
  |false=>
   rw[qw (by rw[hg];rfl),cE];show tS _ _ _ a.id++_=_;unfold tS;have hv:YH (JS (er s) kind (cq s)) a.id=uN (cq s) (lu s) a.id kind:=Wj a.id kind;rw[hv,hd];cases hf:vW (uN (cq s) (lu s) a.id kind)with
   |true=>rw[af rfl,aa (λh=>h.elim (λh=>h h1) λh=>h.elim (λh=>by cases h) λh=>by cases h)];rfl
   |false=>rw[aa dD,af (.inr (.inl rfl))];rfl
  rw[nZ (by rw[ak h1];decide),af (.inl h1)];rfl
theorem afm {s:List bK}(h:jM s):ajE s=oW s 2:=by
 have hm:∀(f:bf)(kind:Int)(a:bw),a∈uN (cq s) (lu s) f kind->a.kind=kind/\MD a:=λf kind a ha=>by obtain⟨h1,h2⟩:=gr.1 ha;unfold aeH at h2;rw[aY,decide_eq_true_eq]at h2;exact⟨h2.1,ahF h h1⟩
 have e3:=JC (s:=s) 3 Ju (λf=>ahG λa ha=>(hm f 3 a ha).2.1 (hm f 3 a ha).1) (cq s);have e4:=JC (s:=s) 4 Mu (λf=>ahH λa ha=>(hm f 4 a ha).2.2 (hm f 4 a ha).1) (cq s);have h2:oW s 2=(cq s).flatMap (AK s 3)++(cq s).flatMap (AK s 4):=by rw[pH,pH];rfl
 rw[h2,<-e3,<-e4];rfl
theorem My {s:List bK}(h:jM s):aj C 13 [.sl (cU s)] (λr=>r=.val (.sl ((oW s 2).map cK))):=by rw[<-afm h];exact JA h
theorem ac2 {sA sB sC:List bK}{dA dB dC:Dg}{a b:bw}{i j:bf}(h1:aj C 17 [.sl (cU []),.agg (cP pA)] (λr=>r=.val (EG (sA,dA,true))))(h2:aj C 17 [.sl (cU sA),.agg (cP (dF ⟨dA,0⟩ 493 1 [⟨dA,1⟩]))] (λr=>r=.val (EG (sB,dB,true))))(h3:aj C 17 [.sl (cU sB),.agg (cP (dF ⟨dA,0⟩ 511 2 [⟨dA,1⟩]))] (λr=>r=.val (EG (sC,dC,true))))(h4:aj C 20 [.sl (cU sC),.agg (cI ⟨dA,0⟩),.int .i64 3] (λr=>r=.val (.sl (fH [a,b]))))(h5:aj C 13 [.sl (cU sC)] (λr=>r=.val (.sl [cK ⟨9,⟨dA,0⟩,[i,j]⟩])))(h6:aj C 21 [.sl (cU sA),.agg (cI ⟨dA,0⟩)] (λr=>r=.val (.int .i64 420)))(h7:aj C 21 [.sl (cU sC),.agg (cI ⟨dA,0⟩)] (λr=>r=.val (.int .i64 493)))(hc:¬fU ⟨dC,0⟩ ⟨dB,0⟩<0):aj C 15 [] (λr=>r=.val (.bool true)):=by refine ag Tryz.func15 rfl rfl rfl ?_;refine cl h1 ?_;refine⟨.plan ⟨[0,1,2,3],[4,5,6,7],[],[2]⟩ (.one 0 (.one 1 (.one 2 (.one 3 (.alt 4 (.alt 5 (.alt 6 (.alt 7 .fin .stop) .stop) .stop) (.alt 5 (.alt 4 (.alt 6 (.alt 7 .fin .stop) .stop) .stop) .stop)))))) (some (rA 112 0 [(1,.p (.sl (cU sA))),(2,.ptr 2 0),(3,.p (.bool true)),(4,.ptr 4 0),(5,.ptr 5 0)] [(2,aF (cD dA)),(4,aF (cI ⟨dA,0⟩)),(5,aF (cI ⟨dA,1⟩))] [] [] [])),kK,?_,?_⟩;refine⟨_,rfl,kK,?_⟩;refine⟨_,rfl,kK,?_⟩;refine⟨_,rfl,kK,?_⟩;refine⟨_,rfl,kK,?_⟩;refine⟨?_,?_⟩;refine⟨kK,?_⟩;refine⟨kK,?_⟩;refine⟨kK,?_⟩;refine⟨kK,?_⟩;exact bu kK wS oS trivial trivial;refine⟨kK,?_⟩;refine⟨kK,?_⟩;refine⟨kK,?_⟩;refine⟨kK,?_⟩;exact bu kK wS oS trivial trivial;refine cl (zA ⟨dA,0⟩ 493 1 [⟨dA,1⟩]) ?_;refine cl h2 ?_;refine cl (zA ⟨dA,0⟩ 511 2 [⟨dA,1⟩]) ?_;refine cl h3 ?_;refine cl h4 ?_;refine cl h5 ?_;refine⟨none,?_⟩;refine bq ?_;refine bq ?_;refine bq ?_;refine cS (λh=>absurd rfl h) (λ_=>?_);refine cS (λh=>absurd rfl h) (λ_=>?_);refine cl h6 ?_;refine cS (λh=>absurd rfl h) (λ_=>?_);refine cl (zi ⟨dC,0⟩ ⟨dB,0⟩) ?_;refine az (λg=>absurd g hc) (λ_=>?_);refine cG 29 kK ?_;refine⟨.int .i64 493,h7,?_⟩;refine aD (λ_=>?_) (λh=>absurd rfl h);refine⟨dD,_,rfl,rfl,?_⟩;refine aD (λ_=>?_) (λh=>absurd rfl h);refine⟨dD,_,rfl,rfl,?_⟩;refine rB ?_;refine jK (a:=⟨dA,0⟩) (b:=⟨dA,0⟩) ?_;rw[av (rfl:(⟨dA,0⟩:bf)=⟨dA,0⟩)];refine⟨dD,_,rfl,rfl,?_⟩;refine aD (λ_=>?_) (λh=>absurd rfl h);exact rfl
theorem UL (s:List bK):oW s 2=(cq s).flatMap (AK s 3)++(cq s).flatMap (AK s 4):=by rw[pH,pH];rfl
theorem Sj {s:List bK}{kind:Int}{a:bw}{c:JT}(h:c∈AK s kind a):c.kind=6+kind/\c.file=a.id/\a.kind=1/\vW (uN (cq s) (lu s) a.id kind)=true/\mX s a.id=false:=by
 unfold AK at h;split at h;cases h;rename_i g;obtain rfl:=aO.1 h;refine⟨rfl,rfl,ee.1 λq=>g (.inl q),?_,?_⟩;cases hq:vW (uN (cq s) (lu s) a.id kind)with
 |true=>rfl
 |false=>exact absurd (.inr (.inl hq)) g
 cases hq:mX s a.id with
 |false=>rfl
 |true=>exact absurd (.inr (.inr hq)) g
theorem afn {s:List bK}{c:JT}(h:c∈oW s 2):(c.kind=9/\vW (uN (cq s) (lu s) c.file 3)=true\/c.kind=10/\vW (uN (cq s) (lu s) c.file 4)=true)/\mX s c.file=false:=by rw[UL]at h;rcases aW.1 h with h|h;obtain⟨a,-,h⟩:=dH.1 h;obtain⟨h1,h2,-,h4,h5⟩:=Sj h;rw[h2];exact⟨.inl ⟨h1,h4⟩,h5⟩;obtain⟨a,-,h⟩:=dH.1 h;obtain⟨h1,h2,-,h4,h5⟩:=Sj h;rw[h2];exact⟨.inr ⟨h1,h4⟩,h5⟩
theorem afo {s:List bK}(h:jM s){n:Nat}(hn:(uG s n).2=true):∃a,a∈cq s/\a.kind=1/\a.id=(uG s n).1:=by
 unfold uG at hn⊢;cases hq:(zR s)[n%(zR s).length]?with
 |none=>rw[hq]at hn;cases hn
 |some x=>obtain⟨y,hy,hx⟩:=dH.1 (bA hq);obtain⟨a,ha,rfl⟩:=aA.1 hx;obtain⟨h1,h2⟩:=gr.1 ha;exact⟨a,(kA h).2 ⟨y,hy,h1⟩,qm h2,rfl⟩
theorem AA {s:List bK}(h:jM s){a:bw}(ha:a∈pL s):a∈cq s:=by obtain⟨x,hx,-,hq⟩:=(Jo h λd hd=>(jQ h.ok d).1 hd).1 ((vV _).subset ha);exact(kA h).2 ⟨x,hx,hq⟩
theorem OH {s:List bK}(h:jM s){a:bw}(ha:a∈cq s):a∈fu s (bB s):=by obtain⟨x,hx,hq⟩:=(kA h).1 ha;exact(Jo h λd hd=>(jQ h.ok d).1 hd).2 ⟨x,hx,(jQ h.ok _).2 (aA.2 ⟨x,hx,rfl⟩),hq⟩
theorem OI {α β:Type}{f:α->β}{l:List α}(h:(l.map f).Nodup):l.Nodup:=by rw[DG,DH]at h;exact DG.2 (h.imp λg e=>g (aS f e))
theorem OJ {s:List bK}(h:jM s){a:bw}(ha:a∈cq s):a∈pL s↔∀b,b∈pL s->¬RU b a:=Yx (OI (Fb h (uD h.ok) λd hd=>(jQ h.ok d).1 hd)) (λl1 l2 a b he hb=>RX h (bB s) [] rfl l1 l2 a b he (by simpa[fu]using hb)) (OH h ha)
theorem acS {s t:List bK}(h:jM s)(h2:jM t)(sub:∀a,a∈cq s->a∈cq t)(new:∀b,b∈cq t->b.kind=7->b∈cq s){a:bw}(ha:a∈cq s):a∈pL t↔a∈pL s:=by
 have key:∀l2 l1:List bw,fu t (bB t)=l1++l2->∀a,a∈l2->a∈cq s->(a∈pL t↔a∈pL s):=by
  intro l2;induction l2 with
  |nil=>intro l1 _ a g;cases g
  |cons x l ih=>
   intro l1 he a hm hs;have ih2:=ih (l1++[x]) (by rw[he];simp);rcases aG.1 hm with rfl|hm;rw[OJ h2 (sub a hs),OJ h hs];have late:∀b,b∈cq t->RU b a->b∈l:=λb hb hr=>by have hbo:=OH h2 hb;rw[he]at hbo;have :=λg=>RX h2 (bB t) [] rfl l1 l a b he (by simpa[fu]using g) hr;rcases aW.1 hbo with g|g;exact absurd (.inl g) this;rcases aG.1 g with g|g;exact absurd (.inr g) this;exact g
   constructor;intro g b hb hr;have hbs:=AA h hb;exact g b ((ih2 b (late b (sub b hbs) hr) hbs).2 hb) hr;intro g b hb hr;have hbt:=AA h2 hb;have hbs:=new b hbt hr.1;exact g b ((ih2 b (late b hbt hr) hbs).1 hb) hr;exact ih2 a hm hs
 exact key _ [] rfl a (OH h2 (sub a ha)) ha
theorem Sk {s:List bK}(a:bw):FO s a=true↔∀e,e∈pL s->a.id∉e.over:=by
 unfold FO;rw[decide_eq_true_eq,bJ];constructor;intro g e he hm;have :e.id∈sr (pL s) a.id:=Az.2 ⟨e,he,hm,rfl⟩;rw[g]at this;cases this;intro g;cases hk:sr (pL s) a.id with
 |nil=>rfl
 |cons y l=>obtain⟨e,he,hm,-⟩:=Az.1 (show y∈sr (pL s) a.id by rw[hk];simp);exact absurd hm (g e he)
theorem OK {s:List bK}(h:jM s){a b:bw}(ha:a∈cq s)(hb:b∈cq s)(e:a.id=b.id):a=b:=by have hp:=EZ h;rw[<-Av h.ok.AJ]at hp;refine gR λhne=>?_;obtain⟨i,hi,rfl⟩:=xK.1 ha;obtain⟨j,hj,rfl⟩:=xK.1 hb;rcases Nat.lt_trichotomy i j with g|g|g;have :=qp.1 hp i j hi hj g;rw[e]at this;exact iq _ this;subst g;exact hne rfl;have :=qp.1 hp j i hj hi g;rw[e]at this;exact iq _ this
theorem Wn {s:List bK}(h:jM s){f:bf}{a:bw}:a∈cR s f 3↔a∈cq s/\a.kind=3/\a.file=f/\∀e,e∈pL s->a.id∉e.over:=by unfold cR uN;rw[aa dD,gr];unfold aeH;simp only[aY,decide_eq_true_eq];constructor;rintro⟨h1,h2,h3,h4⟩;obtain⟨b,hb,e⟩:=aA.1 h4;obtain⟨BT,vk⟩:=gr.1 hb;rw[<-OK h BT h1 e];exact⟨BT,by rw[OK h BT h1 e];exact h2,by rw[OK h BT h1 e];exact h3,(Sk b).1 vk⟩;rintro⟨h1,h2,h3,h4⟩;exact⟨h1,h2,h3,aA.2 ⟨a,gr.2 ⟨h1,(Sk a).2 h4⟩,rfl⟩⟩
theorem MA {s:List bK}(h:jM s)(f:bf):(cR s f 3).Pairwise λa b=>fU a.id b.id<0:=by unfold cR uN;rw[aa dD];have hp:=EZ h;rw[<-Av h.ok.AJ]at hp;exact hp.filter _
theorem UM {f:bf}{m t:Int}{I:List bf}(hf:zy (dF f m t I)){d:Dg}(hid:mL (dF f m t I)=(d,0)):pM (dF f m t I)=[fD d (mh (oQ f m I) 0)]/\f.p≠bz/\∀z,z∈I->z.p≠bz:=by
 have WJ:(mP (dF f m t I)).2=0:=by have :=hid;unfold mL at this;by_cases g:(mP (dF f m t I)).2≠0;rw[af g]at this;exact absurd (aS Prod.snd this) g;exact ee.1 g
 have Ej:(cn (dF f m t I)).2=0:=by have :=WJ;unfold mP at this;by_cases g:(cn (dF f m t I)).2≠0;rw[af g]at this;exact absurd this g;exact ee.1 g
 have hall:=(nB Ej).all;have hc0:(fN [oQ f m I] []).2=0:=by have :(dF f m t I).changes=[oQ f m I]:=rfl;rw[<-this,<-hall];exact Ej
 have h1:cQ (oQ f m I)=0:=(nB Ej).each _ (by show _∈[oQ f m I];simp);have h2:lp (oQ f m I) []=0:=by rw[gB,aa (λg=>g h1)]at hc0;by_cases g:lp (oQ f m I) []≠0;rw[af g]at hc0;exact absurd hc0 g;exact ee.1 g
 have hz:∀(x:bf)(b:Bool),rP x 0 b=0->x.p≠bz:=λx b g hp=>by unfold rP tM at g;rw[af hp]at g;by_cases q:(decide (0<=x.n)&&decide (x.n<((0:Nat):Int)))=true;rw[aY,decide_eq_true_eq,decide_eq_true_eq]at q;omega;rw[aa q]at g;exact absurd g dD
 have agq:=lR.1 h2;refine⟨?_,?_,λz hzI=>?_⟩;unfold pM dx;rw[hid];show(cn (dF f m t I)).1.map (fD d)=_;rw[hall];show(fN [oQ f m I] []).1.map (fD d)=_;rw[gB,aa (λg=>g h1),aa (λg=>g h2)];rfl;refine hz f (ej 3 (kH [] f)) (agq _ ?_);unfold FL;exact aG.2 (.inl rfl);refine hz z (fh 3 f (kH [] z)) (agq _ ?_);unfold FL;simp only[aG,aW,aA];exact .inr (.inr (.inr (.inr (.inl ⟨z,hzI,rfl⟩))))
theorem JH {s t:List bK}{p:fW}{d:Dg}(h:jM s)(hl:s.length<=2^20)(hp:zy p)(ha:kJ s p=(t,d,0)):aj C 17 [.sl (cU s),.agg (cP p)] (λr=>r=.val (EG (t,d,true))):=by
 have hg:=vK s p h.fit hl hp;have e:EF s p=(t,d,true):=by unfold EF;rw[ha];rfl
 rwa[e]at hg
theorem Su:aj C 15 [] (λr=>r=.val (.bool true)):=by obtain⟨a,b,hv,-⟩:=Wz;have h4:=rq ahR ⟨dA,0⟩ 3;rw[hv]at h4;have h5:=My ahR;rw[afy]at h5;have h6:=zQ ahQ ⟨dA,0⟩;rw[ac0]at h6;have h7:=zQ ahR ⟨dA,0⟩;rw[ac1]at h7;exact ac2 (JH ajN dD ajM ahN) (JH ahQ dD (afw _ _ _ _) ahO) (JH ajO dD (afw _ _ _ _) ahP) h4 h5 h6 h7 (by rw[show fU ⟨dC,0⟩ ⟨dB,0⟩=1 from kK];decide)
theorem ajT {a b:bf}{K:Bool->Prop}(h1:a=b->K true)(h2:a≠b->K false):Al λt:Bool=>t=sameAs (cI a) (cI b)->K t:=jK (by by_cases e:a=b;rw[av e];exact h1 e;rw[ak e];exact h2 e)
theorem KL {α:Type}{l:List α}{k:Nat}(p:α->Bool)(h:k<l.length):(l.take (k+1)).any p=((l.take k).any p||p l[k]):=by rw[<-eS h,List.any_append,xm,List.any_nil,Bool.or_false]
theorem Sl {s:List bK}(h:jM s){a:bw}(ha:a∈cq s){z:bf}(hz:z∈a.over):z.p∈dJ s:=by obtain⟨x,hx,hq⟩:=(kA h).1 ha;obtain⟨i,hi,hia,-⟩:=RW h hx hq;rcases GP h hx hi (z:=z) (by rw[hia];exact hz)with⟨g,-⟩|⟨g,-⟩;rw[g];exact aA.2 ⟨x,hx,rfl⟩;exact h.ok.FY x hx _ g
theorem acT {s:List bK}(h:jM s){a:bw}(ha:a∈cq s):a.id.p∈dJ s:=by obtain⟨x,hx,hq⟩:=(kA h).1 ha;obtain⟨i,hi,hia,hid⟩:=RW h hx hq;rw[hid];exact aA.2 ⟨x,hx,rfl⟩
theorem JE {z:bf}(h:z.p≠bz)(d:Dg):bW z d=z:=aa λg=>h g.1
def gN (d:Dg)(f:bf)(m:Int)(I:List bf):bw:=⟨⟨d,0⟩,3,f,0,aT,[],m,[],[],aT,aT,OX d I⟩
theorem Sm {d:Dg}{f:bf}{m:Int}{I:List bf}(hf:f.p≠bz):fD d (mh (oQ f m I) 0)=gN d f m I:=by show(⟨⟨d,0⟩,3,bW f d,0,aT,[],m,[],[],aT,aT,OX d I⟩:bw)=_;rw[JE hf];rfl
theorem afp {d:Dg}{I:List bf}(h:∀z,z∈I->z.p≠bz){z:bf}:z∈OX d I↔z∈I:=by unfold OX;rw[vO];simp only[aA,fQ,or_false];constructor;rintro⟨y,hy,rfl⟩;rw[JE (h y hy)];exact hy;intro hz;exact⟨z,hz,JE (h z hz) d⟩
structure Grown (s t:List bK)(d:Dg)(f:bf)(m:Int)(I:List bf):Prop where
 ok:jM s
 Pa:jM t
 new:d∉dJ s
 all:∀a,a∈cq t↔a=gN d f m I\/a∈cq s
 nz:∀z,z∈I->z.p≠bz
theorem grown_of {s:List bK}(h:jM s){d:Dg}{f:bf}{m ti:Int}{I:List bf}(h2:jM (lI s ⟨d,dF f m ti I⟩))(hn:d∉dJ s)(hf:zy (dF f m ti I))(hid:mL (dF f m ti I)=(d,0)):Grown s (lI s ⟨d,dF f m ti I⟩) d f m I:=by obtain⟨h3,h4,h5⟩:=UM hf hid;refine⟨h,h2,hn,λa=>?_,h5⟩;rw[kA h2,kA h];constructor;rintro⟨x,hx,ha⟩;rcases lG.1 hx with rfl|hx;rw[show(⟨d,dF f m ti I⟩:bK).pat=dF f m ti I from rfl,h3,Sm h4]at ha;exact .inl (aO.1 ha);exact .inr ⟨x,hx,ha⟩;rintro(rfl|⟨x,hx,ha⟩);exact⟨_,lG.2 (.inl rfl),by rw[show(⟨d,dF f m ti I⟩:bK).pat=dF f m ti I from rfl,h3,Sm h4];simp⟩;exact⟨x,lG.2 (.inr hx),ha⟩
section
variable {s t:List bK}{d:Dg}{f:bf}{m:Int}{I:List bf}
theorem Grown.eff (g:Grown s t d f m I){a:bw}:a∈pL t↔a=gN d f m I\/a∈pL s:=by have old:∀{a:bw},a∈cq s->(a∈pL t↔a∈pL s):=λha=>acS g.ok g.Pa (λa h=>(g.all a).2 (.inr h)) (λb hb hk=>((g.all b).1 hb).resolve_left λe=>by subst e;exact absurd hk (by show¬(3:Int)=7;decide)) ha;constructor;intro h;rcases(g.all a).1 (AA g.Pa h)with e|ha;exact .inl e;exact .inr ((old ha).1 h);rintro(rfl|h);refine(OJ g.Pa ((g.all _).2 (.inl rfl))).2 λb hb hr=>?_;rcases(g.all b).1 (AA g.Pa hb)with e|hbs;subst e;exact absurd hr.1 (by show¬(3:Int)=7;decide);exact g.new (Sl g.ok hbs hr.2);exact(old (AA g.ok h)).2 h
theorem Grown.val (g:Grown s t d f m I){f':bf}{a:bw}:a∈cR t f' 3↔(a=gN d f m I/\f=f')\/(a∈cR s f' 3/\a.id∉I):=by
 rw[Wn g.Pa,Wn g.ok];have hid:(gN d f m I).id=⟨d,0⟩:=rfl;have VJ:∀z,z∈(gN d f m I).over↔z∈I:=λz=>afp g.nz;constructor;rintro⟨h1,h2,h3,h4⟩;rcases(g.all a).1 h1 with rfl|ha;exact .inl ⟨rfl,h3⟩;exact .inr ⟨⟨ha,h2,h3,λe he=>h4 e (g.eff.2 (.inr he))⟩,λhz=>h4 _ (g.eff.2 (.inl rfl)) ((VJ _).2 hz)⟩;rintro(⟨rfl,rfl⟩|⟨⟨h1,h2,h3,h4⟩,h5⟩);refine⟨(g.all _).2 (.inl rfl),rfl,rfl,λe he hz=>?_⟩;rcases g.eff.1 he with rfl|he;have h6:=(VJ _).1 hz;have h7:(⟨d,0⟩:bf)∈I:=h6;have h8:(gN d f m I)∈cq t:=(g.all _).2 (.inl rfl);obtain⟨x,hx,hq⟩:=(kA g.Pa).1 h8;obtain⟨i,hi,hia,alX⟩:=RW g.Pa hx hq;have hxd:d=x.id/\(0:Int)=(i:Int):=by have :=hid.symm.trans alX;injection this with e1 e2;exact⟨e1,e2⟩
 rcases GP g.Pa hx hi (z:=⟨d,0⟩) (by rw[hia];exact hz)with⟨-,q⟩|⟨-,q⟩;have q:(0:Int)<(i:Int):=q;omega;exact q hxd.1;exact g.new (Sl g.ok (AA g.ok he) hz);refine⟨(g.all _).2 (.inr h1),h2,h3,λe he hz=>?_⟩;rcases g.eff.1 he with rfl|he;exact h5 ((VJ _).1 hz);exact h4 e he hz
theorem Grown.last (g:Grown s t d f m I)(hI:∀a,a∈cR s f 3->a.id∈I):cR t f 3=[gN d f m I]:=by
 have hm:∀a,a∈cR t f 3↔a=gN d f m I:=λa=>by rw[g.val];constructor;rintro(⟨h,-⟩|⟨h1,h2⟩);exact h;exact absurd (hI a h1) h2;exactλh=>.inl ⟨h,rfl⟩
 have hp:=MA g.Pa f;generalize cR t f 3=l at hm hp;match l,hm,hp with
  |[],hm,_=>exact absurd ((hm _).2 rfl) (by simp)
  |[a],hm,_=>rw[(hm a).1 (by simp)]
  |a::b::r,hm,hp=>have h1:=(hm a).1 (by simp);have h2:=(hm b).1 (by simp);have h3:=(de.1 hp).1 b (by simp);rw[h1,h2]at h3;exact absurd h3 (iq _)
end
theorem YO (c:ew)(n:Nat):(eu c n).length<=2*chW c:=by unfold eu chW;split;simp only[au,ai,pT];omega;simp only[fo];omega
theorem Fh:∀(l:List ew)(own:List bw),(fN l own).1.length<=own.length+2*vJ l
 |[],own=>by show own.length<=_;omega
 |c::l,own=>by
  rw[gB];have h1:=Fh l (own++eu c own.length);have h2:=YO c own.length;have h3:vJ (c::l)=chW c+vJ l:=by unfold vJ;simp
  rw[au]at h1;split;exact zL;split;exact zL;omega
theorem ajP {s:List bK}(h:jM s){x:bK}(hx:x∈s):(pM x.pat).length<=2*vJ x.pat.changes:=by have hq:=h.q x hx;rw[zO hq,ai,hq.Rr.all];have :=Fh x.pat.changes [];simpa using this
theorem ac3 {α β:Type}(f:α->List β)(g:α->Nat):∀l:List α,(∀x,x∈l->(f x).length<=g x)->(l.flatMap f).length<=(l.map g).sum|[],_=>zL|x::l,h=>by have h1:=ac3 f g l λy hy=>h y (bh _ hy);have h2:=h x (by simp);simp only[qv,au,cE,qa];omega
theorem WA (f:bK->Nat):∀l:List bK,(l.map λx=>2*f x).sum=2*(l.map f).sum|[]=>rfl|x::l=>by simp only[cE,qa,WA f l];omega
theorem WB {s:List bK}(h:jM s)(hg:oq s=false):(cq s).length<=600:=by
 have h1:(cq s).length<=2*yq s:=by rw[Av h.ok.AJ];unfold yq;rw[<-WA];exact ac3 _ _ s λx hx=>ajP h hx
 have h2:yq s<=300:=by unfold oq uM at hg;simp only[jj,decide_eq_false_iff_not]at hg;have h3:s.take 9=s:=cF oO;rw[show 8+1=9 from rfl,h3]at hg;omega
 omega
theorem zS {l:List bw}{z:bf}:z∈vL l↔∃a,a∈l/\a.id=z:=by unfold vL;rw[show(l.foldl (λout a=>kX out a.id) [])=(l.map λa=>a.id).foldl kX []from(List.foldl_map).symm,vO];simp
theorem pI {s:List bK}(h:jM s){f:bf}{m ti:Int}{I:List bf}(hI:I.length<=600)(h0:(kJ s (dF f m ti I)).2.2=0):Grown s (kJ s (dF f m ti I)).1 (kJ s (dF f m ti I)).2.1 f m I/\(kJ s (dF f m ti I)).2.1=(mL (dF f m ti I)).1:=by
 have hf:=Am f m ti I oO;have Yc:(cn (dF f m ti I)).1.length<=100000:=by
  by_cases g:(cn (dF f m ti I)).2=0;rw[(nB g).all];have :=Fh (dF f m ti I).changes [];have h2:vJ (dF f m ti I).changes=1+0+I.length:=by show chW (oQ f m I)+0=_;rfl
  simp only[bk]at this;omega;have :(kJ s (dF f m ti I)).2.2≠0:=by
   unfold kJ;have h3:(mL (dF f m ti I)).2≠0:=by unfold mL mP;rw[af g,af g];exact g
   rw[af h3];exact h3
  exact absurd h0 this
 obtain⟨h1,h2,h3,h4,h5⟩:=GM h hf Yc h0;refine⟨?_,h3⟩;rw[h2]at h1⊢;rw[h3]at h4⊢;exact grown_of h h1 h5 hf h4
theorem al4 (s:List bK)(hz:SzT s)(n:Nat)(hn:n<256)(md:Nat)(hmd:md<65536)(ti:Nat)(hti:ti<256):aj C 4 [.sl (cU s),.int .u8 (n:Int),.int .u16 (md:Int),.int .u8 (ti:Int)] (λr=>r=.val (.bool true)):=by
 have YP:=Su;refine ag Tryz.func4 rfl rfl rfl ?_;refine cl (QX s hz) ?_;refine bq ?_;cases hf:Dr s with
 |false=>refine cl YP ?_;exact rfl
 |true=>
  obtain⟨h,hl8,hE,-⟩:=acX hz hf;have hg:oq s=false:=by
   unfold Dr at hf;cases hq:oq s with
   |false=>rfl
   |true=>rw[hq]at hf;cases hf
  have hl:s.length<=400:=oO
  have cf:=Mz s n hn h.fit hl;generalize uG s n=P at cf;obtain⟨f,b⟩:=P;refine cl cf ?_;refine bq ?_;cases b with
  |false=>refine cl YP ?_;exact rfl
  |true=>
   have hvl:(cR s f 3).length<=600:=by unfold cR;rw[aa dD];exact bH (dO _ _) (WB h hg)
   have WC:(vL (cR s f 3)).length<=600:=by have :=zD (cR s f 3) [];unfold vL;simp only[bk]at this;omega
   have hmem:∀a,a∈cR s f 3->a.id∈vL (cR s f 3):=λa ha=>zS.2 ⟨a,ha,rfl⟩;have c1:=rq h f 3;have c2:=NT (cR s f 3) oO;generalize vL (cR s f 3)=I at WC hmem c2;have hm1:(md:Int).tmod 512=((md%512:Nat):Int):=(xM oO).trans oO;refine⟨(md:Int),by rw[wrap64 oO oO],?_⟩;refine⟨dD,_,hm1,?_⟩;generalize hM:((md%512:Nat):Int)=M;have c3:=zA f M (ti:Int) I;have c4:=vK s (dF f M ti I) h.fit oO (Am f M ti I oO);have hgr:=λh0=>(pI (m:=M) (ti:=ti) (f:=f) h WC h0).1;have hG:EF s (dF f M ti I)=((kJ s (dF f M ti I)).1,(kJ s (dF f M ti I)).2.1,decide ((kJ s (dF f M ti I)).2.2=0)):=rfl;generalize kJ s (dF f M ti I)=X at hgr hG;rw[hG]at c4;obtain⟨t,d,e⟩:=X;refine⟨.plan ⟨[0,1,2,3,4,5,6,7,8,9,10,11,12,13,14],[15,17],[],[9]⟩ (.one 0 (.one 1 (.one 2 (.one 3 (.one 4 (.one 5 (.one 6 (.one 7 (.one 8 (.one 9 (.one 10 (.one 11 (.one 12 (.one 13 (.one 14 (.alt 15 (.one 16 (.alt 17 (.one 18 .fin) .stop)) .stop)))))))))))))))) none,kK,?_⟩;refine⟨_,rfl,kK,?_⟩;refine⟨_,rfl,kK,?_⟩;refine⟨_,rfl,kK,?_⟩;refine⟨_,rfl,kK,?_⟩;refine⟨.p (.int .i64 (ti:Int)),⟨_,wrap64 oO oO,rfl⟩,kK,?_⟩;refine⟨_,rfl,kK,?_⟩;refine⟨_,rfl,kK,?_⟩;refine⟨.p (.sl (fH (cR s f 3))),⟨_,c1,λr hr=>by subst hr;rfl⟩,kK,?_⟩;refine⟨.p (.sl (iS I)),⟨_,c2,λr hr=>by subst hr;rfl⟩,kK,?_⟩;refine⟨.p (.agg (cP (dF f M ti I))),⟨_,c3,λr hr=>by subst hr;rfl⟩,kK,?_⟩;refine⟨.p (EG (t,d,decide (e=0))),⟨_,c4,λr hr=>by subst hr;rfl⟩,kK,?_⟩;refine⟨_,rfl,kK,?_⟩;refine⟨_,rfl,kK,?_⟩;refine⟨_,rfl,kK,?_⟩;refine⟨_,rfl,kK,?_⟩;refine⟨kK,?_⟩;refine⟨_,rfl,?_⟩;refine⟨kK,?_⟩;refine⟨_,rfl,?_⟩;refine bq ?_;by_cases h0:e=0;rotate_left;rw[ak h0];refine cl YP ?_;exact rfl;rw[av h0];have g:=hgr h0;have CT:=g.last hmem;have ajQ:zC t f=M:=by unfold zC;rw[CT];rfl
   have c5:=rq g.Pa f 3;have c6:=zQ g.Pa f;rw[CT]at c5;rw[ajQ]at c6;refine cl c5 ?_;refine cG 23 kK ?_;refine aD (λ_=>?_) (λg=>absurd rfl g);refine⟨dD,_,rfl,rfl,?_⟩;refine⟨_,rfl,?_⟩;refine rB ?_;refine jK (a:=⟨d,0⟩) (b:=⟨d,0⟩) ?_;rw[av (rfl:(⟨d,0⟩:bf)=⟨d,0⟩)];refine⟨.int .i64 M,c6,?_⟩;refine aD (λ_=>?_) (λg=>absurd rfl g);refine⟨.bool true,YP,?_⟩;exact rfl
theorem ac6 {A B:bw}(hne:A.id≠B.id){l:List bw}(hm:∀x,x∈l↔x=A\/x=B)(hp:l.Pairwise λa b=>fU a.id b.id<0):l=if fU A.id B.id<0 then[A,B]else[B,A]:=by
 have hA:=(hm A).2 (.inl rfl);have hB:=(hm B).2 (.inr rfl);match l,hm,hp,hA,hB with
  |[x],_,_,hA,hB=>exact absurd (by rw[aO.1 hA,aO.1 hB]) hne
  |[x,y],hm,hp,_,_=>have h1:=(de.1 hp).1 y (by simp);rcases(hm x).1 (by simp)with rfl|rfl<;>rcases(hm y).1 (by simp)with rfl|rfl;exact absurd h1 (iq _);rw[af h1];have :=lF x.id y.id;rw[aa oO];exact absurd h1 (iq _)
  |x::y::z::r,hm,hp,_,_=>obtain⟨p1,p2⟩:=de.1 hp;have h1:=p1 y (by simp);have h2:=p1 z (by simp);have h3:=(de.1 p2).1 z (by simp);rcases(hm x).1 (by simp)with rfl|rfl<;>rcases(hm y).1 (by simp)with rfl|rfl<;>rcases(hm z).1 (by simp)with rfl|rfl;all_goals first|exact absurd h1 (iq _)|exact absurd h2 (iq _)|exact absurd h3 (iq _)
section
variable {s t1 t:List bK}{a b:Dg}{f:bf}{m n:Int}{I:List bf}
theorem Grown.both (g1:Grown s t1 a f m I)(g2:Grown t1 t b f n I)(hI:∀x,x∈cR s f 3->x.id∈I)(hI2:∀z,z∈I->z.p∈dJ s):a≠b/\∀x,x∈cR t f 3↔x=gN a f m I\/x=gN b f n I:=by
 have h1:=g1.last hI;have haI:(⟨a,0⟩:bf)∉I:=λh=>g1.new (hI2 _ h);have uJ:a∈dJ t1:=by have :=acT g1.Pa ((g1.all (gN a f m I)).2 (.inl rfl));exact this
 refine⟨λe=>g2.new (e▸uJ),λx=>?_⟩;rw[g2.val,h1];simp only[aO];constructor;rintro(⟨rfl,-⟩|⟨rfl,-⟩);exact .inr rfl;exact .inl rfl;rintro(rfl|rfl);exact .inr ⟨rfl,haI⟩;exact .inl ⟨rfl,trivial⟩
def mY (A B:bw):List bw:=if fU A.id B.id<0 then[A,B]else[B,A]
theorem UR {A B:bw}(hne:A.id≠B.id):mY B A=mY A B:=by unfold mY;have h1:=lF A.id B.id;have h2:fU A.id B.id≠0:=λg=>hne (qU g);by_cases h:fU A.id B.id<0;rw[af h,aa oO];rw[aa h,af oO]
theorem Grown.mY (g1:Grown s t1 a f m I)(g2:Grown t1 t b f n I)(hI:∀x,x∈cR s f 3->x.id∈I)(hI2:∀z,z∈I->z.p∈dJ s):cR t f 3=Qv.mY (gN a f m I) (gN b f n I):=by obtain⟨hne,hm⟩:=g1.both g2 hI hI2;exact ac6 (λe=>hne (aS bf.p e)) hm (MA g2.Pa f)
end
theorem YQ (A B:bw):(mY A B).length=2:=by unfold mY;split<;>rfl
theorem MC {A B x:bw}:x∈mY A B↔x=A\/x=B:=by unfold mY;split;simp;simp[Or.comm]
theorem YR {A B:bw}(hne:A.id≠B.id):vL (mY A B)=(mY A B).map λx=>x.id:=by
 have key:∀x y:bw,fU x.id y.id<0->vL [x,y]=[x.id,y.id]:=λx y h=>by have h2:=lF x.id y.id;show kX (kX [] x.id) y.id=_;unfold kX kX;simp[kX,h]
 unfold mY;have h1:=lF A.id B.id;have h2:fU A.id B.id≠0:=λg=>hne (qU g);by_cases h:fU A.id B.id<0;rw[af h];exact key A B h;rw[aa h];exact key B A oO
theorem US {A B:bw}(hd:A.data=B.data):vW (mY A B)=decide (A.mode≠B.mode):=by
 have key:∀x y:bw,x.data=y.data->vW [x,y]=decide (x.mode≠y.mode):=λx y h=>by unfold vW;simp[h];by_cases e:x.mode=y.mode;simp[e];simp[e,dM e]
 unfold mY;split;exact key A B hd;rw[key B A hd.symm];exact decide_eq_decide.2 ⟨dM,dM⟩
theorem ac7 {t:List bK}(h:jM t){f:bf}{V:List bw}(hV:cR t f 3=V){a0:bw}(ha:a0∈cq t)(hk:a0.kind=1)(hid:a0.id=f):(∃c,c∈oW t 2/\c.kind=9/\c.file=f/\c.ids=V.map λx=>x.id)↔(vW V=true/\mX t f=false):=by
 have hv:uN (cq t) (lu t) f 3=V:=by unfold cR at hV;rw[aa dD]at hV;exact hV
 constructor;rintro⟨c,hc,h1,h2,-⟩;obtain⟨h3,h4⟩:=afn hc;rw[h2]at h3 h4;rw[hv]at h3;rcases h3 with⟨-,h3⟩|⟨h3,-⟩;exact⟨h3,h4⟩;rw[h1]at h3;exact absurd h3 dD;rintro⟨h1,h2⟩;refine⟨⟨6+3,f,V.map λx=>x.id⟩,?_,rfl,rfl,rfl⟩;rw[UL];refine aW.2 (.inl (dH.2 ⟨a0,ha,?_⟩));unfold AK;rw[hid,hv,aa (λg=>g.elim (λg=>g hk) λg=>g.elim (λg=>by rw[h1]at g;cases g) λg=>by rw[h2]at g;cases g)];exact aO.2 rfl
theorem ac8 {s:List bK}{p:fW}(h:(kJ s p).2.2≠0):(kJ s p).1=[]:=by
 unfold kJ at h⊢;repeat' split
 all_goals first|rfl|skip
 rename_i h1 h2 h3 h4 h5;rw[aa h1,aa h2,aa h3,aa h4,aa h5]at h;exact absurd rfl h
theorem xQ {s:List bK}(h:jM s){f:bf}{m ti:Int}{I:List bf}(hI:I.length<=600):ED (kJ s (dF f m ti I)).1/\(kJ s (dF f m ti I)).1.length<=2^20:=by by_cases h0:(kJ s (dF f m ti I)).2.2=0;have g:=(pI h hI h0).1.Pa;exact⟨g.fit,by have :=g.ok.JR;omega⟩;rw[ac8 h0];exact⟨⟨zL,λx hx=>by cases hx⟩,zL⟩
theorem YS {s t1 t u1 u:List bK}(h:jM s){f:bf}{m n ta tb:Int}{I:List bf}{d1 d2 d3 d4:Dg}(WC:I.length<=600)(hI:∀x,x∈cR s f 3->x.id∈I)(hI2:∀z,z∈I->z.p∈dJ s)(e1:kJ s (dF f m ta I)=(t1,d1,0))(e2:kJ t1 (dF f n tb I)=(t,d2,0))(e3:kJ s (dF f n tb I)=(u1,d3,0))(e4:kJ u1 (dF f m ta I)=(u,d4,0)):jM t/\jM u/\d1≠d2/\cR t f 3=mY (gN d1 f m I) (gN d2 f n I)/\cR u f 3=mY (gN d1 f m I) (gN d2 f n I)/\∀a,a∈cq s->a∈cq t:=by obtain⟨g1,i1⟩:=pI (m:=m) (ti:=ta) (f:=f) h WC (by rw[e1]);rw[e1]at g1 i1;have g1:Grown s t1 d1 f m I:=g1;have i1:d1=_:=i1;obtain⟨g2,i2⟩:=pI (m:=n) (ti:=tb) (f:=f) g1.Pa WC (by rw[e2]);rw[e2]at g2 i2;have g2:Grown t1 t d2 f n I:=g2;have i2:d2=_:=i2;obtain⟨g3,i3⟩:=pI (m:=n) (ti:=tb) (f:=f) h WC (by rw[e3]);rw[e3]at g3 i3;have g3:Grown s u1 d3 f n I:=g3;have i3:d3=_:=i3;obtain⟨g4,i4⟩:=pI (m:=m) (ti:=ta) (f:=f) g3.Pa WC (by rw[e4]);rw[e4]at g4 i4;have g4:Grown u1 u d4 f m I:=g4;have i4:d4=_:=i4;obtain rfl:d3=d2:=i3.trans i2.symm;obtain rfl:d4=d1:=i4.trans i1.symm;obtain⟨hne,-⟩:=g1.both g2 hI hI2;refine⟨g2.Pa,g4.Pa,hne,g1.mY g2 hI hI2,?_,λa ha=>(g2.all a).2 (.inr ((g1.all a).2 (.inr ha)))⟩;rw[g3.mY g4 hI hI2];exact UR λe=>hne (aS bf.p e)
theorem afA {s:List bK}(hl:s.length<=400){c:JT}(h:c∈oW s 2):c.ids.length<=2^47:=by
 have hal:=mE hl;have key:∀kind a,c∈AK s kind a->c.ids.length<=2^47:=λkind a hc=>by unfold AK at hc;split at hc;cases hc;obtain rfl:=aO.1 hc;show(List.map _ _).length<=_;rw[ai];exact bH (dO _ _) oO
 rw[UL]at h;rcases aW.1 h with h|h;obtain⟨a,-,h⟩:=dH.1 h;exact key _ a h;obtain⟨a,-,h⟩:=dH.1 h;exact key _ a h
theorem afB {s:List bK}(hl:s.length<=400):(oW s 2).length<=2^33:=by have hk:∀n,(Wk s n).length<=(cq s).length:=λn=>Mv s _ _;have hal:=mE hl;rw[pH,pH,au,au];have :=hk 0;have :=hk 1;have :(oW s 0).length=0:=rfl;omega
theorem afC {X:List JT}{f:bf}{J:List bf}:(X.any λc=>decide (c.kind=9)&&(decide (c.file=f)&&decide (c.ids=J)))=true↔∃c,c∈X/\c.kind=9/\c.file=f/\c.ids=J:=by rw[fS];simp only[aY,decide_eq_true_eq]
theorem al6 (s:List bK)(hz:SzT s)(n:Nat)(hn:n<256)(ma:Nat)(hma:ma<65536)(mb:Nat)(hmb:mb<65536)(ta:Nat)(hta:ta<256)(tb:Nat)(htb:tb<256):aj C 5 [.sl (cU s),.int .u8 (n:Int),.agg [.int .u16 (ma:Int),.int .u16 (mb:Int),.int .u8 (ta:Int),.int .u8 (tb:Int)]] (λr=>r=.val (.bool true)):=by
 have YP:=Su;refine ag Tryz.func5 rfl rfl rfl ?_;refine cl (QX s hz) ?_;refine bq ?_;cases hf:Dr s with
 |false=>refine cl YP ?_;exact rfl
 |true=>
  obtain⟨h,hl8,hE,-⟩:=acX hz hf;have hg:oq s=false:=by
   unfold Dr at hf;cases hq:oq s with
   |false=>rfl
   |true=>rw[hq]at hf;cases hf
  have hl:s.length<=400:=oO
  have cf:=Mz s n hn h.fit hl;have hfa:=afo h (n:=n);generalize uG s n=P at cf hfa;obtain⟨f,b⟩:=P;refine cl cf ?_;refine bq ?_;cases b with
  |false=>refine cl YP ?_;exact rfl
  |true=>
   obtain⟨a0,ha0,hk0,ahS⟩:=hfa rfl;have ahS:a0.id=f:=ahS;have hva:∀a,a∈cR s f 3->a∈cq s:=λa ha=>by unfold cR at ha;rw[aa dD]at ha;exact(gr.1 ha).1
   have hvl:(cR s f 3).length<=600:=by unfold cR;rw[aa dD];exact bH (dO _ _) (WB h hg)
   have WC:(vL (cR s f 3)).length<=600:=by have :=zD (cR s f 3) [];unfold vL;simp only[bk]at this;omega
   have hmem:∀a,a∈cR s f 3->a.id∈vL (cR s f 3):=λa ha=>zS.2 ⟨a,ha,rfl⟩;have hI2:∀z,z∈vL (cR s f 3)->z.p∈dJ s:=λz hz=>by obtain⟨a,ha,rfl⟩:=zS.1 hz;exact acT h (hva a ha)
   have c1:=rq h f 3;have c2:=NT (cR s f 3) oO;generalize vL (cR s f 3)=I at WC hmem hI2 c2;refine cl c1 ?_;refine cl c2 ?_;have hm1:(ma:Int).tmod 512=((ma%512:Nat):Int):=(xM oO).trans oO;have hm2:(mb:Int).tmod 512=((mb%512:Nat):Int):=(xM oO).trans oO;refine cG 10 kK ?_;refine⟨.p (.int .i64 (ma:Int)),⟨_,wrap64 oO oO,rfl⟩,?_⟩;refine⟨dD,_,hm1,?_⟩;refine⟨.p (.int .i64 (mb:Int)),⟨_,wrap64 oO oO,rfl⟩,?_⟩;refine⟨dD,_,hm2,?_⟩;generalize((ma%512:Nat):Int)=A;generalize((mb%512:Nat):Int)=B;have w1:=zA f A (ta:Int) I;have w2:=zA f B (tb:Int) I;have f1:=Am f A (ta:Int) I oO;have f2:=Am f B (tb:Int) I oO;have k1:=vK s _ h.fit oO f1;have k2:=vK _ _ (xQ (m:=A) (ti:=ta) (f:=f) h WC).1 (xQ (m:=A) (ti:=ta) (f:=f) h WC).2 f2;have k3:=vK s _ h.fit oO f2;have k4:=vK _ _ (xQ (m:=B) (ti:=tb) (f:=f) h WC).1 (xQ (m:=B) (ti:=tb) (f:=f) h WC).2 f1;have two:=λt1 t u1 u d1 d2 d3 d4=>YS (t1:=t1) (t:=t) (u1:=u1) (u:=u) (d1:=d1) (d2:=d2) (d3:=d3) (d4:=d4) (m:=A) (n:=B) (ta:=ta) (tb:=tb) (f:=f) h WC hmem hI2;unfold EF at k1 k2 k3 k4;clear f1 f2 hm1 hm2;generalize dF f A (ta:Int) I=p at*;generalize dF f B (tb:Int) I=q at*;refine⟨.plan ⟨[0,1,2,3,4,5,6,7,8,9,10,11,12,13],[14,15,16,17],[],[5,7]⟩ (.one 0 (.one 1 (.one 2 (.one 3 (.one 4 (.one 5 (.one 6 (.one 7 (.one 8 (.one 9 (.one 10 (.one 11 (.one 12 (.one 13 (.alt 14 (.alt 15 (.alt 16 (.alt 17 .fin .stop) .stop) .stop) (.alt 15 (.alt 14 (.alt 16 (.alt 17 .fin .stop) .stop) .stop) .stop)))))))))))))))) (some (rA 182 0 [(0,.p (.sl (cU s))),(7,.ptr 7 0),(10,.p (.int .i64 A)),(11,.p (.int .i64 B)),(12,.ptr 12 0),(13,.ptr 13 0)] [(7,aF (cI f)),(12,aF (cP p)),(13,aF (cP q))] [] [] [])),kK,?_,?_⟩;refine⟨_,rfl,kK,?_⟩;refine⟨_,rfl,kK,?_⟩;refine⟨_,rfl,kK,?_⟩;refine⟨_,rfl,kK,?_⟩;refine⟨.p (.int .i64 (ta:Int)),⟨_,wrap64 oO oO,rfl⟩,kK,?_⟩;refine⟨_,rfl,kK,?_⟩;refine⟨.p (.agg (cP p)),⟨_,w1,λr hr=>by subst hr;rfl⟩,kK,?_⟩;refine⟨_,rfl,kK,?_⟩;refine⟨_,rfl,kK,?_⟩;refine⟨_,rfl,kK,?_⟩;refine⟨_,rfl,kK,?_⟩;refine⟨.p (.int .i64 (tb:Int)),⟨_,wrap64 oO oO,rfl⟩,kK,?_⟩;refine⟨_,rfl,kK,?_⟩;refine⟨.p (.agg (cP q)),⟨_,w2,λr hr=>by subst hr;rfl⟩,kK,?_⟩;refine⟨?_,?_⟩;refine⟨kK,?_⟩;refine⟨kK,?_⟩;refine⟨kK,?_⟩;refine⟨kK,?_⟩;exact bu kK wS oS trivial trivial;refine⟨kK,?_⟩;refine⟨kK,?_⟩;refine⟨kK,?_⟩;refine⟨kK,?_⟩;exact bu kK wS oS trivial trivial;refine cl k1 ?_;refine cl k2 ?_;refine cl k3 ?_;refine cl k4 ?_;generalize hq1:kJ s p=X1;obtain⟨t1,d1,x1⟩:=X1;generalize hq2:kJ t1 q=X2;obtain⟨t,d2,x2⟩:=X2;generalize hq3:kJ s q=X3;obtain⟨u1,d3,x3⟩:=X3;generalize hq4:kJ u1 p=X4;obtain⟨u,d4,x4⟩:=X4;refine⟨none,?_⟩;by_cases h1:x1=0;rotate_left;rw[show decide ((t1,d1,x1).2.2=0)=false from ak h1];refine bq ?_;refine cl YP ?_;exact rfl;subst h1;refine bq ?_;by_cases h2:x2=0;rotate_left;rw[show decide ((t,d2,x2).2.2=0)=false from ak h2];refine bq ?_;refine cl YP ?_;exact rfl;subst h2;refine bq ?_;by_cases h3:x3=0;rotate_left;rw[show decide ((u1,d3,x3).2.2=0)=false from ak h3];refine bq ?_;refine cl YP ?_;exact rfl;subst h3;refine bq ?_;by_cases h4:x4=0;rotate_left;rw[show decide ((u,d4,x4).2.2=0)=false from ak h4];refine bq ?_;refine cl YP ?_;exact rfl;subst h4;refine bq ?_;obtain⟨okt,oku,hne,hVt,hVu,hall⟩:=two _ _ _ _ _ _ _ _ hq1 hq2 hq3 hq4;have al7:(gN d1 f A I).id≠(gN d2 f B I).id:=λe=>hne (aS bf.p e);have cc1:=rq okt f 3;have cc5:=zQ oku f;have cc6:=zQ okt f;have hmu:zC u f=zC t f:=by unfold zC;rw[hVt,hVu]
   rw[hmu]at cc5;have XX:=ac7 okt hVt (hall a0 ha0) hk0 ahS;rw[US (A:=gN d1 f A I) (B:=gN d2 f B I) rfl,<-YR al7]at XX;have hlen:=YQ (gN d1 f A I) (gN d2 f B I);have hmA:(⟨d1,0⟩:bf)∈vL (mY (gN d1 f A I) (gN d2 f B I)):=zS.2 ⟨gN d1 f A I,MC.2 (.inl rfl),rfl⟩;have hmB:(⟨d2,0⟩:bf)∈vL (mY (gN d1 f A I) (gN d2 f B I)):=zS.2 ⟨gN d2 f B I,MC.2 (.inr rfl),rfl⟩;rw[hVt]at cc1;have cc2:=NT _ (show(mY (gN d1 f A I) (gN d2 f B I)).length<=2^20 by omega);have hJl:=zD (mY (gN d1 f A I) (gN d2 f B I)) [];have hJ:(vL (mY (gN d1 f A I) (gN d2 f B I))).length<=2:=by unfold vL;simp only[bk]at hJl;omega
   have hmd:decide ((gN d1 f A I).mode≠(gN d2 f B I).mode)=decide (A≠B):=rfl;rw[hmd]at XX;clear hJl hmd hVt hVu two;generalize mY (gN d1 f A I) (gN d2 f B I)=V at*;generalize vL V=J at*;generalize zC t f=M at*;have cc3:=aaI J ⟨d1,0⟩ oO;have cc4:=aaI J ⟨d2,0⟩ oO;rw[av hmA]at cc3;rw[av hmB]at cc4;refine cl cc1 ?_;refine cG 28 kK ?_;refine cS (λg=>absurd (show(((fH V).length:Nat):Int)=2 by unfold fH;rw[ai,hlen];rfl) g) (λ_=>?_);refine⟨.sl (iS J),cc2,?_⟩;refine⟨_,rfl,?_⟩;refine⟨.bool true,cc3,?_⟩;refine bq ?_;refine⟨.sl (iS J),cc2,?_⟩;refine⟨_,rfl,?_⟩;refine⟨.bool true,cc4,?_⟩;refine bq ?_;refine⟨.int .i64 M,cc5,?_⟩;refine⟨.int .i64 M,cc6,?_⟩;refine cS (λg=>absurd rfl g) (λ_=>?_);have cg:=Sg okt f;have c8:=My okt;generalize mX t f=G at*;have hXl:=λc hc=>afA (s:=t) (by have :=okt.ok.JR;omega) (c:=c) hc;have hXn:=afB (s:=t) (by have :=okt.ok.JR;omega);generalize oW t 2=X at*;refine cl c8 ?_;obtain⟨b,hb⟩:∃b:Nat->Bool,∀k,b k=(X.take k).any λc=>decide (c.kind=9)&&(decide (c.file=f)&&decide (c.ids=J)):=⟨_,λ_=>rfl⟩;have e9:false=b 0:=by rw[hb,xL,List.any_nil]
   refine bI 182 (λk:Nat=>[(0,.p (.sl (cU s))),(7,.ptr 7 0),(10,.p (.int .i64 A)),(11,.p (.int .i64 B)),(14,.p (.sl (cU t))),(24,.p (.sl (fH V))),(25,.p (.bool (b k))),(142,.p (.sl (X.map cK))),(143,.p (.int .i64 ((X.map cK).length:Int))),(144,.p (.int .i64 k))]) (λ_=>[(7,aF (cI f))]) (λk=>k<=X.length) (λk=>X.length-k) 0 (zL) rfl ⟨aR.refl _,aR.refl _,aR.refl _,aR.refl _,aR.refl _,aR.refl _,aR.eq (aS (λz=>FV.p (.bool z)) e9),aR.refl _,aR.refl _,aR.refl _,trivial⟩ oS ?_;intro k hk;refine bY (λhlt=>?_) (λhge=>?_);have BT:b (k+1)=(b k||(decide (X[k].kind=9)&&(decide (X[k].file=f)&&decide (X[k].ids=J)))):=by rw[hb,hb,KL _ hlt]
   have tW:k+1<=X.length:=hlt;have jE:=hXl _ (aL hlt);refine ix hlt ?_;generalize X[k]=c at BT jE⊢;have cs:=Lp c.ids J jE oO;refine aiM (.p (.bool (b (k+1)))) 25 kK kK ?_ ?_;rw[BT];generalize b k=bb;cases bb with
   |true=>exact rfl
   |false=>refine aD (λh9=>?_) (λh9=>?_);have h9:c.kind=9:=h9;refine rB ?_;refine ajT (a:=c.file) (b:=f) (λhcf=>?_) (λhcf=>?_);refine⟨.sl (iS J),cc2,?_⟩;refine⟨.bool (decide (c.ids=J)),cs,?_⟩;rw[av h9,av hcf];exact rfl;rw[av h9,ak hcf];exact rfl;have h9:c.kind≠9:=h9;rw[ak h9];exact rfl
   exact nx (k+1) (aU (k+1) tW oO rfl wS oS);obtain rfl:k=X.length:=oO
   have hbb:b X.length=(decide (A≠B)&&!G):=by rw[kg,hb,aP,afC,XX];simp
   rw[hbb];refine⟨none,?_⟩;refine cS (λg=>?_) (λg=>?_);rw[av g];refine cl cg ?_;refine bq ?_;refine aD (λ_=>?_) (λe=>absurd (jd _) e);refine cl YP ?_;exact rfl;rw[ak (λq=>q g)];refine aD (λ_=>?_) (λe=>absurd rfl e);refine cl YP ?_;exact rfl
end Qv
