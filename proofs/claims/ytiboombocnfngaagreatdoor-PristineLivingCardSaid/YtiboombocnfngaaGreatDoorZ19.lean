/- Part 25 of the proof: its lemmas. No condition. -/
import Derived.Test.YtiboombocnfngaaGreatDoorZ3
import Derived.Test.YtiboombocnfngaaGreatDoorZ4
import Derived.Test.YtiboombocnfngaaGreatDoorZ6
import Derived.Test.YtiboombocnfngaaGreatDoorZ8
import Derived.Test.YtiboombocnfngaaGreatDoorZ9
import Derived.Test.YtiboombocnfngaaGreatDoorZ10
import Derived.Test.YtiboombocnfngaaGreatDoorZ12
import Derived.Test.YtiboombocnfngaaGreatDoorZ15
import Derived.Test.YtiboombocnfngaaGreatDoorZ16
import Derived.Test.YtiboombocnfngaaGreatDoorZ17
set_option maxRecDepth 10000
set_option maxHeartbeats 80000000
set_option linter.all false
open Go Go.Proofs Go.RowKit
namespace Qv
theorem Bo (c:dH)(n:Nat):au C 189 [.agg (cC c),.int .i64 (n:Int)] (λr=>r=.val (.fn (.func 265) [] [.imp [.int .i64 (n:Int)],.imp (cC c)])):=by exact aq Tryz.func189 rfl rfl rfl ⟨[3,2],cZ (cells:=[.p (.int .i64 (n:Int))]) (ys:=[.int .i64 (n:Int)]) rfl rfl rfl (cZ (cells:=aI (cC c)) (ys:=cC c) rfl (bu _) rfl rfl)⟩
theorem fq (n k:Nat)(h:n+k<=2^40):au C 266 [.int .i64 (k:Int),.imp [.int .i64 (n:Int)]] (λr=>r=.val (.agg (cI (cS ((n+k:Nat):Int))))):=by exact aq Tryz.func266 rfl rfl rfl (nx (n+k) rfl)
def yP:List dH->List bO->List bO×Int|[],own=>(own,0)|c::l,own=>if cF c≠0 then([],cF c)else if wF c own≠0 then([],wF c own)else yP l (own++dI c own.length)
theorem FI (c:dH)(l:List dH)(own:List bO):yP (c::l) own=if cF c≠0 then([],cF c)else if wF c own≠0 then([],wF c own)else yP l (own++dI c own.length):=rfl
def wG (p:iA):List bO×Int:=if xx p≠0 then([],xx p)else yP p.changes []
def ah3:Bool->List bO->List (Nat×List FV)|false,_=>[(6,[.full []])]|true,own=>[(6,[.fT 2045 109 172]),(2045,gI own)]
def frE (f L:Nat)(eH eY:bB)(x:Nat):bB:=if x<=L then(if 0<x then cS ((f+x-1:Nat):Int)else eH)else eY
theorem WO {p:iA}(h:xx p=0):1<=p.changes.length/\p.changes.length<=400:=by unfold xx at h;by_cases h1:iq p.ja=false;rw[af h1]at h;exact absurd h dD;rw[aa h1]at h;by_cases h2:1000<p.message.length;rw[af h2]at h;exact absurd h dD;rw[aa h2]at h;by_cases h3:p.time<0\/1099511627776<p.time;rw[af h3]at h;exact absurd h dD;rw[aa h3]at h;by_cases h4:rj p.deps≠0;rw[af h4]at h;exact absurd h h4;rw[aa h4]at h;by_cases h5:p.changes.length=0;rw[af h5]at h;exact absurd h dD;rw[aa h5]at h;by_cases h6:400<p.changes.length;rw[af h6]at h;exact absurd h dD;omega
theorem yQ {c:dH}(h:cF c=0)(h5:c.kind=5):1<=c.lines.length:=by refine kI λhn=>?_;rw[IE]at h;unfold GH at h;have h0:c.kind=5/\c.lines.length=0:=⟨h5,oO⟩;simp only[h0,and_self,if_true]at h;split at h;exact absurd h dD;split at h;exact absurd h dD;split at h;exact absurd h dD;split at h;exact absurd h dD;split at h;exact absurd h dD;split at h;exact absurd h dD;exact absurd h dD
theorem Lh {c:dH}(h:bN (fI c)=true)(h1:c.kind=1):c.over=[]:=by simp only[bN,aR,decide_eq_true_eq]at h;obtain⟨-,-,-,-,-,-,-,-,-,ho⟩:=h;rw[Ez c h1]at ho;exact ho
def exR (p:iA)(E:List bO×Int)(r:fN):Prop:=if E.2≠0 then r=.val (.eS [.sl [],.str [],.int .i64 E.2])else if(eX (pI p)).length<=65536 then r=.own (some [.str (eX (pI p)),.int .i64 0]) 109 172 (kB E.1)else r=.val (.eS [.sl [],.str [],.int .i64 4])
noncomputable abbrev CJ:Ctx:=(C.cut [2,16]).open {qz with opens:=[45]}
def qA (p:iA)(k:Nat):List (Nat×FV):=[(1,.ptr 1 0),(6,.ptr 6 0),(20,.p (.sl (p.changes.map cC))),(21,.p (.int .i64 ((p.changes.map cC).length:Int))),(22,.p (.int .i64 k))]
def qB (p:iA)(b:Bool)(own:List bO):List (Nat×List FV):=(1,aI (cP p))::ah3 b own
abbrev Od (p:iA)(k:Nat)(b:Bool)(own:List bO):ag:=MT 61 0 (qA p k) (qB p b own) [] [.ready] []
abbrev itJ (p:iA)(k:Nat)(rel:List (Nat×FV))(ob:List (Nat×List FV))(b:Bool)(own:List bO):ag:=MT 144 1000 rel (ob++qB p b own) [(61,0,qA p k)] [.ready] []
def ah4:Bool->bO->FV|true,x=>.agg ((aI (cA x)).take 171++[.full []])|false,x=>.agg (aI (cA x))
def YJ (Y:ov)(p:iA)(k:Nat)(rel:List (Nat×FV))(ob:List (Nat×List FV))(b:Bool)(own:List bO)(z:Bool)(x:bO):Prop:=∀K':FV->ag->Prop,(∀S',cq S' (itJ p k rel ob true (own++[x]))->K' (.p (.bool true)) S')->Y 1000000 [ah4 z x] K' (itJ p k rel ob b own)
theorem Bp (p:iA)(b:Bool)(own:List bO):Ag (qB p b own) (qB p b own):=by cases b;exact oS;exact oS
theorem iU (p:iA)(k:Nat):yu (Fy (qA p k)) (qA p k):=wS
def AH (c:dH)(n:Nat)(ls:List Bytes)(j:Nat):List (Nat×FV):=[(0,.lM 1000000),(1,.p (.imp [.int .i64 (n:Int)])),(2,.p (.imp (cC c))),(4,.fn (.func 266) [] [.p (.imp [.int .i64 (n:Int)])]),(93,.p (.sl (ls.map oL))),(94,.p (.int .i64 ((ls.map oL).length:Int))),(95,.p (.int .i64 j))]
def Dk (c:dH)(n L j:Nat):List (Nat×FV):=[(0,.lM 1000000),(1,.p (.imp [.int .i64 (n:Int)])),(2,.p (.imp (cC c))),(4,.fn (.func 266) [] [.p (.imp [.int .i64 (n:Int)])]),(7,.p (.int .i64 (L:Int))),(8,.ptr 1008 0),(10,.ptr 1010 0),(117,.p (.int .i64 ((L+1:Nat):Int))),(118,.p (.int .i64 j))]
def ob5 (fr to:bB):List (Nat×List FV):=[(1008,aI (cI fr)),(1010,aI (cI to))]
theorem aga (p:iA)(c:dH)(k:Nat)(Y:ov)(K:FV->ag->Prop)(b:Bool)(own:List bO)(hk5:c.kind=5)(hn:own.length<=2^30)(hb:b=false->own=[])(ls:List Bytes)(hls:c.lines=ls)(hL:ls.length<=2000)(hL0:1<=ls.length)(hY1:∀(j:Nat)(b:Bool)(wH:List bO)(x:bO),wH.length<=2^31->(b=false->wH=[])->x.over=[]->YJ Y p k (AH c own.length ls j) [] b wH true x)(hY2:∀(j:Nat)(fr to:bB)(Ak:List bO)(x:bO),Ak.length<=2^31->x.over=[]->YJ Y p k (Dk c own.length ls.length j) (ob5 fr to) true Ak true x)(hK:∀r,K r (Od p k true (own++((List.range ls.length).map (uU c.file own.length ls)++(List.range (ls.length+1)).map (AF c.file c.eH c.eY own.length ls.length))))):lU CJ 6 Y 265 [.lM 1000000,.p (.imp [.int .i64 (own.length:Int)]),.p (.imp (cC c))] K (Od p k b own):=by
 refine⟨_,Tryz.func265,rfl,rfl,rfl,_,cq.refl _,[],mS 144 1000 [(0,.lM 1000000),(1,.p (.imp [.int .i64 (own.length:Int)])),(2,.p (.imp (cC c))),(4,.fn (.func 266) [] [.p (.imp [.int .i64 (own.length:Int)])]),(13,.p (.int .i64 c.kind))] (qB p b own) [(61,0,qA p k)] [.ready] kK wS (Bp p b own) ⟨rfl,iU p k,trivial⟩ (aH (λh=>absurd (show c.kind=1 from h) oO) (λ_=>aH (λh=>absurd (show c.kind=2 from h) oO) (λ_=>aH (λh=>absurd (show c.kind=3 from h) oO) (λ_=>aH (λh=>absurd (show c.kind=4 from h) oO) (λ_=>aH (λh=>absurd (show c.kind=6 from h) oO) (λ_=>aH (λh=>absurd (show c.kind=7 from h) oO) (λ_=>aH (λ_=>?_) (λh=>absurd hk5 h))))))))⟩;refine CH 144 1000 (λx:Nat×Bool×List bO=>AH c own.length ls x.1) (λx=>qB p x.2.1 x.2.2) (λ_=>[(61,0,qA p k)]) [.ready] (λ_=>[]) (λx=>x.1<=ls.length/\x.2.2=own++(List.range x.1).map (uU c.file own.length ls)/\(x.2.1=false->x.2.2=[])/\(0<x.1->x.2.1=true)) (λx=>ls.length-x.1) (0,b,own) ⟨zL,by simp,hb,λh=>absurd h (wJ 0)⟩ kK ⟨bt.eq kK,bt.eq kK,bt.eq kK,bt.eq kK,(by rw[<-hls];exact bt.refl _),(by rw[<-hls];exact bt.refl _),bt.eq kK,trivial⟩ (Bp p b own) ⟨rfl,iU p k,trivial⟩ trivial ?_;rintro⟨j,b2,wH⟩ ⟨hj,KJ,AZ,Gk⟩;have hj:j<=ls.length:=hj;have KJ:wH=own++(List.range j).map (uU c.file own.length ls):=KJ;have aeB:wH.length=own.length+j:=by rw[KJ];simp
 refine⟨_,cq.refl _,cu (λdw=>?_) (λox=>?_)⟩;have lK:(ls.map oL)[((j:Nat):Int).toNat]?=some (oL ls[j]):=fh rfl dw;have hla:uU c.file own.length ls j=⟨cS ((own.length+j:Nat):Int),5,c.file,0,aM,[],0,[],ls[j],aM,aM,[]⟩:=by unfold uU;rw[show ls.getD j []=ls[j]from by simp[List.getD,dw]]
 have ho2:wH++[uU c.file own.length ls j]=own++(List.range (j+1)).map (uU c.file own.length ls):=by rw[KJ,Dl,aF,bl];rfl
 rw[hla]at ho2;generalize ls[j]=txt at lK ho2;clear KJ hla;refine⟨oO,_,lK,rfl,?_⟩;exact cw 8 kK ⟨_,(fq own.length j oO).dY,_,rfl,itJ p k (AH c own.length ls j) [] b2 wH,bG kK wS (Bp p b2 wH) ⟨rfl,iU p k,trivial⟩ trivial,hY1 j b2 wH ⟨cS ((own.length+j:Nat):Int),5,c.file,0,aM,[],0,[],txt,aM,aM,[]⟩ oO AZ rfl _ λS' hw=>⟨_,hw,bR (nx (j+1) (rE (j+1,true,wH++[⟨cS ((own.length+j:Nat):Int),5,c.file,0,aM,[],0,[],txt,aM,aM,[]⟩]) ⟨dw,ho2,(λh=>nomatch h),λ_=>rfl⟩ mM kK wS oS ⟨rfl,iU p k,trivial⟩ trivial))⟩⟩;obtain rfl:j=ls.length:=oO
 obtain rfl:b2=true:=Gk oO;refine⟨((ls.length+1:Nat):Int),by rw[show(((c.lines.map oL).length:Nat):Int)=(ls.length:Int)from by rw[aj,hls]];rw[wrap64 oO oO];omega,?_⟩;have fr0:frE own.length ls.length c.eH c.eY 0=c.eH:=(af (zL)).trans (aa dD);refine CH 144 1000 (λx:Nat×List bO=>[(0,.lM 1000000),(1,.p (.imp [.int .i64 (own.length:Int)])),(2,.p (.imp (cC c))),(4,.fn (.func 266) [] [.p (.imp [.int .i64 (own.length:Int)])]),(7,.p (.int .i64 (ls.length:Int))),(8,.ptr 1008 0),(117,.p (.int .i64 ((ls.length+1:Nat):Int))),(118,.p (.int .i64 x.1))]) (λx=>(1008,aI (cI (frE own.length ls.length c.eH c.eY x.1)))::qB p true x.2) (λ_=>[(61,0,qA p k)]) [.ready] (λ_=>[]) (λx=>x.1<=ls.length+1/\x.2=wH++(List.range x.1).map (AF c.file c.eH c.eY own.length ls.length)) (λx=>ls.length+1-x.1) (0,wH) ⟨zL,by simp⟩ kK ⟨bt.refl _,bt.refl _,bt.refl _,bt.refl _,(by rw[<-hls,show((c.lines.length:Nat):Int)=(((c.lines.map oL).length:Nat):Int)from by rw[aj]];exact bt.refl _),bt.refl _,bt.refl _,bt.refl _,trivial⟩ ⟨(by rw[fr0];exact aA rfl),aA kK,aA kK,sC 1008 kK,trivial⟩ ⟨rfl,iU p k,trivial⟩ trivial ?_;rintro⟨j,Ak⟩ ⟨hj2,ho2⟩;have hj2:j<=ls.length+1:=hj2;have ho2:Ak=wH++(List.range j).map (AF c.file c.eH c.eY own.length ls.length):=ho2;have alY:Ak.length=wH.length+j:=by rw[ho2];simp
 refine aQ (λdw=>?_) (λox=>?_);have dw:j<ls.length+1:=by have :(j:Int)<((ls.length+1:Nat):Int):=dw;omega
 have YQ:Ak++[AF c.file c.eH c.eY own.length ls.length j]=wH++(List.range (j+1)).map (AF c.file c.eH c.eY own.length ls.length):=by rw[ho2,Dl,aF,bl];rfl
 have hfr:frE own.length ls.length c.eH c.eY j=if 0<j then cS ((own.length+j-1:Nat):Int)else c.eH:=af oO;unfold AF at YQ;rw[fK own.length ls.length j]at YQ;rw[hfr];generalize(if 0<j then cS ((own.length+j-1:Nat):Int)else c.eH)=fr at YQ⊢;refine aQ (λh5=>?_) (λh5=>?_);have h5:j<ls.length:=by have :(j:Int)<(ls.length:Int):=h5;omega
 rw[af h5]at YQ;have uc:frE own.length ls.length c.eH c.eY (j+1)=cS ((own.length+j:Nat):Int):=(af oO).trans (af oO);exact cl (fq own.length j oO).dY (cw 11 kK (nx (ls.length+j) ⟨_,(fq own.length (ls.length+j) oO).dY,_,rfl,itJ p k (Dk c own.length ls.length j) (ob5 fr (cS ((own.length+j:Nat):Int))) true Ak,bG kK wS ⟨aA kK,aA kK,aA kK,aA kK,sC 1010 kK,trivial⟩ ⟨rfl,iU p k,trivial⟩ trivial,hY2 j fr (cS ((own.length+j:Nat):Int)) Ak ⟨cS ((own.length+(ls.length+j):Nat):Int),6,c.file,0,aM,[],0,[],[],fr,cS ((own.length+j:Nat):Int),[]⟩ oO rfl _ λS' hw=>⟨_,hw,bR (nx (j+1) (rE (j+1,Ak++[⟨cS ((own.length+(ls.length+j):Nat):Int),6,c.file,0,aM,[],0,[],[],fr,cS ((own.length+j:Nat):Int),[]⟩]) ⟨dw,YQ⟩ mM kK wS ⟨(by rw[uc];exact aA rfl),aA rfl,aA rfl,aA rfl,trivial⟩ ⟨rfl,iU p k,trivial⟩ trivial))⟩⟩));have h5:¬j<ls.length:=by have :¬(j:Int)<(ls.length:Int):=h5;omega
 rw[aa h5]at YQ;have uc:frE own.length ls.length c.eH c.eY (j+1)=c.eY:=aa oO;exact cw 11 kK (nx (ls.length+j) ⟨_,(fq own.length (ls.length+j) oO).dY,_,rfl,itJ p k (Dk c own.length ls.length j) (ob5 fr c.eY) true Ak,bG kK wS ⟨aA kK,aA kK,aA kK,aA kK,sC 1010 kK,trivial⟩ ⟨rfl,iU p k,trivial⟩ trivial,hY2 j fr c.eY Ak ⟨cS ((own.length+(ls.length+j):Nat):Int),6,c.file,0,aM,[],0,[],[],fr,c.eY,[]⟩ oO rfl _ λS' hw=>⟨_,hw,bR (nx (j+1) (rE (j+1,Ak++[⟨cS ((own.length+(ls.length+j):Nat):Int),6,c.file,0,aM,[],0,[],[],fr,c.eY,[]⟩]) ⟨dw,YQ⟩ mM kK wS ⟨(by rw[uc];exact aA rfl),aA rfl,aA rfl,aA rfl,trivial⟩ ⟨rfl,iU p k,trivial⟩ trivial))⟩⟩);obtain rfl:j=ls.length+1:=by have :¬(j:Int)<((ls.length+1:Nat):Int):=ox;omega
 have KJ:wH=own++(List.range ls.length).map (uU c.file own.length ls):=KJ;have ho4:Ak=own++((List.range ls.length).map (uU c.file own.length ls)++(List.range (ls.length+1)).map (AF c.file c.eH c.eY own.length ls.length)):=by rw[ho2,KJ,bl]
 refine mS 61 0 (qA p k) (qB p true Ak) [] [.ready] kK (iU p k) oS trivial ?_;rw[ho4];exact hK _
def yR:Code->Option (Array Tmp×Code×Code)
 |.seq a b=>match yR a with|some x=>some x|none=>yR b
 |.block _ c=>yR c
 |.loop c=>yR c
 |.cond _ x y=>match yR x with|some r=>some r|none=>yR y
 |.rangeFunc _ ps a b=>some (ps,a,b)
 |_=>none
noncomputable def Yh:ov:=match Tryz.f176.body with
 |some c=>match yR c with|some (ps,a,b)=>vG tg (xD CJ (lU CJ 6) tg a) (xD CJ (lU CJ 6) tg b) ps.toList 0 0|none=>tg
 |none=>tg
theorem akK (p:iA)(k:Nat)(b:Bool)(own:List bO)(x:bO)(hn:own.length<=2^31)(hb:b=false->own=[])(hx:x.over=[]):YJ Yh p k [] [] b own true x:=by
 obtain⟨a1,a2,a3,a4,a5,a6,a7,a8,a9,Ki,Kj,a12⟩:=x;obtain rfl:a12=[]:=hx;intro K' Bd;refine⟨rfl,?_⟩;cases b with
 |false=>obtain rfl:=hb rfl;refine mS 61 2000 [(1,.ptr 1 0),(6,.ptr 6 0),(11,.ptr 2011 0),(20,.p (.sl (p.changes.map cC))),(21,.p (.int .i64 ((p.changes.map cC).length:Int))),(22,.p (.int .i64 k))] ((2011,(aI (cA ⟨a1,a2,a3,a4,a5,a6,a7,a8,a9,Ki,Kj,[]⟩)).take 171++[.full []])::qB p false []) [(144,1000,[]),(61,0,qA p k)] [.busy] kK wS oS ⟨rfl,trivial,rfl,wS,trivial⟩ ?_;refine⟨kJ _ _,(λzs h=>by rw[aL.1 h];rfl),(show 1*296<=140737488355328 by decide),gI [⟨a1,a2,a3,a4,a5,a6,a7,a8,a9,Ki,Kj,[]⟩],rfl,?_⟩;exact Bd _ (bG kK trivial oS ⟨rfl,iU p k,trivial⟩ trivial)
 |true=>refine mS 61 2000 [(1,.ptr 1 0),(6,.ptr 6 0),(11,.ptr 2011 0),(20,.p (.sl (p.changes.map cC))),(21,.p (.int .i64 ((p.changes.map cC).length:Int))),(22,.p (.int .i64 k))] ((2011,(aI (cA ⟨a1,a2,a3,a4,a5,a6,a7,a8,a9,Ki,Kj,[]⟩)).take 171++[.full []])::qB p true own) [(144,1000,[]),(61,0,qA p k)] [.busy] kK wS ⟨aA kK,aA kK,aA kK,sC 2011 kK,trivial⟩ ⟨rfl,trivial,rfl,wS,trivial⟩ ?_;refine⟨own.length,Di own _,(λzs h=>by rw[aL.1 h];rfl),by show(own.length+1)*296<=_;omega,gI (own++[⟨a1,a2,a3,a4,a5,a6,a7,a8,a9,Ki,Kj,[]⟩]),GJ own ⟨a1,a2,a3,a4,a5,a6,a7,a8,a9,Ki,Kj,[]⟩ _ _,?_⟩;exact Bd _ (bG kK trivial oS ⟨rfl,iU p k,trivial⟩ trivial)
theorem aau (p:iA)(k:Nat)(b:Bool)(own:List bO)(x:bO)(hn:own.length<=2^31)(hb:b=false->own=[]):YJ Yh p k [] [] b own false x:=by
 obtain⟨a1,a2,a3,a4,a5,a6,a7,a8,a9,Ki,Kj,a12⟩:=x;intro K' Bd;refine⟨rfl,?_⟩;cases b with
 |false=>obtain rfl:=hb rfl;refine mS 61 2000 [(1,.ptr 1 0),(6,.ptr 6 0),(11,.ptr 2011 0),(20,.p (.sl (p.changes.map cC))),(21,.p (.int .i64 ((p.changes.map cC).length:Int))),(22,.p (.int .i64 k))] ((2011,aI (cA ⟨a1,a2,a3,a4,a5,a6,a7,a8,a9,Ki,Kj,a12⟩))::qB p false []) [(144,1000,[]),(61,0,qA p k)] [.busy] kK wS oS ⟨rfl,trivial,rfl,wS,trivial⟩ ⟨kJ _ _,(λzs h=>by rw[aL.1 h];rfl),(show 1*296<=140737488355328 by decide),gI [⟨a1,a2,a3,a4,a5,a6,a7,a8,a9,Ki,Kj,a12⟩],rfl,?_⟩;exact Bd _ (bG kK trivial oS ⟨rfl,iU p k,trivial⟩ trivial)
 |true=>refine mS 61 2000 [(1,.ptr 1 0),(6,.ptr 6 0),(11,.ptr 2011 0),(20,.p (.sl (p.changes.map cC))),(21,.p (.int .i64 ((p.changes.map cC).length:Int))),(22,.p (.int .i64 k))] ((2011,aI (cA ⟨a1,a2,a3,a4,a5,a6,a7,a8,a9,Ki,Kj,a12⟩))::qB p true own) [(144,1000,[]),(61,0,qA p k)] [.busy] kK wS ⟨aA kK,aA kK,aA kK,sC 2011 kK,trivial⟩ ⟨rfl,trivial,rfl,wS,trivial⟩ ?_;refine⟨own.length,Di own _,(λzs h=>by rw[aL.1 h];rfl),by show(own.length+1)*296<=_;omega,gI (own++[⟨a1,a2,a3,a4,a5,a6,a7,a8,a9,Ki,Kj,a12⟩]),GJ own ⟨a1,a2,a3,a4,a5,a6,a7,a8,a9,Ki,Kj,a12⟩ _ _,?_⟩;exact Bd _ (bG kK trivial oS ⟨rfl,iU p k,trivial⟩ trivial)
theorem yJ1 (p:iA)(k:Nat)(c:dH)(n:Nat)(ls:List Bytes)(j:Nat)(b:Bool)(own:List bO)(x:bO)(hn:own.length<=2^31)(hb:b=false->own=[])(hx:x.over=[]):YJ Yh p k (AH c n ls j) [] b own true x:=by
 obtain⟨a1,a2,a3,a4,a5,a6,a7,a8,a9,Ki,Kj,a12⟩:=x;obtain rfl:a12=[]:=hx;intro K' Bd;refine⟨rfl,?_⟩;cases b with
 |false=>obtain rfl:=hb rfl;refine mS 61 2000 [(1,.ptr 1 0),(6,.ptr 6 0),(11,.ptr 2011 0),(20,.p (.sl (p.changes.map cC))),(21,.p (.int .i64 ((p.changes.map cC).length:Int))),(22,.p (.int .i64 k))] ((2011,(aI (cA ⟨a1,a2,a3,a4,a5,a6,a7,a8,a9,Ki,Kj,[]⟩)).take 171++[.full []])::qB p false []) [(144,1000,AH c n ls j),(61,0,qA p k)] [.busy] kK wS oS ⟨rfl,wS,rfl,wS,trivial⟩ ?_;refine⟨kJ _ _,(λzs h=>by rw[aL.1 h];rfl),(show 1*296<=140737488355328 by decide),gI [⟨a1,a2,a3,a4,a5,a6,a7,a8,a9,Ki,Kj,[]⟩],rfl,?_⟩;exact Bd _ (bG kK wS oS ⟨rfl,iU p k,trivial⟩ trivial)
 |true=>refine mS 61 2000 [(1,.ptr 1 0),(6,.ptr 6 0),(11,.ptr 2011 0),(20,.p (.sl (p.changes.map cC))),(21,.p (.int .i64 ((p.changes.map cC).length:Int))),(22,.p (.int .i64 k))] ((2011,(aI (cA ⟨a1,a2,a3,a4,a5,a6,a7,a8,a9,Ki,Kj,[]⟩)).take 171++[.full []])::qB p true own) [(144,1000,AH c n ls j),(61,0,qA p k)] [.busy] kK wS ⟨aA kK,aA kK,aA kK,sC 2011 kK,trivial⟩ ⟨rfl,wS,rfl,wS,trivial⟩ ?_;refine⟨own.length,Di own _,(λzs h=>by rw[aL.1 h];rfl),by show(own.length+1)*296<=_;omega,gI (own++[⟨a1,a2,a3,a4,a5,a6,a7,a8,a9,Ki,Kj,[]⟩]),GJ own ⟨a1,a2,a3,a4,a5,a6,a7,a8,a9,Ki,Kj,[]⟩ _ _,?_⟩;exact Bd _ (bG kK wS oS ⟨rfl,iU p k,trivial⟩ trivial)
theorem yJ2 (p:iA)(k:Nat)(c:dH)(n L j:Nat)(fr to:bB)(own:List bO)(x:bO)(hn:own.length<=2^31)(hx:x.over=[]):YJ Yh p k (Dk c n L j) (ob5 fr to) true own true x:=by obtain⟨a1,a2,a3,a4,a5,a6,a7,a8,a9,Ki,Kj,a12⟩:=x;obtain rfl:a12=[]:=hx;intro K' Bd;refine⟨rfl,mS 61 2000 [(1,.ptr 1 0),(6,.ptr 6 0),(11,.ptr 2011 0),(20,.p (.sl (p.changes.map cC))),(21,.p (.int .i64 ((p.changes.map cC).length:Int))),(22,.p (.int .i64 k))] ((2011,(aI (cA ⟨a1,a2,a3,a4,a5,a6,a7,a8,a9,Ki,Kj,[]⟩)).take 171++[.full []])::(ob5 fr to++qB p true own)) [(144,1000,Dk c n L j),(61,0,qA p k)] [.busy] kK wS ⟨aA kK,aA kK,aA kK,aA kK,aA kK,sC 2011 kK,trivial⟩ ⟨rfl,wS,rfl,wS,trivial⟩ ?_⟩;refine⟨own.length,Di own _,(λzs h=>by rw[aL.1 h];rfl),by show(own.length+1)*296<=_;omega,gI (own++[⟨a1,a2,a3,a4,a5,a6,a7,a8,a9,Ki,Kj,[]⟩]),GJ own ⟨a1,a2,a3,a4,a5,a6,a7,a8,a9,Ki,Kj,[]⟩ _ _,?_⟩;exact Bd _ (bG kK wS oS ⟨rfl,iU p k,trivial⟩ trivial)
theorem af4 (p:iA)(c:dH)(k:Nat)(Y:ov)(K:FV->ag->Prop)(b:Bool)(own:List bO)(hk:c.kind=1)(hn:own.length<=2^30)(hY:YJ Y p k [] [] b own true ⟨cS own.length,1,cS own.length,c.type,aM,[],0,[],[],aM,aM,[]⟩)(hK:∀r,K r (Od p k true (own++[⟨cS own.length,1,cS own.length,c.type,aM,[],0,[],[],aM,aM,[]⟩]))):lU CJ 6 Y 265 [.lM 1000000,.p (.imp [.int .i64 (own.length:Int)]),.p (.imp (cC c))] K (Od p k b own):=by refine⟨_,Tryz.func265,rfl,rfl,rfl,_,cq.refl _,[],mS 144 1000 [(0,.lM 1000000),(1,.p (.imp [.int .i64 (own.length:Int)])),(2,.p (.imp (cC c))),(4,.fn (.func 266) [] [.p (.imp [.int .i64 (own.length:Int)])]),(13,.p (.int .i64 c.kind))] (qB p b own) [(61,0,qA p k)] [.ready] kK wS (Bp p b own) ⟨rfl,iU p k,trivial⟩ (aH (λ_=>?_) (λh=>absurd hk h))⟩;exact cw 8 kK ⟨_,(fq own.length 0 oO).dY,_,(fq own.length 0 oO).dY,_,rfl,itJ p k [] [] b own,bG kK trivial (Bp p b own) ⟨rfl,iU p k,trivial⟩ trivial,hY _ λS' hw=>⟨_,hw,mS 61 0 (qA p k) (qB p true (own++[⟨cS own.length,1,cS own.length,c.type,aM,[],0,[],[],aM,aM,[]⟩])) [] [.ready] kK (iU p k) oS trivial (hK _)⟩⟩
theorem af5 (p:iA)(c:dH)(k:Nat)(Y:ov)(K:FV->ag->Prop)(b:Bool)(own:List bO)(hk:c.kind=2)(hn:own.length<=2^30)(hY:YJ Y p k [] [] b own false ⟨cS own.length,2,c.file,0,c.parent,c.name,0,[],[],aM,aM,c.over⟩)(hK:∀r,K r (Od p k true (own++[⟨cS own.length,2,c.file,0,c.parent,c.name,0,[],[],aM,aM,c.over⟩]))):lU CJ 6 Y 265 [.lM 1000000,.p (.imp [.int .i64 (own.length:Int)]),.p (.imp (cC c))] K (Od p k b own):=by refine⟨_,Tryz.func265,rfl,rfl,rfl,_,cq.refl _,[],mS 144 1000 [(0,.lM 1000000),(1,.p (.imp [.int .i64 (own.length:Int)])),(2,.p (.imp (cC c))),(4,.fn (.func 266) [] [.p (.imp [.int .i64 (own.length:Int)])]),(13,.p (.int .i64 c.kind))] (qB p b own) [(61,0,qA p k)] [.ready] kK wS (Bp p b own) ⟨rfl,iU p k,trivial⟩ (aH (λh=>absurd (show c.kind=1 from h) oO) (λ_=>aH (λ_=>?_) (λh=>absurd hk h)))⟩;exact cw 12 kK ⟨_,(fq own.length 0 oO).dY,_,rfl,itJ p k [] [] b own,bG kK trivial (Bp p b own) ⟨rfl,iU p k,trivial⟩ trivial,hY _ λS' hw=>⟨_,hw,mS 61 0 (qA p k) (qB p true (own++[⟨cS own.length,2,c.file,0,c.parent,c.name,0,[],[],aM,aM,c.over⟩])) [] [.ready] kK (iU p k) oS trivial (hK _)⟩⟩
theorem af6 (p:iA)(c:dH)(k:Nat)(Y:ov)(K:FV->ag->Prop)(b:Bool)(own:List bO)(hk:c.kind=3)(hn:own.length<=2^30)(hY:YJ Y p k [] [] b own false ⟨cS own.length,3,c.file,0,aM,[],c.mode,[],[],aM,aM,c.over⟩)(hK:∀r,K r (Od p k true (own++[⟨cS own.length,3,c.file,0,aM,[],c.mode,[],[],aM,aM,c.over⟩]))):lU CJ 6 Y 265 [.lM 1000000,.p (.imp [.int .i64 (own.length:Int)]),.p (.imp (cC c))] K (Od p k b own):=by refine⟨_,Tryz.func265,rfl,rfl,rfl,_,cq.refl _,[],mS 144 1000 [(0,.lM 1000000),(1,.p (.imp [.int .i64 (own.length:Int)])),(2,.p (.imp (cC c))),(4,.fn (.func 266) [] [.p (.imp [.int .i64 (own.length:Int)])]),(13,.p (.int .i64 c.kind))] (qB p b own) [(61,0,qA p k)] [.ready] kK wS (Bp p b own) ⟨rfl,iU p k,trivial⟩ (aH (λh=>absurd (show c.kind=1 from h) oO) (λ_=>aH (λh=>absurd (show c.kind=2 from h) oO) (λ_=>aH (λ_=>?_) (λh=>absurd hk h))))⟩;exact cw 10 kK ⟨_,(fq own.length 0 oO).dY,_,rfl,itJ p k [] [] b own,bG kK trivial (Bp p b own) ⟨rfl,iU p k,trivial⟩ trivial,hY _ λS' hw=>⟨_,hw,mS 61 0 (qA p k) (qB p true (own++[⟨cS own.length,3,c.file,0,aM,[],c.mode,[],[],aM,aM,c.over⟩])) [] [.ready] kK (iU p k) oS trivial (hK _)⟩⟩
theorem af7 (p:iA)(c:dH)(k:Nat)(Y:ov)(K:FV->ag->Prop)(b:Bool)(own:List bO)(hk:c.kind=4)(hn:own.length<=2^30)(hY:YJ Y p k [] [] b own false ⟨cS own.length,4,c.file,0,aM,[],0,c.data,[],aM,aM,c.over⟩)(hK:∀r,K r (Od p k true (own++[⟨cS own.length,4,c.file,0,aM,[],0,c.data,[],aM,aM,c.over⟩]))):lU CJ 6 Y 265 [.lM 1000000,.p (.imp [.int .i64 (own.length:Int)]),.p (.imp (cC c))] K (Od p k b own):=by refine⟨_,Tryz.func265,rfl,rfl,rfl,_,cq.refl _,[],mS 144 1000 [(0,.lM 1000000),(1,.p (.imp [.int .i64 (own.length:Int)])),(2,.p (.imp (cC c))),(4,.fn (.func 266) [] [.p (.imp [.int .i64 (own.length:Int)])]),(13,.p (.int .i64 c.kind))] (qB p b own) [(61,0,qA p k)] [.ready] kK wS (Bp p b own) ⟨rfl,iU p k,trivial⟩ (aH (λh=>absurd (show c.kind=1 from h) oO) (λ_=>aH (λh=>absurd (show c.kind=2 from h) oO) (λ_=>aH (λh=>absurd (show c.kind=3 from h) oO) (λ_=>aH (λ_=>?_) (λh=>absurd hk h)))))⟩;exact cw 10 kK ⟨_,(fq own.length 0 oO).dY,_,rfl,itJ p k [] [] b own,bG kK trivial (Bp p b own) ⟨rfl,iU p k,trivial⟩ trivial,hY _ λS' hw=>⟨_,hw,mS 61 0 (qA p k) (qB p true (own++[⟨cS own.length,4,c.file,0,aM,[],0,c.data,[],aM,aM,c.over⟩])) [] [.ready] kK (iU p k) oS trivial (hK _)⟩⟩
theorem af8 (p:iA)(c:dH)(k:Nat)(Y:ov)(K:FV->ag->Prop)(b:Bool)(own:List bO)(hk:c.kind=6)(hn:own.length<=2^30)(hY:YJ Y p k [] [] b own false ⟨cS own.length,6,c.file,0,aM,[],0,[],[],c.eH,c.eY,c.over⟩)(hK:∀r,K r (Od p k true (own++[⟨cS own.length,6,c.file,0,aM,[],0,[],[],c.eH,c.eY,c.over⟩]))):lU CJ 6 Y 265 [.lM 1000000,.p (.imp [.int .i64 (own.length:Int)]),.p (.imp (cC c))] K (Od p k b own):=by refine⟨_,Tryz.func265,rfl,rfl,rfl,_,cq.refl _,[],mS 144 1000 [(0,.lM 1000000),(1,.p (.imp [.int .i64 (own.length:Int)])),(2,.p (.imp (cC c))),(4,.fn (.func 266) [] [.p (.imp [.int .i64 (own.length:Int)])]),(13,.p (.int .i64 c.kind))] (qB p b own) [(61,0,qA p k)] [.ready] kK wS (Bp p b own) ⟨rfl,iU p k,trivial⟩ (aH (λh=>absurd (show c.kind=1 from h) oO) (λ_=>aH (λh=>absurd (show c.kind=2 from h) oO) (λ_=>aH (λh=>absurd (show c.kind=3 from h) oO) (λ_=>aH (λh=>absurd (show c.kind=4 from h) oO) (λ_=>aH (λ_=>?_) (λh=>absurd hk h))))))⟩;exact cw 12 kK ⟨_,(fq own.length 0 oO).dY,_,rfl,itJ p k [] [] b own,bG kK trivial (Bp p b own) ⟨rfl,iU p k,trivial⟩ trivial,hY _ λS' hw=>⟨_,hw,mS 61 0 (qA p k) (qB p true (own++[⟨cS own.length,6,c.file,0,aM,[],0,[],[],c.eH,c.eY,c.over⟩])) [] [.ready] kK (iU p k) oS trivial (hK _)⟩⟩
theorem af9 (p:iA)(c:dH)(k:Nat)(Y:ov)(K:FV->ag->Prop)(b:Bool)(own:List bO)(hk:c.kind=7)(hn:own.length<=2^30)(hY:YJ Y p k [] [] b own false ⟨cS own.length,7,aM,0,aM,[],0,[],[],aM,aM,c.over⟩)(hK:∀r,K r (Od p k true (own++[⟨cS own.length,7,aM,0,aM,[],0,[],[],aM,aM,c.over⟩]))):lU CJ 6 Y 265 [.lM 1000000,.p (.imp [.int .i64 (own.length:Int)]),.p (.imp (cC c))] K (Od p k b own):=by refine⟨_,Tryz.func265,rfl,rfl,rfl,_,cq.refl _,[],mS 144 1000 [(0,.lM 1000000),(1,.p (.imp [.int .i64 (own.length:Int)])),(2,.p (.imp (cC c))),(4,.fn (.func 266) [] [.p (.imp [.int .i64 (own.length:Int)])]),(13,.p (.int .i64 c.kind))] (qB p b own) [(61,0,qA p k)] [.ready] kK wS (Bp p b own) ⟨rfl,iU p k,trivial⟩ (aH (λh=>absurd (show c.kind=1 from h) oO) (λ_=>aH (λh=>absurd (show c.kind=2 from h) oO) (λ_=>aH (λh=>absurd (show c.kind=3 from h) oO) (λ_=>aH (λh=>absurd (show c.kind=4 from h) oO) (λ_=>aH (λh=>absurd (show c.kind=6 from h) oO) (λ_=>aH (λ_=>?_) (λh=>absurd hk h)))))))⟩;exact cw 6 kK ⟨_,(fq own.length 0 oO).dY,_,rfl,itJ p k [] [] b own,bG kK trivial (Bp p b own) ⟨rfl,iU p k,trivial⟩ trivial,hY _ λS' hw=>⟨_,hw,mS 61 0 (qA p k) (qB p true (own++[⟨cS own.length,7,aM,0,aM,[],0,[],[],aM,aM,c.over⟩])) [] [.ready] kK (iU p k) oS trivial (hK _)⟩⟩
theorem Qe (p:iA)(c:dH)(k:Nat)(K:FV->ag->Prop)(b:Bool)(own:List bO)(hn:own.length<=2^30)(hb:b=false->own=[])(h:cF c=0)(hK:∀r,K r (Od p k true (own++dI c own.length))):lU CJ 6 Yh 265 [.lM 1000000,.p (.imp [.int .i64 (own.length:Int)]),.p (.imp (cC c))] K (Od p k b own):=by
 obtain⟨g1,g2,g3,g4,g5,-⟩:=fZ h;have hn2:own.length<=2^31:=oO
 by_cases h1:c.kind=1;rw[afP c _ h1]at hK;exact af4 p c k Yh K b own h1 hn (akK p k b own _ hn2 hb rfl) hK;by_cases h2:c.kind=2;rw[afQ c _ h2]at hK;exact af5 p c k Yh K b own h2 hn (aau p k b own _ hn2 hb) hK;by_cases h3:c.kind=3;rw[afR c _ h3]at hK;exact af6 p c k Yh K b own h3 hn (aau p k b own _ hn2 hb) hK;by_cases h4:c.kind=4;rw[afS c _ h4]at hK;exact af7 p c k Yh K b own h4 hn (aau p k b own _ hn2 hb) hK;by_cases h6:c.kind=6;rw[afT c _ h6]at hK;exact af8 p c k Yh K b own h6 hn (aau p k b own _ hn2 hb) hK;by_cases h7:c.kind=7;rw[afU c _ h7]at hK;exact af9 p c k Yh K b own h7 hn (aau p k b own _ hn2 hb) hK;have h5:c.kind=5:=oO
 rw[afV c _ h5]at hK;exact aga p c k Yh K b own h5 hn hb c.lines rfl (g3 h5).1 (yQ h h5) (λj b wH x hl hb hx=>yJ1 p k c own.length c.lines j b wH x hl hb hx) (λj fr to Ak x hl hx=>yJ2 p k c own.length c.lines.length j fr to Ak x hl hx) hK
theorem SP (p:iA)(hz:SzP p)(ah6:(wG p).2=0->au C 252 [.agg (cP p)] (λr=>r=.val (.eS [.str (eX (pI p)),.int .i64 0]))):au C 176 [.agg (cP p)] (λr=>exR p (wG p) r):=by
 obtain⟨E,hEE⟩:∃E,wG p=E:=⟨_,rfl⟩;rw[hEE]at ah6⊢;have hEE:E=wG p:=hEE.symm;unfold wG at hEE;have bad:∀e:Int,e≠0->E=([],e)->exR p E (.val (.eS [.sl [],.str [],.int .i64 e])):=λe h h2=>by unfold exR;rw[h2,af h]
 refine yO {qz with opens:=[45]} [2,16] Tryz.func176 rfl rfl rfl (cl (aag p hz).dY ⟨_,cq.refl _,eD (λh=>?_) (λh=>?_)⟩);rw[af h]at hEE;exact bad _ h hEE;have h:xx p=0:=h;rw[aa (λg=>g h)]at hEE;have mG:1<=p.changes.length/\p.changes.length<=400:=WO h;have hze:=hz.each;have hcP:cP p=[.str p.ja,.str p.message,.int .i64 p.time,.sl (tK p.deps),.sl (JB p.changes)]:=rfl;refine bW 61 (λx:Nat×Bool×List bO=>[(1,.ptr 1 0),(6,.ptr 6 0),(20,.p (.sl (p.changes.map cC))),(21,.p (.int .i64 ((p.changes.map cC).length:Int))),(22,.p (.int .i64 x.1))]) (λx=>(1,aI (cP p))::ah3 x.2.1 x.2.2) (λx=>x.1<=p.changes.length/\x.2.2.length<=4001*x.1/\(x.2.1=false->x.1=0/\x.2.2=[])/\E=yP (p.changes.drop x.1) x.2.2) (λx=>p.changes.length-x.1) (0,false,[]) ⟨zL,zL,λ_=>⟨rfl,rfl⟩,hEE⟩ rfl wS oS ?_;rintro⟨k,b,own⟩ ⟨hk,hn,hb,hE⟩;have hk:k<=p.changes.length:=hk;have hn:own.length<=4001*k:=hn;have hE:E=yP (p.changes.drop k) own:=hE;refine cu (λhlt=>?_) (λhge=>?_);have hc:=hze _ (aT hlt);have gP:(p.changes.map cC)[((k:Nat):Int).toNat]?=some (cC p.changes[k]):=fh rfl hlt;rw[bM hlt,FI]at hE;generalize p.changes[k]=c at hc gP hE;cases b with
 |false=>
  obtain⟨hk0,ho0⟩:=hb rfl;have hk0:k=0:=hk0;obtain rfl:own=[]:=ho0;refine⟨oO,_,gP,rfl,?_⟩;refine cl (xy c hc).dY (eD (λh=>?_) (λh=>?_));rw[af h]at hE;exact bad _ h hE;have h:cF c=0:=h;rw[aa (λg=>g h)]at hE;obtain⟨g1,g2,g3,g4,g5,-⟩:=fZ h;obtain⟨o5,o6⟩:=sV g5 g1 g2;have o1:c.kind=1\/c.kind=5->c.over=[]:=λq=>q.elim (λq=>Lh g5 q) o5;have o4:c.over.length<=400:=by by_cases q:c.kind=5;rw[o5 q];exact zL;exact g4 q
  refine cl (AG c [] g1 g2 (zL) o4 o1).dY (eD (λh2=>?_) (λh2=>?_));rw[af h2]at hE;exact bad _ h2 hE;have h2:wF c []=0:=h2;rw[aa (λg=>g h2)]at hE;have hE:E=yP (p.changes.drop (k+1)) (dI c 0):=hE;refine cl (Bo c 0).dY ?_;have hml:=Db h ([]:List bO).length;refine IF (T:=Od p k false []) (bG kK wS oS trivial trivial) (Qe p c k _ false [] (by show 0<=2^30;decide) (λ_=>rfl) h λr=>?_);exact nx (k+1) (aU (k+1,true,[]++dI c ([]:List bO).length) ⟨hlt,by show([]++dI c ([]:List bO).length).length<=4001*(k+1);rw[ay];simp only[bA]at hml⊢;omega,(λh=>nomatch h),hE⟩ mM rfl wS oS)
 |true=>
  refine⟨oO,_,gP,rfl,?_⟩;refine cl (xy c hc).dY (eD (λh=>?_) (λh=>?_));rw[af h]at hE;exact bad _ h hE;have h:cF c=0:=h;rw[aa (λg=>g h)]at hE;obtain⟨g1,g2,g3,g4,g5,-⟩:=fZ h;obtain⟨o5,o6⟩:=sV g5 g1 g2;have o1:c.kind=1\/c.kind=5->c.over=[]:=λq=>q.elim (λq=>Lh g5 q) o5;have o4:c.over.length<=400:=by by_cases q:c.kind=5;rw[o5 q];exact zL;exact g4 q
  refine .inr (.inl (.inr ⟨[.agg (cC c),.sl (kB own)],_,.cons (.plain rfl) (.cons (.fT rfl (.plain (by rw[Kh];exact bu _)) (Dh own)) .nil),(AG c own g1 g2 oO o4 o1).dY,λr hr=>?_⟩));subst hr;refine⟨⟨_,rfl,rfl⟩,eD (λh2=>?_) (λh2=>?_)⟩;rw[af h2]at hE;exact bad _ h2 hE;have h2:wF c own=0:=h2;rw[aa (λg=>g h2)]at hE;refine⟨own.length,Di own _,cl (Bo c own.length).dY ?_⟩;have hml:=Db h (own:List bO).length;refine IF (T:=Od p k true own) (bG kK wS ⟨aA kK,aA kK,adk 1000000 8 kK,trivial⟩ trivial trivial) (Qe p c k _ true own oO (λh=>nomatch h) h λr=>?_);exact nx (k+1) (aU (k+1,true,own++dI c (own:List bO).length) ⟨hlt,by show(own++dI c (own:List bO).length).length<=4001*(k+1);rw[ay];omega,(λh=>nomatch h),hE⟩ mM rfl wS oS)
 have hE0:E=(own,0):=by rw[hE,cQ (show p.changes.length<=k by omega)];rfl
 obtain rfl:k=p.changes.length:=oO
 cases b with
 |false=>have :=(hb rfl).1;omega
 |true=>
  refine cl (ah6 (by rw[hE0])).dY ?_;refine⟨none,eD (λh=>absurd rfl h) (λ_=>aQ (λh=>?_) (λh=>?_))⟩;have h:¬(eX (pI p)).length<=65536:=by have :((eX (pI p)).length:Int)>65536:=h;omega
  show exR p E (.val (.eS [.sl [],.str [],.int .i64 4]));unfold exR;rw[hE0,aa (λg=>g rfl),aa h];have h:(eX (pI p)).length<=65536:=by have :¬((eX (pI p)).length:Int)>65536:=h;omega
  refine⟨kB own,Dh own,bu _,?_⟩;show exR p E (.own (some [.str (eX (pI p)),.int .i64 0]) 109 172 (kB own));unfold exR;rw[hE0,aa (λg=>g rfl),af h]
theorem SV (c:dH)(f:Nat):(kG c f).id=cS f:=by
 unfold kG;repeat' split
 all_goals rfl
theorem WU (c:dH)(f:Nat):∀(i:Nat)(h:i<(dI c f).length),(dI c f)[i].id=cS ((f+i:Nat):Int):=by
 intro i h;unfold dI at h⊢;by_cases h5:c.kind=5;simp only[af h5]at h⊢;by_cases hi:i<c.lines.length;rw[List.getElem_append_left (by simpa using hi)];simp[uU];rw[List.getElem_append_right (by simpa using hi)];simp only[aj,ko,mg,sy,AF,cS];congr 2;omega;simp only[aa h5]at h⊢;obtain rfl:i=0:=by simpa using h
 exact SV c f
theorem Qn {own:List bO}(h:Nt own)(c:dH):Nt (own++dI c own.length):=by intro n hn;by_cases hl:n<own.length;rw[List.getElem_append_left hl];exact h n hl;rw[List.getElem_append_right oO,WU];show(⟨bg,_⟩:bB)=_;congr 2;omega
theorem Lm:∀(l:List dH)(own:List bO),(kH l own).2=0->∃t,(kH l own).1=own++t|[],own,_=>⟨[],(aW _).symm⟩|c::l,own,h=>by rw[kU]at h⊢;by_cases h1:cF c≠0;rw[af h1]at h;exact absurd h h1;rw[aa h1]at h⊢;by_cases h2:oa c own≠0;rw[af h2]at h;exact absurd h h2;rw[aa h2]at h⊢;obtain⟨t,ht⟩:=Lm l _ h;exact⟨dI c own.length++t,by rw[ht,bl]⟩
theorem Ln:∀(l:List dH)(own:List bO),Nt own->(kH l own).2=0->(kH l own).1.length<=100000->yP l own=kH l own
 |[],own,_,_,_=>rfl
 |c::l,own,hn,h,hl=>by
  obtain⟨t,ht⟩:=Lm _ _ h;have hlen:own.length<=100000:=by rw[ht,ay]at hl;omega
  rw[FI,WN c own hlen hn];rw[kU]at h hl⊢;by_cases h1:cF c≠0;rw[af h1]at h;exact absurd h h1;rw[aa h1]at h hl;rw[aa h1,aa h1];by_cases h2:oa c own≠0;rw[af h2]at h;exact absurd h h2;rw[aa h2]at h hl;rw[aa h2,aa h2];exact Ln l _ (Qn hn c) h hl
structure uY (p:iA):Prop where
 fit:WI p
 ok:(sA p).2=0
 few:(eM p).1.length<=100000
theorem uY.Yz {p:iA}(h:uY p):(eM p).2=0:=by have :=h.ok;unfold sA at this;by_cases g:(eM p).2≠0;rw[af g]at this;exact absurd this g;exact cK.1 g
theorem uY.UY {p:iA}(h:uY p):OkP p:=yG h.Yz
theorem uY.len {p:iA}(h:uY p):(eX (pI p)).length<=65536:=by have :=h.ok;unfold sA at this;rw[aa (λg=>g h.Yz)]at this;by_cases g:(eX (pI p)).length<=65536;exact g;rw[aa g]at this;exact absurd this dD
theorem uY.akT {p:iA}(h:uY p):wG p=eM p:=by have hc:=h.Yz;have hf:=h.few;rw[SN]at hc hf⊢;unfold wG;by_cases g:xx p≠0;rw[af g]at hc;exact absurd hc g;rw[aa g]at hc hf;rw[aa g,aa g];exact Ln _ _ (λn hn=>absurd hn (kC _)) hc hf
theorem WV {p:iA}(h:OkP p):∀d,d∈p.deps->d≠bg:=by
 intro d hd e;have hde:=h.deps;unfold rj at hde;by_cases g:100<p.deps.length;rw[af g]at hde;exact absurd hde dD;rw[aa g]at hde;obtain⟨i,hi,rfl⟩:=dr hd;have key:∀{l:List Int},bk l=0->∀e,e∈l->e=0:=by
  intro l;induction l with
  |nil=>intro _ e h;cases h
  |cons a l ih=>intro h e he;by_cases h0:a=0;rw[ef h0]at h;rcases aC.1 he with rfl|he;exact h0;exact ih h e he;rw[fW h0]at h;exact absurd h h0
 have :=key hde (Iv p.deps i) (aB.2 ⟨i,fA.2 hi,rfl⟩);rw[UP hi,af e]at this;exact absurd this dD
theorem adx {p:iA}(h:uY p):au C 252 [.agg (cP p)] (λr=>r=.val (.eS [.str (eX (pI p)),.int .i64 0])):=by have ho:=h.UY;refine SU p (h.fit.enc ho) (by have :=Dc ho;omega) (WV ho) (by have :=ho.changes;omega) λc hc=>?_;obtain⟨g1,g2,g3,g4,g5,-⟩:=fZ (ho.each c hc);obtain⟨k1,k2⟩:=sV g5 g1 g2;refine⟨g1,g2,?_,?_⟩;by_cases h5:c.kind=5;have :=(g3 h5).1;omega;rw[k2 h5];exact zL;by_cases h5:c.kind=5;rw[k1 h5];exact zL;have :=g4 h5;omega
theorem yU {p:iA}(h:uY p):au C 176 [.agg (cP p)] (λr=>r=.own (some [.str (eX (pI p)),.int .i64 0]) 109 172 (kB (eM p).1)):=by have hx:=SP p h.fit.sz λ_=>adx h;rw[h.akT]at hx;refine au.mono hx λr hr=>?_;unfold exR at hr;rw[aa (λg=>g h.Yz),af h.len]at hr;exact hr
theorem SX {p:iA}(h:(sA p).2=0):mA p=(Sm (eX (pI p)),0):=by unfold mA;rw[aa (λg=>g h),(UR h).2]
theorem Ny {p:iA}(h:uY p):au C 107 [.agg (cP p)] (λr=>r=.val (.eS [.str (eX (pI p)),.int .i64 0])):=by exact bn qz [] Tryz.func107 rfl rfl rfl (cl (yU h).dY ⟨_,rfl,rfl⟩)
theorem FJ {p:iA}(h:uY p):au C 110 [.agg (cP p)] (λr=>r=.val (.int .i64 0)):=by exact bn qz [] Tryz.func110 rfl rfl rfl (cl (yU h).dY ⟨_,rfl,rfl⟩)
theorem Dn {p:iA}(h:uY p):au C 41 [.agg (cP p)] (λr=>r=.val (idR (mA p))):=by rw[SX h.ok];refine aq Tryz.func41 rfl rfl rfl (cl (Ny h) (eD (λg=>absurd rfl g) (λ_=>cl (acZ (eX (pI p)) (by have :=h.len;omega)) ?_)));exact rfl
theorem Tc {x:bB}{d:Dg}(h:x.p=bg)(h0:0<=x.n):bz x d=⟨d,x.n⟩:=af ⟨h,h0⟩
theorem qE (x:bB)(d:Dg):au C 235 [.agg (cI x),.imp (cD d)] (λr=>r=.val (.agg (cI (bz x d)))):=by refine aq Tryz.func235 rfl rfl rfl ⟨none,cl (fG x) ?_⟩;unfold bz;by_cases h:x.p=bg;rw[ai h];refine aQ (λh2=>?_) (λh2=>?_);rw[af ⟨h,h2⟩];exact rfl;rw[aa λg=>h2 g.2];exact rfl;rw[ah h,aa λg=>h g.1];exact rfl
theorem Va {aD:List (Nat×List FV)}{o:Nat}{own:List bO}(k j i:Nat)(h:Qv.getObj aD o=some (FV.dJ k (FV.dJ j (FV.dJ i (gI own))))):∃ys,Qv.getObj aD o=some ys/\ys.length=(gI own).length/\∀(i:Nat)(x y:FV),ys[i]?=some x->(gI own)[i]?=some y->bt x y:=by rw[Kh,Kh,Kh]at h;exact aA h
theorem EI (d E:Nat)(qj:List (List AV)):∀l:List AV,FV.BP d E qj (aI l)=aI l|[]=>rfl|x::l=>by simp only[aI,FV.BP,FV.JF,EI d E qj l]
def oJ (own:List bO)(d:Dg)(k:Nat):List bO:=(own.take k).map (iT d)++own.drop k
theorem Td (own:List bO)(d:Dg):oJ own d 0=own:=rfl
theorem Xe (own:List bO)(d:Dg)(k:Nat):(oJ own d k).length=own.length:=by unfold oJ;simp;omega
theorem Xf (own:List bO)(d:Dg):oJ own d own.length=own.map (iT d):=by unfold oJ;simp
theorem aaC {own:List bO}{k:Nat}(h:k<own.length)(d:Dg):gI (oJ own d k)=gI ((own.take k).map (iT d))++(aI (cA own[k])++gI (own.drop (k+1))):=by unfold oJ;rw[bM h,Dj,<-pq,Dj,Qc]
theorem Te {own:List bO}{k:Nat}(h:k<own.length)(d:Dg):gI (oJ own d (k+1))=gI ((own.take k).map (iT d))++(aI (cA (iT d own[k]))++gI (own.drop (k+1))):=by unfold oJ;rw[bQ h,aF,bl,Dj,Dj,wL,Qc]
theorem Qx {A B X:List FV}{z w:FV}(hz:bt z w){aD:List (Nat×List FV)}{o:Nat}(h:Qv.getObj aD o=some (A++((X++[z])++B))){Y:List FV}(hY:Y=A++((X++[w])++B)):∃ys,Qv.getObj aD o=some ys/\ys.length=Y.length/\∀(i:Nat)(x y:FV),ys[i]?=some x->Y[i]?=some y->bt x y:=by
 subst hY;refine⟨_,h,by simp,λi x y h1 h2=>?_⟩;have e1:A++((X++[z])++B)=(A++X)++(z::B):=by simp
 have e2:A++((X++[w])++B)=(A++X)++(w::B):=by simp
 rw[e1]at h1;rw[e2]at h2;by_cases hl:i<(A++X).length;rw[cV hl]at h1 h2;rw[h1]at h2;exact bt.eq (ak h2);rw[eu oO]at h1 h2;cases hi:i-(A++X).length with
 |zero=>rw[hi]at h1 h2;cases h1;cases h2;exact hz
 |succ n=>rw[hi]at h1 h2;simp only[mb]at h1 h2;rw[h1]at h2;exact bt.eq (ak h2)
theorem aij (d:Dg)(a:bO):(st2 d a).kind=a.kind:=by unfold st2;split<;>rfl
theorem aik (d:Dg)(a:bO):(Nj d a).kind=a.kind:=by unfold Nj;split<;>rfl
theorem Vb {l:List bB}:∀ys,ys∈pX l->ys.length=33/\∀y,y∈ys->y.one=true:=by intro ys h;obtain⟨x,-,rfl⟩:=aB.1 h;exact⟨rfl,λy hy=>br.1 (show(cI x).all AV.one=true from rfl) y hy⟩
theorem aaD (l:List bB):(pX l).flatten.length=l.length*33:=by rw[gG (e:=33) λzs h=>(Vb zs h).1];simp[pX]
theorem agh (x:bB):ady (cI x):=by intro y hy;have :=br.1 (show(cI x).all (λy=>match y with|.int _ _=>true|_=>false)=true from rfl) y hy;cases y<;>first|exact⟨_,_,rfl⟩|cases this
theorem adA (l:List bB)(x:bB)(o:Nat):FV.dJ o (aI (pX l).flatten++aI [cI x].flatten)=aI (pX (l++[x])).flatten:=by
 have :aI (pX l).flatten++aI [cI x].flatten=aI (pX (l++[x])).flatten:=by unfold pX;rw[aF,sD,er,er,er,aF];rfl
 rw[this];exact iZ o _
theorem akX:Sort.SWO (Proofs.ltOf gq):=⟨λx=>by unfold Proofs.ltOf;exact ah (mT x),λx y z h1 h2=>by unfold Proofs.ltOf at*;exact ai (oA (cL h1) (cL h2)),λx y z h1 h2=>by
 unfold Proofs.ltOf at*;refine ah λh=>?_;have h1:=pN h1;have h2:=pN h2;by_cases e:gq y x=0;rw[vb e]at h2;exact h2 h;have :=nB x y;have h3:gq y x<0:=oO
 exact h2 (oA h3 h)⟩
theorem Tf (Cx:Ctx)(hP:Cx.P=Tryz.prog)(l:List bB)(hl:l.length<=2^40):VI Cx 236 54 33 (pX l).flatten [.fn (.func 96) [] []] (λr ys=>r=false/\ys=(pX (tD l)).flatten):=EF cI 33 (λ_=>rfl) agh Tryz.sortI152 dD Tryz.isAgg54 Tryz.sizeOf54 gq akX (λx y h1 h2=>by have :=nB x y;exact vb oO) 96 (enters_of Tryz.func96 kK rfl) SY Cx hP ⟨_,Tryz.func236,rfl,rfl⟩ 54 l oO
theorem aaE (d:Nat)(ys X:List AV):FV.Rx d ys (aI X)=aI X:=by rw[FV.uq,er,dV];rfl
theorem aeU (own:List bO)(k d:Nat)(ys:List AV):FV.Rx d ys (FV.dJ k (gI own))=gI own:=by rw[Kh];exact aaE d ys _
theorem aaF {aD:List (Nat×List FV)}{o:Nat}{own:List bO}(k d:Nat)(ys:List AV)(h:Qv.getObj aD o=some (FV.Rx d ys (FV.dJ k (gI own)))):∃zs,Qv.getObj aD o=some zs/\zs.length=(gI own).length/\∀(i:Nat)(x y:FV),zs[i]?=some x->(gI own)[i]?=some y->bt x y:=by rw[aeU]at h;exact aA h
theorem IN {p:iA}(h:uY p)(hn:∀a,a∈(eM p).1->(a.over.map λx=>bz x (mA p).1).Nodup)(hid:Nt (eM p).1):au C 172 [.agg (cP p)] (λr=>r=.own (some [.int .i64 0]) 109 172 (kB ((eM p).1.map (iT (mA p).1)))):=by
 have hbd:=(Dd p).2;have agi:=h.few;have hI:=SX h.ok;refine bn {qz with opens:=[85],Mg:=[25]} [14,16,18] Tryz.func172 rfl rfl rfl (cl (yU h).dY ?_);generalize(eM p).1=own at hn hbd hid agi⊢;refine⟨gI own,rfl,eD (λg=>absurd rfl g) (λ_=>cl (Dn h).dY ?_)⟩;rw[hI]at hn⊢;generalize Sm (eX (pI p))=d at hn⊢;refine eD (λg=>absurd rfl g) (λ_=>⟨[7],cZ (cells:=aI (cD d)) (ys:=cD d) rfl (bu _) rfl ?_⟩);refine⟨own.length,by rw[aeU];exact Nu own,?_⟩;refine bW 97 (λk:Nat=>[(4,.fT 16 109 172),(8,.fn (.func 235) [] [.p (.imp (cD d))]),(32,.fT 16 109 172),(33,.p (.int .i64 (own.length:Int))),(34,.p (.int .i64 k))]) (λk=>[(16,gI (oJ own d k))]) (λk=>k<=own.length) (λk=>own.length-k) 0 (zL) kK wS ⟨(by rw[Td];exact aaF 7 7 (cD d) kK),trivial⟩ ?_;intro k hk;refine aQ (λhlt=>?_) (λhge=>?_)
 ·have hlt:k<own.length:=by have :(k:Int)<(own.length:Int):=hlt;omega
  have rL:=aaC hlt d;have hnext:=Te hlt d;have JP:=hn own[k] (aT _);have Ke:=hbd own[k] (aT _);have agj:=hid k hlt;have Qy:(gI ((own.take k).map (iT d))).length=k*172:=by rw[Nu,aj,aN];congr 1;omega
  have hCl:(gI (oJ own d k)).length=own.length*172:=by rw[Nu,Xe]
  generalize own[k]=a at rL hnext JP Ke agj;generalize gI ((own.take k).map (iT d))=A at rL hnext Qy;generalize gI (own.drop (k+1))=B at rL hnext;have hle:k*172+172<=own.length*172:=oO
  refine⟨k,k*172,rfl,rfl,by rw[hCl];exact hle,?_⟩;refine⟨A,aI (cA a),B,rL,Qy,cl (qE a.id d).dY ?_⟩;have hw1:bz a.id d=⟨d,a.id.n⟩:=Tc (by rw[agj]) (by rw[agj];exact CU k);rw[hw1];have h1k:(st1 d a).kind=a.kind:=rfl;refine share (T:=?T1) (λH1=>?m1) ?r1;case m1=>refine eD (λh7=>?_) (λh7=>?_);refine cl (qE a.file d).dY (ee 97 [(4,.fT 16 109 172),(8,.fn (.func 235) [] [.p (.imp (cD d))]),(32,.fT 16 109 172),(33,.p (.int .i64 (own.length:Int))),(34,.p (.int .i64 k)),(9,.p (.int .i64 k)),(10,.ptr 10 0)] [(10,aI (cA (st2 d (st1 d a)))),(16,gI (oJ own d k))] kK wS ⟨(by rw[show st2 d (st1 d a)={st1 d a with file:=bz a.file d}from af h7];exact aA kK),sC 10 kK,trivial⟩ ?_);exact H1.out;refine ee 97 [(4,.fT 16 109 172),(8,.fn (.func 235) [] [.p (.imp (cD d))]),(32,.fT 16 109 172),(33,.p (.int .i64 (own.length:Int))),(34,.p (.int .i64 k)),(9,.p (.int .i64 k)),(10,.ptr 10 0)] [(10,aI (cA (st2 d (st1 d a)))),(16,gI (oJ own d k))] kK wS ⟨(by rw[show st2 d (st1 d a)=st1 d a from aa (λg=>g h7)];exact aA kK),sC 10 kK,trivial⟩ ?_;exact H1.out
  case r1=>
   have hk2:=aij d (st1 d a);rw[h1k]at hk2;generalize he2:st2 d (st1 d a)=a2 at hk2⊢;refine share (T:=?T2) (λH2=>?m2) ?r2;case m2=>refine aH (λh7=>?_) (λh7=>?_);refine cl (qE a2.parent d).dY (ee 97 [(4,.fT 16 109 172),(8,.fn (.func 235) [] [.p (.imp (cD d))]),(32,.fT 16 109 172),(33,.p (.int .i64 (own.length:Int))),(34,.p (.int .i64 k)),(9,.p (.int .i64 k)),(10,.ptr 10 0)] [(10,aI (cA (Nj d a2))),(16,gI (oJ own d k))] kK wS ⟨(by rw[show Nj d a2={a2 with parent:=bz a2.parent d}from af h7];exact aA kK),aA kK,trivial⟩ ?_);exact H2.out;refine ee 97 [(4,.fT 16 109 172),(8,.fn (.func 235) [] [.p (.imp (cD d))]),(32,.fT 16 109 172),(33,.p (.int .i64 (own.length:Int))),(34,.p (.int .i64 k)),(9,.p (.int .i64 k)),(10,.ptr 10 0)] [(10,aI (cA (Nj d a2))),(16,gI (oJ own d k))] kK wS ⟨(by rw[show Nj d a2=a2 from aa h7];exact aA kK),aA kK,trivial⟩ ?_;exact H2.out
   case r2=>
    have hk3:=aik d a2;generalize he3:Nj d a2=a3 at hk3⊢;refine share (T:=?T3) (λH3=>?m3) ?r3;case m3=>refine aH (λh7=>?_) (λh7=>?_);refine cw 9 kK ⟨_,(qE a3.fr d).dY,_,(qE a3.to d).dY,ee 97 [(4,.fT 16 109 172),(8,.fn (.func 235) [] [.p (.imp (cD d))]),(32,.fT 16 109 172),(33,.p (.int .i64 (own.length:Int))),(34,.p (.int .i64 k)),(9,.p (.int .i64 k)),(10,.ptr 10 0)] [(10,aI (cA (Nk d a3))),(16,gI (oJ own d k))] kK wS ⟨(by rw[show Nk d a3={a3 with fr:=bz a3.fr d,to:=bz a3.to d}from af h7];exact aA kK),aA kK,trivial⟩ ?_⟩;exact H3.out;refine ee 97 [(4,.fT 16 109 172),(8,.fn (.func 235) [] [.p (.imp (cD d))]),(32,.fT 16 109 172),(33,.p (.int .i64 (own.length:Int))),(34,.p (.int .i64 k)),(9,.p (.int .i64 k)),(10,.ptr 10 0)] [(10,aI (cA (Nk d a3))),(16,gI (oJ own d k))] kK wS ⟨(by rw[show Nk d a3=a3 from aa h7];exact aA kK),aA kK,trivial⟩ ?_;exact H3.out
    case r3=>
     have aaG:(Nk d a3).over=a.over:=by rw[PS,<-he3,PR,<-he2,PO];rfl
     have hfull:iT d a={Nk d a3 with over:=tD (a.over.map λx=>bz x d)}:=by have :UQ d a.over=tD (a.over.map λx=>bz x d):=(Tb JP).symm;unfold iT ZW;rw[he2,he3,aaG,this]
     generalize Nk d a3=a4 at aaG hfull⊢;have hol:a4.over.length<=400:=by rw[aaG];exact Ke
     refine bW 97 (λx:Nat×Bool×List bB=>[(4,.fT 16 109 172),(8,.fn (.func 235) [] [.p (.imp (cD d))]),(32,.fT 16 109 172),(33,.p (.int .i64 (own.length:Int))),(34,.p (.int .i64 k)),(9,.p (.int .i64 k)),(10,.ptr 10 0),(11,match x.2.1 with|true=>.fT 85 54 33|false=>.full []),(74,.p (.sl (pX a4.over))),(75,.p (.int .i64 (((pX a4.over).length:Nat):Int))),(76,.p (.int .i64 x.1))]) (λx=>(10,aI (cA a4))::(16,gI (oJ own d k))::(match x.2.1 with|true=>[(85,aI (pX x.2.2).flatten)]|false=>[])) (λx=>x.1<=a4.over.length/\x.2.2=(a4.over.take x.1).map (λy=>bz y d)/\(x.2.1=false->x.1=0)) (λx=>a4.over.length-x.1) (0,false,[]) ⟨zL,rfl,λ_=>rfl⟩ kK wS oS ?_;rintro⟨j,b,acc⟩ ⟨hj,hacc,hb⟩;have hj:j<=a4.over.length:=hj;have hacc:acc=(a4.over.take j).map (λy=>bz y d):=hacc;have ail:acc.length=j:=by rw[hacc,aj,aN];omega
     have mG:(pX a4.over).length=a4.over.length:=by simp[pX]
     refine aQ (λdw=>?_) (λox=>?_);have adB:j<a4.over.length:=by have :(j:Int)<(((pX a4.over).length:Nat):Int):=dw;omega
     have gP:(pX a4.over)[((j:Nat):Int).toNat]?=some (cI a4.over[j]):=fh rfl adB;have aaH:acc++[bz a4.over[j] d]=(a4.over.take (j+1)).map (λy=>bz y d):=by rw[hacc,bQ adB,aF];rfl
     generalize a4.over[j]=y at gP aaH;cases b with
     |false=>obtain rfl:j=0:=hb rfl;obtain rfl:acc=[]:=cO.1 ail;refine⟨oO,_,gP,rfl,?_⟩;refine cl (qE y d).dY ⟨kJ _ _,(λzs h=>by rw[aL.1 h];rfl),(show 1*40<=140737488355328 by decide),aI (pX [bz y d]).flatten,rfl,?_⟩;exact⟨1,dD,aU (1,true,[bz y d]) ⟨adB,aaH,(λh=>nomatch h)⟩ (by show a4.over.length-1<a4.over.length-0;omega) kK wS ⟨aA kK,Va 85 84 13 kK,aA kK,trivial⟩⟩
     |true=>refine⟨oO,_,gP,rfl,?_⟩;refine cl (qE y d).dY ?_;refine⟨acc.length,by rw[iZ,iZ,iQ];exact aaD acc,(λzs h=>by rw[aL.1 h];rfl),by show(acc.length+1)*40<=_;omega,aI (pX (acc++[bz y d])).flatten,by rw[iZ,iZ];exact adA acc (bz y d) _,?_⟩;exact nx (j+1) (aU (j+1,true,acc++[bz y d]) ⟨adB,aaH,(λh=>nomatch h)⟩ mM kK wS ⟨aA kK,Va 85 84 13 kK,aA kK,trivial⟩)
     obtain rfl:j=a4.over.length:=by have :¬(j:Int)<(((pX a4.over).length:Nat):Int):=ox;omega
     rw[aP,aaG]at hacc;subst hacc;have hcA:cA (iT d a)=(cA a4).take 171++[.sl (pX (tD (a.over.map λx=>bz x d)))]:=by rw[hfull];rfl
     have hmid:aI (cA (iT d a))=(aI ((cA a4).take 171))++[.p (.sl (pX (tD (a.over.map λx=>bz x d))))]:=by rw[hcA,er,er,aF];rfl
     rw[hmid]at hnext;cases b with
     |false=>
      have h0:a4.over.length=0:=hb rfl;have ho0:a.over=[]:=by rw[<-aaG];exact cO.1 h0
      refine cl (NA 96).dY (.inr ?_);refine⟨k,k*172,rfl,rfl,by rw[hCl];exact hle,?_⟩;refine⟨A,aI (cA a),B,rL,Qy,A++((aI ((cA a4).take 171)++[.full []])++B),rfl,?_⟩;exact nx (k+1) (aU (k+1) hlt oO kK wS ⟨Qx (by rw[ho0,show tD (([]:List bB).map λx=>bz x d)=[]from by simp[tD]];exact bt.Ie []) kK hnext,trivial⟩)
     |true=>refine .inr (.inr (Ds rfl rfl (bu _) (Tf _ rfl (a.over.map λx=>bz x d) (by rw[aj];omega)) λr ys hr=>?_));obtain⟨rfl,rfl⟩:=hr;refine .inl ⟨85,33,pX (tD (a.over.map λx=>bz x d)),⟨⟨_,rfl,bu _⟩,Vb⟩,?_⟩;refine⟨k,k*172,rfl,rfl,by rw[show FV.BP 85 33 (pX (tD (a.over.map λx=>bz x d))) (gI (oJ own d k))=gI (oJ own d k)from EI _ _ _ _,hCl];exact hle,?_⟩;exact⟨A,aI (cA a),B,(EI _ _ _ _).trans rL,Qy,A++((aI ((cA a4).take 171)++[.gi 85 54 33 (pX (tD (a.over.map λx=>bz x d)))])++B),rfl,nx (k+1) (aU (k+1) hlt oO kK wS ⟨Qx (bt.UH 85 54 33 _) kK hnext,trivial⟩)⟩
 obtain rfl:k=own.length:=by have :¬(k:Int)<(own.length:Int):=hge;omega
 rw[Xf];exact⟨kB (own.map (iT d)),Dh _,bu _,rfl⟩
theorem Tg {p:iA}(h:uY p)(hn:∀a,a∈(eM p).1->(a.over.map λx=>bz x (mA p).1).Nodup)(hid:Nt (eM p).1):au C 93 [.agg (cP p)] (λr=>r=.own (some [.int .i64 0]) 109 172 (kB ((eM p).1.map (iT (mA p).1)))):=by refine bn qz [] Tryz.func93 rfl rfl rfl (cl (IN h hn hid).dY ?_);generalize(eM p).1.map (iT (mA p).1)=l;exact⟨gI l,rfl,kB l,Dh _,bu _,rfl⟩
theorem EJ:∀l:List Dg,(cT l).length<=l.length|[]=>av _|[_]=>av _|x::y::l=>by have :=EJ (y::l);unfold cT;split;simp only[aS]at this⊢;omega;simp only[aS]at this⊢;omega
theorem IP:∀(l:List Dg)(x:Dg)(h:l≠[]),cT (l++[x])=if l.getLast h=x then cT l else cT l++[x]
 |[y],x,_=>by show cT [y,x]=if y=x then[y]else[y]++[x];unfold cT;by_cases e:y=x;rw[af e,af e,e];rfl;rw[aa e,aa e];rfl
 |y::z::l,x,_=>by have ih:=IP (z::l) x (kJ _ _);rw[List.getLast_cons (kJ _ _)];show(if y=z then cT ((z::l)++[x])else y::cT ((z::l)++[x]))=if _ then(if y=z then cT (z::l)else y::cT (z::l))else(if y=z then cT (z::l)else y::cT (z::l))++[x];rw[ih];by_cases e:y=z;rw[af e,af e];rw[aa e,aa e];split;rfl;rfl
theorem wM {l:List Dg}{j:Nat}(h0:0<j)(h:j<l.length):cT (l.take (j+1))=if l[j-1]=l[j]then cT (l.take j)else cT (l.take j)++[l[j]]:=by
 have hne:l.take j≠[]:=by intro e;have :=aV List.length e;rw[aN]at this;simp only[bA]at this;omega
 rw[bQ h,IP _ _ hne];have e:(l.take j).getLast hne=l[j-1]:=by rw[List.getLast_eq_getElem,wN];congr 1;rw[aN];omega
 rw[e]
def Du (c:dH):List Dg:=((di c).map λe=>e.1.p).filter λd=>!decide (d=bg)
def oK (c:dH)(j:Nat):List Dg:=(((di c).take j).map λe=>e.1.p).filter λd=>!decide (d=bg)
theorem Bs {c:dH}{j:Nat}(h:j<(di c).length):oK c (j+1)=oK c j++(if(di c)[j].1.p=bg then[]else[(di c)[j].1.p]):=by unfold oK;rw[bQ h,aF,mj];congr 1;by_cases e:(di c)[j].1.p=bg;rw[af e];simp[e];rw[aa e];simp[e]
def Bt (p:iA):List Dg:=p.deps++p.changes.flatMap Du
def rH (p:iA)(k:Nat):List Dg:=p.deps++(p.changes.take k).flatMap Du
theorem FM {p:iA}{k:Nat}(h:k<p.changes.length):rH p (k+1)=rH p k++Du p.changes[k]:=by unfold rH;rw[bQ h,kD,<-bl];simp
theorem EK (c:dH)(j:Nat):(oK c j).length<=(di c).length:=by unfold oK;refine bL (jo _ _) ?_;rw[aj,aN];omega
theorem IQ (c:dH):(di c).length<=c.over.length+8:=by
 unfold di;simp only[ay,aj];repeat' split
 all_goals simp only[aS,bA];omega
theorem ND {xs:List (List AV)}{K:Bool->Prop}(h1:xs=[]->K true)(h2:K false):Al λb:Bool=>(xs≠[]->b=false)->K b:=⟨λb hb=>by
 cases b with
 |false=>exact h2
 |true=>exact h1 (kI λhne=>absurd (hb hne) dD)⟩
theorem yW {p:iA}(h:uY p):au C 45 [.agg (cP p)] (λr=>r=.val (.sl (tK (cT (AK (Bt p)))))):=by
 refine au.NC (T:=33) (bI:=32) ?_;have ho:=h.UY;have hdl:=Dc ho;have mG:=ho.changes;have Ke:∀c,c∈p.changes->1<=c.kind/\c.kind<=7/\c.over.length<=400:=λc hc=>by obtain⟨g1,g2,-⟩:=fZ (ho.each c hc);exact⟨g1,g2,PU ho hc⟩
 refine bn {qz with inl:=[111,115],rel:=[111,115],opens:=[5,37]} [] Tryz.func45 rfl rfl rfl (cl (FJ h).dY (eD (λg=>absurd rfl g) (λ_=>.inl ⟨_,Tryz.func111,rfl,rfl,rfl,ND (xs:=tK p.deps) (λaaI=>?_) ?_⟩)))
 ·have VW:p.deps=[]:=by have :=aV List.length aaI;simpa[tK]using this
  refine ee 44 [(1,.ptr 1 0),(13,.full [])] [(1,aI (cP p))] kK wS oS ?_;refine bW 44 (λx:Nat×Bool×List Dg=>[(1,.ptr 1 0),(3,match x.2.1 with|true=>.fT 37 33 32|false=>.full []),(15,.p (.sl (p.changes.map cC))),(16,.p (.int .i64 ((p.changes.map cC).length:Int))),(17,.p (.int .i64 x.1))]) (λx=>(1,aI (cP p))::(match x.2.1 with|true=>[(37,cM x.2.2)]|false=>[])) (λx=>x.1<=p.changes.length/\x.2.2=rH p x.1/\(x.2.1=false->x.2.2=[])/\x.2.2.length<=409*x.1) (λx=>p.changes.length-x.1) (0,false,[]) ⟨zL,by show[]=p.deps++[];rw[VW];rfl,λ_=>rfl,zL⟩ kK wS oS ?_;rintro⟨k,b,L⟩ ⟨hk,hL,hb,hLl⟩;replace hk:k<=p.changes.length:=hk;replace hL:L=rH p k:=hL;replace hLl:L.length<=409*k:=hLl;refine cu (l:=p.changes) (f:=cC) (λhlt=>?_) (λhge=>?_);obtain⟨q1,q7,qo⟩:=Ke p.changes[k] (aT _);have xl:=FM hlt;have gP:(p.changes.map cC)[((k:Nat):Int).toNat]?=some (cC p.changes[k]):=fh rfl hlt;generalize p.changes[k]=c at q1 q7 qo xl gP;have hrl:=IQ c;rw[<-hL]at xl;cases b with
  |false=>
   obtain rfl:L=[]:=hb rfl;refine⟨oO,_,gP,rfl,?_⟩;refine cl (wE c q1 q7 oO).dY (bW 44 (λx:Nat×Bool×List Dg=>[(1,.ptr 1 0),(3,match x.2.1 with|true=>.fT 37 33 32|false=>.full []),(15,.p (.sl (p.changes.map cC))),(16,.p (.int .i64 ((p.changes.map cC).length:Int))),(17,.p (.int .i64 k)),(22,.p (.sl ((di c).map (DV c)))),(23,.p (.int .i64 (((di c).map (DV c)).length:Int))),(24,.p (.int .i64 x.1))]) (λx=>(1,aI (cP p))::(match x.2.1 with|true=>[(37,cM x.2.2)]|false=>[])) (λx=>x.1<=(di c).length/\x.2.2=oK c x.1/\(x.2.1=false->x.2.2=[])) (λx=>(di c).length-x.1) (0,false,[]) ⟨zL,rfl,λ_=>rfl⟩ kK wS oS ?_);rintro⟨j,b,M⟩ ⟨hj,hM,AZ⟩;replace hj:j<=(di c).length:=hj;replace hM:M=oK c j:=hM;have hMl:=EK c j;refine cu (l:=di c) (f:=DV c) (λdw=>?_) (λox=>?_);have oN:=Bs dw;have lK:((di c).map (DV c))[((j:Nat):Int).toNat]?=some (DV c (di c)[j]):=fh rfl dw;generalize(di c)[j]=xe at oN lK;obtain⟨x,n⟩:=xe;obtain⟨g,cap,hfn⟩:∃g cap,fnK c n=.fn (.func g) [] cap:=by unfold fnK;by_cases hn:n<185;exact⟨n,[],af hn⟩;exact⟨n,[.imp (cC c)],aa hn⟩
   replace lK:((di c).map (DV c))[((j:Nat):Int).toNat]?=some (cI x++[fnK c n]):=lK;rw[hfn]at lK;replace oN:oK c (j+1)=oK c j++(if x.p=bg then[]else[x.p]):=oN;cases b with
   |false=>obtain rfl:M=[]:=AZ rfl;refine⟨oO,_,lK,rfl,?_⟩;refine cl (fG x).dY (bR ?_);by_cases hz:x.p=bg;rw[ai hz];rw[af hz,aW]at oN;exact nx (j+1) (aU (j+1,false,[]) ⟨dw,by rw[oN];exact hM,λ_=>rfl⟩ (by show(di c).length-(j+1)<(di c).length-j;omega) kK wS oS);rw[ah hz];rw[aa hz]at oN;refine⟨kJ _ _,(λzs h=>by rw[aL.1 h];rfl),(show 1*32<=140737488355328 by decide),cM [x.p],rfl,?_⟩;exact nx (j+1) (aU (j+1,true,[x.p]) ⟨dw,by rw[oN,<-hM];rfl,(λh=>nomatch h)⟩ (by show(di c).length-(j+1)<(di c).length-j;omega) kK wS oS)
   |true=>refine⟨oO,_,lK,rfl,?_⟩;refine cl (fG x).dY (bR ?_);by_cases hz:x.p=bg;rw[ai hz];rw[af hz,aW]at oN;exact nx (j+1) (aU (j+1,true,M) ⟨dw,by rw[oN];exact hM,(λh=>nomatch h)⟩ (by show(di c).length-(j+1)<(di c).length-j;omega) kK wS ⟨aA kK,Qw 7 kK,trivial⟩);rw[ah hz];rw[aa hz]at oN;refine⟨M.length,by rw[mU,mU];exact dz M,(λzs h=>by rw[aL.1 h];rfl),by show(M.length+1)*32<=_;rw[hM];omega,cM (M++[x.p]),by rw[mU,mU];exact EH _ _ _,?_⟩;exact nx (j+1) (aU (j+1,true,M++[x.p]) ⟨dw,by rw[oN,hM],(λh=>nomatch h)⟩ (by show(di c).length-(j+1)<(di c).length-j;omega) kK wS oS)
   obtain rfl:j=(di c).length:=oO
   have hM2:M=rH p (k+1):=by rw[xl,hM];unfold oK Du;rw[aP];rfl
   cases b with
   |false=>obtain rfl:M=[]:=AZ rfl;exact nx (k+1) (aU (k+1,false,[]) ⟨hlt,hM2,(λ_=>rfl),zL⟩ mM kK wS oS)
   |true=>exact nx (k+1) (aU (k+1,true,M) ⟨hlt,hM2,(λh=>nomatch h),by show M.length<=409*(k+1);rw[hM];omega⟩ mM kK wS oS)
  |true=>
   refine⟨oO,_,gP,rfl,?_⟩;refine cl (wE c q1 q7 oO).dY ?_;refine bW 44 (λx:Nat×List Dg=>[(1,.ptr 1 0),(3,.fT 37 33 32),(15,.p (.sl (p.changes.map cC))),(16,.p (.int .i64 ((p.changes.map cC).length:Int))),(17,.p (.int .i64 k)),(22,.p (.sl ((di c).map (DV c)))),(23,.p (.int .i64 (((di c).map (DV c)).length:Int))),(24,.p (.int .i64 x.1))]) (λx=>[(1,aI (cP p)),(37,cM x.2)]) (λx=>x.1<=(di c).length/\x.2=L++oK c x.1) (λx=>(di c).length-x.1) (0,L) ⟨zL,by show L=L++[];rw[aW]⟩ kK wS ⟨aA kK,Qw 5 kK,trivial⟩ ?_;rintro⟨j,M⟩ ⟨hj,hM⟩;replace hj:j<=(di c).length:=hj;replace hM:M=L++oK c j:=hM;have hMl:=EK c j;refine cu (l:=di c) (f:=DV c) (λdw=>?_) (λox=>?_);have oN:=Bs dw;have lK:((di c).map (DV c))[((j:Nat):Int).toNat]?=some (DV c (di c)[j]):=fh rfl dw;generalize(di c)[j]=xe at oN lK;obtain⟨x,n⟩:=xe;obtain⟨g,cap,hfn⟩:∃g cap,fnK c n=.fn (.func g) [] cap:=by unfold fnK;by_cases hn:n<185;exact⟨n,[],af hn⟩;exact⟨n,[.imp (cC c)],aa hn⟩
   replace lK:((di c).map (DV c))[((j:Nat):Int).toNat]?=some (cI x++[fnK c n]):=lK;rw[hfn]at lK;refine⟨oO,_,lK,rfl,?_⟩;refine cl (fG x).dY (bR ?_);replace oN:oK c (j+1)=oK c j++(if x.p=bg then[]else[x.p]):=oN;by_cases hz:x.p=bg;rw[ai hz];rw[af hz,aW]at oN;exact nx (j+1) (aU (j+1,M) ⟨dw,by rw[oN];exact hM⟩ (by show(di c).length-(j+1)<(di c).length-j;omega) kK wS ⟨aA kK,Qw 7 kK,trivial⟩);rw[ah hz];rw[aa hz]at oN;refine⟨M.length,by rw[mU,mU];exact dz M,(λzs h=>by rw[aL.1 h];rfl),by show(M.length+1)*32<=_;rw[hM,ay];omega,cM (M++[x.p]),by rw[mU,mU];exact EH _ _ _,?_⟩;exact nx (j+1) (aU (j+1,M++[x.p]) ⟨dw,by rw[oN,hM,bl]⟩ (by show(di c).length-(j+1)<(di c).length-j;omega) kK wS oS);obtain rfl:j=(di c).length:=oO
   have hM2:M=rH p (k+1):=by rw[xl,hM];unfold oK Du;rw[aP]
   exact nx (k+1) (aU (k+1,true,M) ⟨hlt,hM2,(λh=>nomatch h),by show M.length<=409*(k+1);rw[hM,ay];omega⟩ mM kK wS oS)
  obtain rfl:k=p.changes.length:=oO
  have hLn:Bt p=L:=by rw[hL];unfold rH Bt;rw[aP]
  rw[hLn];have hLb:L.length<=2^40:=oO
  cases b with
  |false=>obtain rfl:L=[]:=hb rfl;refine cl (NB 75).dY (.inl ⟨_,Tryz.func115,rfl,rfl,rfl,aQ (λ_=>?_) (λh2=>absurd (show(0:Int)<2 by decide) h2)⟩);exact ee 44 [(43,.full [])] [] kK wS trivial (.inr (.inr (by rw[show AK ([]:List Dg)=[]from by simp[AK]];rfl)))
  |true=>
   refine .inr (.inr (Ds rfl rfl (bu _) (IM _ rfl L hLb) λr ys hr=>?_));obtain⟨rfl,rfl⟩:=hr;have Rw:=Lv L;generalize AK L=l at Rw⊢;have afo:(cT l).length<=l.length:=EJ l;refine .inl ⟨_,Tryz.func115,rfl,rfl,rfl,l.length,by exact dz l,?_⟩;refine aQ (λh2=>?_) (λh2=>?_);have h2:l.length<2:=by have :(l.length:Int)<2:=h2;omega
   have hc:cT l=l:=by
    match l,h2 with
     |[],_=>rfl
     |[_],_=>rfl
   rw[hc];exact ee 44 [(1,.ptr 1 0),(43,.fT 37 33 32)] [(37,cM l)] kK wS oS ⟨tK l,uk,bu _,.inl rfl⟩;have h2:2<=l.length:=by have :¬(l.length:Int)<2:=h2;omega
   refine CH 61 1000 (λk:Nat=>[(0,.fT 37 33 32),(3,.p (.int .i64 k))]) (λ_=>[(37,cM l)]) (λ_=>[(44,0,[(1,.ptr 1 0)])]) [] (λ_=>[]) (λk=>1<=k/\k<=l.length/\cT (l.take k)=l.take k) (λk=>l.length-k) 1 ⟨av _,oO,by(match l,h2 with|a::l,_=>rfl)⟩ kK wS oS ⟨rfl,wS,trivial⟩ trivial ?_;rintro k ⟨Sg,hk,hck⟩;refine⟨l.length,by exact dz l,?_⟩;refine aQ (λhlt=>?_) (λhge=>?_);rotate_left;obtain rfl:k=l.length:=by have :¬(k:Int)<(l.length:Int):=hge;omega
   rw[aP]at hck;rw[hck];exact ee 44 [(1,.ptr 1 0),(43,.fT 37 33 32)] [(37,cM l)] kK wS oS ⟨tK l,uk,bu _,.inl rfl⟩;have hlt:k<l.length:=by have :(k:Int)<(l.length:Int):=hlt;omega
   have hct:=wM (oO:0<k) hlt;have hrl:=dz l;refine cw 10 kK ?_;refine⟨k,k*32,rfl,rfl,by rw[hrl];omega,?_⟩;refine⟨_,aI (cD l[k]),_,GK hlt,by rw[dz,aN];congr 1;omega,?_⟩;refine nx (k-1) ?_;refine⟨k-1,(k-1)*32,rfl,rfl,by rw[hrl];omega,?_⟩;refine⟨_,aI (cD l[k-1]),_,GK (oO:k-1<l.length),by rw[dz,aN];congr 1;omega,?_⟩;refine⟨vp,cR,uf,rfl,rfl,CR (a:=l[k]) (b:=l[k-1]) ?_⟩;by_cases he:l[k]=l[k-1];rotate_left;rw[ah he];rw[aa (cU he),hck,<-bQ hlt]at hct;exact nx (k+1) (rE (k+1) ⟨oO,hlt,hct⟩ oO kK wS oS ⟨rfl,wS,trivial⟩ trivial);rw[ai he];rw[af he.symm,hck]at hct;refine⟨k,l.length,rfl,by exact dz l,oO,?_⟩;refine CH 61 1000 (λx:Nat×List Dg×List Dg=>[(0,.fT 37 33 32),(4,.sY 37 k 33 32),(3,.p (.int .i64 (x.2.1.length:Int))),(5,.p (.int .i64 x.1))]) (λx=>[(37,cM (x.2.1++x.2.2++l.drop (k+x.1-1)))]) (λ_=>[(44,0,[(1,.ptr 1 0)])]) [] (λ_=>[]) (λx=>1<=x.1/\k+x.1<=l.length/\cT (l.take (k+x.1))=x.2.1/\x.2.1.length+x.2.2.length=k+x.1-1) (λx=>l.length-(k+x.1)) (1,l.take k,[]) ⟨av _,hlt,hct,by show(l.take k).length+0=k+1-1;rw[aN];omega⟩ kK ⟨bt.eq kK,bt.eq kK,bt.eq (by rw[aN,wO hk];kernel_rfl),bt.eq kK,trivial⟩ ⟨(by rw[show l.take k++[]++l.drop (k+1-1)=l from by rw[aW,sE,dU]];exact aA kK),trivial⟩ ⟨rfl,wS,trivial⟩ trivial ?_;rintro⟨q,K,M⟩ ⟨hq1,hq,hK,hKM⟩;replace hq:k+q<=l.length:=hq;replace hK:cT (l.take (k+q))=K:=hK;replace hKM:K.length+M.length=k+q-1:=hKM;replace hq1:1<=q:=hq1;have Bu:(cM (K++M++l.drop (k+q-1))).length=l.length*32:=by rw[dz,ay,ay,eo];congr 1;omega
   refine⟨l.length-k,by rw[show(cM (K++M++l.drop (k+q-1))).length=l.length*32 from Bu];congr 1;omega,?_⟩;refine aQ (λdw=>?_) (λox=>?_);have dw:k+q<l.length:=by have :(q:Int)<((l.length-k:Nat):Int):=dw;omega
   have Bv:=wM (oO:0<k+q) dw;rw[hK]at Bv;have Oc:l.drop (k+q-1)=l[k+q-1]::(l[k+q]::l.drop (k+q+1)):=by rw[bM (oO:k+q-1<l.length),show k+q-1+1=k+q from oO,bM dw]
   have hd2:l.drop (k+q)=l[k+q]::l.drop (k+q+1):=bM dw;generalize l[k+q]=x at Bv Oc hd2;generalize l[k+q-1]=y at Bv Oc;generalize l.drop (k+q+1)=R at Oc hd2;have hr1:cM (K++M++l.drop (k+q-1))=cM (K++M++[y])++(aI (cD x)++cM R):=by rw[Oc,<-qD,<-jI];simp
   have hr0:cM (K++M++l.drop (k+q-1))=cM (K++M)++(aI (cD y)++cM (x::R)):=by rw[Oc,<-qD,<-jI]
   have NF:(K++M).length=k+q-1:=by rw[ay];exact hKM
   refine cw 10 kK ?_;refine⟨q,(k+q)*32,rfl,rfl,by rw[Bu];omega,?_⟩;refine⟨_,aI (cD x),_,hr1,by rw[dz,ay,NF];show(k+q-1+1)*32=_;congr 1;omega,?_⟩;refine nx (q-1) ?_;refine⟨q-1,(k+q-1)*32,rfl,by congr 1;omega,by rw[Bu];omega,?_⟩;refine⟨_,aI (cD y),_,hr0,by rw[dz,NF],?_⟩;refine⟨vp,cR,uf,rfl,rfl,qX (a:=x) (b:=y) ?_⟩;obtain⟨e,M2,hM2⟩:∃e M2,M++[y]=e::M2:=by
    cases M with
    |nil=>exact⟨y,[],rfl⟩
    |cons a M=>exact⟨a,M++[y],rfl⟩
   have ak1:M.length=M2.length:=by have :=aV List.length hM2;simpa using this
   by_cases hxy:x=y;rw[ai hxy];rw[af hxy.symm]at Bv;exact nx (q+1) (rE (q+1,K,M++[y]) ⟨oO,dw,Bv,by show K.length+(M++[y]).length=k+(q+1)-1;rw[ay];simp only[gZ];omega⟩ (by show l.length-(k+(q+1))<l.length-(k+q);omega) kK wS ⟨(by rw[show K++(M++[y])++l.drop (k+(q+1)-1)=K++M++l.drop (k+q-1)from by rw[show k+(q+1)-1=k+q from oO,hd2,Oc];simp];exact aA kK),trivial⟩ ⟨rfl,wS,trivial⟩ trivial);rw[ah hxy];rw[aa (cU hxy)]at Bv;refine⟨q,(k+q)*32,rfl,rfl,by rw[Bu];omega,?_⟩;refine⟨_,aI (cD x),_,hr1,by rw[dz,ay,NF];show(k+q-1+1)*32=_;congr 1;omega,?_⟩;refine⟨K.length,K.length*32,rfl,rfl,by rw[Bu];omega,?_⟩;have Zm:cM (K++M++l.drop (k+q-1))=cM K++(aI (cD e)++cM (M2++x::R)):=by rw[Oc,show K++M++y::x::R=K++((M++[y])++x::R)from by simp,hM2,jI,cr,qD]
   refine⟨cM K,aI (cD e),cM (M2++x::R),Zm,dz K,?_⟩;refine⟨cM (K++[x]++(M2++l.drop (k+q))),by rw[hd2];exact(show cM (K++[x]++(M2++x::R))=cM K++(aI (cD x)++cM (M2++x::R))from by rw[jI (K++[x]),jI K,Dt,bl]).symm,?_⟩;refine⟨((K.length+1:Nat):Int),(show IntKind.i64.wrap ((K.length:Int)+1)=_ from by rw[ay]at NF;rw[wrap64 oO oO];omega),?_⟩;exact nx (q+1) (rE (q+1,K++[x],M2) ⟨oO,dw,Bv,by show(K++[x]).length+M2.length=k+(q+1)-1;rw[ay];simp only[gZ];omega⟩ (by show l.length-(k+(q+1))<l.length-(k+q);omega) kK ⟨bt.eq kK,bt.eq kK,bt.eq (by rw[ay];kernel_rfl),bt.eq kK,trivial⟩ ⟨(by rw[show K++[x]++M2++l.drop (k+(q+1)-1)=K++[x]++(M2++l.drop (k+q))from by rw[show k+(q+1)-1=k+q from oO,bl (K++[x])]];exact aA kK),trivial⟩ ⟨rfl,wS,trivial⟩ trivial);obtain rfl:q=l.length-k:=by have :¬(q:Int)<((l.length-k:Nat):Int):=ox;omega
   rw[show k+(l.length-k)=l.length from oO,aP]at hK;subst hK;refine⟨(cT l).length,l.length,rfl,by rw[show(cM (cT l++M++l.drop (k+(l.length-k)-1))).length=l.length*32 from Bu],oO,?_⟩;refine⟨rfl,l.length-(cT l).length,by rw[show(cM (cT l++M++l.drop (k+(l.length-k)-1))).length=l.length*32 from Bu];congr 1;omega,_,rfl,?_⟩;have htk:(cM (cT l++M++l.drop (k+(l.length-k)-1))).take ((cT l).length*32)=cM (cT l):=by rw[bl,jI];exact Lu _ _
   refine⟨(cT l).length,l.length,rfl,by rw[show(List.take ((cT l).length*32) (cM (cT l++M++l.drop (k+(l.length-k)-1))))=cM (cT l)from htk,ay,dz,(pe _ _).1];show(cT l).length*32+(l.length-(cT l).length)*32=l.length*32;omega,oO,cM (cT l),?_,?_⟩;rw[show(List.take ((cT l).length*32) (cM (cT l++M++l.drop (k+(l.length-k)-1))))=cM (cT l)from htk,rS (by rw[dz];exact av _),fe (by rw[dz];exact av _)];exact mU _ _;exact ee 44 [(1,.ptr 1 0),(43,.fT 37 33 32)] [(37,cM (cT l))] kK wS oS ⟨tK (cT l),uk,bu _,.inl rfl⟩
 refine⟨0,rfl,(λzs hz=>(uk zs hz).1),by show(0+(tK p.deps).length)*32<=_;rw[show(tK p.deps).length=p.deps.length from by simp[tK]];omega,cM p.deps,by show FV.dJ _ (([]:List FV)++cM p.deps)=cM p.deps;rw[dS];exact mU _ _,?_⟩;refine ee 44 [(1,.ptr 1 0),(13,.fT 1005 33 32)] [(1,aI (cP p)),(1005,cM p.deps)] kK wS oS ?_;refine bW 44 (λx:Nat×List Dg=>[(1,.ptr 1 0),(3,.fT 1005 33 32),(15,.p (.sl (p.changes.map cC))),(16,.p (.int .i64 ((p.changes.map cC).length:Int))),(17,.p (.int .i64 x.1))]) (λx=>[(1,aI (cP p)),(1005,cM x.2)]) (λx=>x.1<=p.changes.length/\x.2=rH p x.1/\x.2.length<=100+409*x.1) (λx=>p.changes.length-x.1) (0,p.deps) ⟨zL,by show p.deps=p.deps++[];rw[aW],oO⟩ kK wS oS ?_;rintro⟨k,L⟩ ⟨hk,hL,hLl⟩;replace hk:k<=p.changes.length:=hk;replace hL:L=rH p k:=hL;replace hLl:L.length<=100+409*k:=hLl;refine cu (l:=p.changes) (f:=cC) (λhlt=>?_) (λhge=>?_);obtain⟨q1,q7,qo⟩:=Ke p.changes[k] (aT _);have xl:=FM hlt;have gP:(p.changes.map cC)[((k:Nat):Int).toNat]?=some (cC p.changes[k]):=fh rfl hlt;generalize p.changes[k]=c at q1 q7 qo xl gP;have hrl:=IQ c;rw[<-hL]at xl;refine⟨oO,_,gP,rfl,?_⟩;refine cl (wE c q1 q7 oO).dY ?_;refine bW 44 (λx:Nat×List Dg=>[(1,.ptr 1 0),(3,.fT 1005 33 32),(15,.p (.sl (p.changes.map cC))),(16,.p (.int .i64 ((p.changes.map cC).length:Int))),(17,.p (.int .i64 k)),(22,.p (.sl ((di c).map (DV c)))),(23,.p (.int .i64 (((di c).map (DV c)).length:Int))),(24,.p (.int .i64 x.1))]) (λx=>[(1,aI (cP p)),(1005,cM x.2)]) (λx=>x.1<=(di c).length/\x.2=L++oK c x.1) (λx=>(di c).length-x.1) (0,L) ⟨zL,by show L=L++[];rw[aW]⟩ kK wS ⟨aA kK,Qw 5 kK,trivial⟩ ?_;rintro⟨j,M⟩ ⟨hj,hM⟩;replace hj:j<=(di c).length:=hj;replace hM:M=L++oK c j:=hM;have hMl:=EK c j;refine cu (l:=di c) (f:=DV c) (λdw=>?_) (λox=>?_);have oN:=Bs dw;have lK:((di c).map (DV c))[((j:Nat):Int).toNat]?=some (DV c (di c)[j]):=fh rfl dw;generalize(di c)[j]=xe at oN lK;obtain⟨x,n⟩:=xe;obtain⟨g,cap,hfn⟩:∃g cap,fnK c n=.fn (.func g) [] cap:=by unfold fnK;by_cases hn:n<185;exact⟨n,[],af hn⟩;exact⟨n,[.imp (cC c)],aa hn⟩
 replace lK:((di c).map (DV c))[((j:Nat):Int).toNat]?=some (cI x++[fnK c n]):=lK;rw[hfn]at lK;refine⟨oO,_,lK,rfl,?_⟩;refine cl (fG x).dY (bR ?_);replace oN:oK c (j+1)=oK c j++(if x.p=bg then[]else[x.p]):=oN;by_cases hz:x.p=bg;rw[ai hz];rw[af hz,aW]at oN;exact nx (j+1) (aU (j+1,M) ⟨dw,by rw[oN];exact hM⟩ (by show(di c).length-(j+1)<(di c).length-j;omega) kK wS ⟨aA kK,Qw 7 kK,trivial⟩);rw[ah hz];rw[aa hz]at oN;refine⟨M.length,by rw[mU,mU];exact dz M,(λzs h=>by rw[aL.1 h];rfl),by show(M.length+1)*32<=_;rw[hM,ay];omega,cM (M++[x.p]),by rw[mU,mU];exact EH _ _ _,?_⟩;exact nx (j+1) (aU (j+1,M++[x.p]) ⟨dw,by rw[oN,hM,bl]⟩ (by show(di c).length-(j+1)<(di c).length-j;omega) kK wS oS);obtain rfl:j=(di c).length:=oO
 have hM2:M=rH p (k+1):=by rw[xl,hM];unfold oK Du;rw[aP]
 exact nx (k+1) (aU (k+1,M) ⟨hlt,hM2,by show M.length<=100+409*(k+1);rw[hM,ay];omega⟩ mM kK wS oS);obtain rfl:k=p.changes.length:=oO
 have hLn:Bt p=L:=by rw[hL];unfold rH Bt;rw[aP]
 rw[hLn];have hLb:L.length<=2^40:=oO
 refine .inr (.inr (Ds rfl rfl (bu _) (IM _ rfl L hLb) λr ys hr=>?_));obtain⟨rfl,rfl⟩:=hr;have Rw:=Lv L;generalize AK L=l at Rw⊢;have afo:(cT l).length<=l.length:=EJ l;refine .inl ⟨_,Tryz.func115,rfl,rfl,rfl,l.length,by exact dz l,?_⟩;refine aQ (λh2=>?_) (λh2=>?_);have h2:l.length<2:=by have :(l.length:Int)<2:=h2;omega
 have hc:cT l=l:=by
  match l,h2 with
   |[],_=>rfl
   |[_],_=>rfl
 rw[hc];exact ee 44 [(1,.ptr 1 0),(43,.fT 1005 33 32)] [(1005,cM l)] kK wS oS ⟨tK l,uk,bu _,.inl rfl⟩;have h2:2<=l.length:=by have :¬(l.length:Int)<2:=h2;omega
 refine CH 61 1000 (λk:Nat=>[(0,.fT 1005 33 32),(3,.p (.int .i64 k))]) (λ_=>[(1005,cM l)]) (λ_=>[(44,0,[(1,.ptr 1 0)])]) [] (λ_=>[]) (λk=>1<=k/\k<=l.length/\cT (l.take k)=l.take k) (λk=>l.length-k) 1 ⟨av _,oO,by(match l,h2 with|a::l,_=>rfl)⟩ kK wS oS ⟨rfl,wS,trivial⟩ trivial ?_;rintro k ⟨Sg,hk,hck⟩;refine⟨l.length,by exact dz l,?_⟩;refine aQ (λhlt=>?_) (λhge=>?_);rotate_left;obtain rfl:k=l.length:=by have :¬(k:Int)<(l.length:Int):=hge;omega
 rw[aP]at hck;rw[hck];exact ee 44 [(1,.ptr 1 0),(43,.fT 1005 33 32)] [(1005,cM l)] kK wS oS ⟨tK l,uk,bu _,.inl rfl⟩;have hlt:k<l.length:=by have :(k:Int)<(l.length:Int):=hlt;omega
 have hct:=wM (oO:0<k) hlt;have hrl:=dz l;refine cw 10 kK ?_;refine⟨k,k*32,rfl,rfl,by rw[hrl];omega,?_⟩;refine⟨_,aI (cD l[k]),_,GK hlt,by rw[dz,aN];congr 1;omega,?_⟩;refine nx (k-1) ?_;refine⟨k-1,(k-1)*32,rfl,rfl,by rw[hrl];omega,?_⟩;refine⟨_,aI (cD l[k-1]),_,GK (oO:k-1<l.length),by rw[dz,aN];congr 1;omega,?_⟩;refine⟨vp,cR,uf,rfl,rfl,CR (a:=l[k]) (b:=l[k-1]) ?_⟩;by_cases he:l[k]=l[k-1];rotate_left;rw[ah he];rw[aa (cU he),hck,<-bQ hlt]at hct;exact nx (k+1) (rE (k+1) ⟨oO,hlt,hct⟩ oO kK wS oS ⟨rfl,wS,trivial⟩ trivial);rw[ai he];rw[af he.symm,hck]at hct;refine⟨k,l.length,rfl,by exact dz l,oO,?_⟩;refine CH 61 1000 (λx:Nat×List Dg×List Dg=>[(0,.fT 1005 33 32),(4,.sY 1005 k 33 32),(3,.p (.int .i64 (x.2.1.length:Int))),(5,.p (.int .i64 x.1))]) (λx=>[(1005,cM (x.2.1++x.2.2++l.drop (k+x.1-1)))]) (λ_=>[(44,0,[(1,.ptr 1 0)])]) [] (λ_=>[]) (λx=>1<=x.1/\k+x.1<=l.length/\cT (l.take (k+x.1))=x.2.1/\x.2.1.length+x.2.2.length=k+x.1-1) (λx=>l.length-(k+x.1)) (1,l.take k,[]) ⟨av _,hlt,hct,by show(l.take k).length+0=k+1-1;rw[aN];omega⟩ kK ⟨bt.eq kK,bt.eq kK,bt.eq (by rw[aN,wO hk];kernel_rfl),bt.eq kK,trivial⟩ ⟨(by rw[show l.take k++[]++l.drop (k+1-1)=l from by rw[aW,sE,dU]];exact aA kK),trivial⟩ ⟨rfl,wS,trivial⟩ trivial ?_;rintro⟨q,K,M⟩ ⟨hq1,hq,hK,hKM⟩;replace hq:k+q<=l.length:=hq;replace hK:cT (l.take (k+q))=K:=hK;replace hKM:K.length+M.length=k+q-1:=hKM;replace hq1:1<=q:=hq1;have Bu:(cM (K++M++l.drop (k+q-1))).length=l.length*32:=by rw[dz,ay,ay,eo];congr 1;omega
 refine⟨l.length-k,by rw[show(cM (K++M++l.drop (k+q-1))).length=l.length*32 from Bu];congr 1;omega,?_⟩;refine aQ (λdw=>?_) (λox=>?_);have dw:k+q<l.length:=by have :(q:Int)<((l.length-k:Nat):Int):=dw;omega
 have Bv:=wM (oO:0<k+q) dw;rw[hK]at Bv;have Oc:l.drop (k+q-1)=l[k+q-1]::(l[k+q]::l.drop (k+q+1)):=by rw[bM (oO:k+q-1<l.length),show k+q-1+1=k+q from oO,bM dw]
 have hd2:l.drop (k+q)=l[k+q]::l.drop (k+q+1):=bM dw;generalize l[k+q]=x at Bv Oc hd2;generalize l[k+q-1]=y at Bv Oc;generalize l.drop (k+q+1)=R at Oc hd2;have hr1:cM (K++M++l.drop (k+q-1))=cM (K++M++[y])++(aI (cD x)++cM R):=by rw[Oc,<-qD,<-jI];simp
 have hr0:cM (K++M++l.drop (k+q-1))=cM (K++M)++(aI (cD y)++cM (x::R)):=by rw[Oc,<-qD,<-jI]
 have NF:(K++M).length=k+q-1:=by rw[ay];exact hKM
 refine cw 10 kK ?_;refine⟨q,(k+q)*32,rfl,rfl,by rw[Bu];omega,?_⟩;refine⟨_,aI (cD x),_,hr1,by rw[dz,ay,NF];show(k+q-1+1)*32=_;congr 1;omega,?_⟩;refine nx (q-1) ?_;refine⟨q-1,(k+q-1)*32,rfl,by congr 1;omega,by rw[Bu];omega,?_⟩;refine⟨_,aI (cD y),_,hr0,by rw[dz,NF],?_⟩;refine⟨vp,cR,uf,rfl,rfl,qX (a:=x) (b:=y) ?_⟩;obtain⟨e,M2,hM2⟩:∃e M2,M++[y]=e::M2:=by
  cases M with
  |nil=>exact⟨y,[],rfl⟩
  |cons a M=>exact⟨a,M++[y],rfl⟩
 have ak1:M.length=M2.length:=by have :=aV List.length hM2;simpa using this
 by_cases hxy:x=y;rw[ai hxy];rw[af hxy.symm]at Bv;exact nx (q+1) (rE (q+1,K,M++[y]) ⟨oO,dw,Bv,by show K.length+(M++[y]).length=k+(q+1)-1;rw[ay];simp only[gZ];omega⟩ (by show l.length-(k+(q+1))<l.length-(k+q);omega) kK wS ⟨(by rw[show K++(M++[y])++l.drop (k+(q+1)-1)=K++M++l.drop (k+q-1)from by rw[show k+(q+1)-1=k+q from oO,hd2,Oc];simp];exact aA kK),trivial⟩ ⟨rfl,wS,trivial⟩ trivial);rw[ah hxy];rw[aa (cU hxy)]at Bv;refine⟨q,(k+q)*32,rfl,rfl,by rw[Bu];omega,?_⟩;refine⟨_,aI (cD x),_,hr1,by rw[dz,ay,NF];show(k+q-1+1)*32=_;congr 1;omega,?_⟩;refine⟨K.length,K.length*32,rfl,rfl,by rw[Bu];omega,?_⟩;have Zm:cM (K++M++l.drop (k+q-1))=cM K++(aI (cD e)++cM (M2++x::R)):=by rw[Oc,show K++M++y::x::R=K++((M++[y])++x::R)from by simp,hM2,jI,cr,qD]
 refine⟨cM K,aI (cD e),cM (M2++x::R),Zm,dz K,?_⟩;refine⟨cM (K++[x]++(M2++l.drop (k+q))),by rw[hd2];exact(show cM (K++[x]++(M2++x::R))=cM K++(aI (cD x)++cM (M2++x::R))from by rw[jI (K++[x]),jI K,Dt,bl]).symm,?_⟩;refine⟨((K.length+1:Nat):Int),(show IntKind.i64.wrap ((K.length:Int)+1)=_ from by rw[ay]at NF;rw[wrap64 oO oO];omega),?_⟩;exact nx (q+1) (rE (q+1,K++[x],M2) ⟨oO,dw,Bv,by show(K++[x]).length+M2.length=k+(q+1)-1;rw[ay];simp only[gZ];omega⟩ (by show l.length-(k+(q+1))<l.length-(k+q);omega) kK ⟨bt.eq kK,bt.eq kK,bt.eq (by rw[ay];kernel_rfl),bt.eq kK,trivial⟩ ⟨(by rw[show K++[x]++M2++l.drop (k+(q+1)-1)=K++[x]++(M2++l.drop (k+q))from by rw[show k+(q+1)-1=k+q from oO,bl (K++[x])]];exact aA kK),trivial⟩ ⟨rfl,wS,trivial⟩ trivial);obtain rfl:q=l.length-k:=by have :¬(q:Int)<((l.length-k:Nat):Int):=ox;omega
 rw[show k+(l.length-k)=l.length from oO,aP]at hK;subst hK;refine⟨(cT l).length,l.length,rfl,by rw[show(cM (cT l++M++l.drop (k+(l.length-k)-1))).length=l.length*32 from Bu],oO,?_⟩;refine⟨rfl,l.length-(cT l).length,by rw[show(cM (cT l++M++l.drop (k+(l.length-k)-1))).length=l.length*32 from Bu];congr 1;omega,_,rfl,?_⟩;have htk:(cM (cT l++M++l.drop (k+(l.length-k)-1))).take ((cT l).length*32)=cM (cT l):=by rw[bl,jI];exact Lu _ _
 refine⟨(cT l).length,l.length,rfl,by rw[show(List.take ((cT l).length*32) (cM (cT l++M++l.drop (k+(l.length-k)-1))))=cM (cT l)from htk,ay,dz,(pe _ _).1];show(cT l).length*32+(l.length-(cT l).length)*32=l.length*32;omega,oO,cM (cT l),?_,?_⟩;rw[show(List.take ((cT l).length*32) (cM (cT l++M++l.drop (k+(l.length-k)-1))))=cM (cT l)from htk,rS (by rw[dz];exact av _),fe (by rw[dz];exact av _)];exact mU _ _;exact ee 44 [(1,.ptr 1 0),(43,.fT 1005 33 32)] [(1005,cM (cT l))] kK wS oS ⟨tK (cT l),uk,bu _,.inl rfl⟩
theorem QB {c:dH}(h:cF c=0){d:Dg}(hd:d≠bg):(∃x,x∈refsOf c/\x.p=d)↔∃e,e∈di c/\e.1.p=d:=by
 obtain⟨g1,g2,-,-,g5,-⟩:=fZ h;have hz:∀x:bB,x=aM->x.p≠d:=λx e q=>hd (by rw[<-q,e];rfl);have hr:∀x:bB,x=lD->x.p≠d:=λx e q=>hd (by rw[<-q,e];rfl);simp only[bN,aR,decide_eq_true_eq]at g5;obtain⟨e1,-,e3,-,-,-,e7,e8,-,e10⟩:=g5;have Ke:(∃e:bB×Nat,e∈(c.over.map λx=>((x,186):bB×Nat))/\e.1.p=d)↔∃x,x∈c.over/\x.p=d:=by constructor;rintro⟨e,he,hp⟩;obtain⟨x,hx,rfl⟩:=aB.1 he;exact⟨x,hx,hp⟩;rintro⟨x,hx,hp⟩;exact⟨(x,186),aB.2 ⟨x,hx,rfl⟩,hp⟩
 have hL:(∃x,x∈refsOf c/\x.p=d)↔c.file.p=d\/c.parent.p=d\/c.eH.p=d\/c.eY.p=d\/∃x,x∈c.over/\x.p=d:=by unfold refsOf;constructor;rintro⟨x,hx,hp⟩;rcases bf.1 hx with hx|hx;simp only[aC,gy,or_false]at hx;rcases hx with rfl|rfl|rfl|rfl;exact .inl hp;exact .inr (.inl hp);exact .inr (.inr (.inl hp));exact .inr (.inr (.inr (.inl hp)));exact .inr (.inr (.inr (.inr ⟨x,hx,hp⟩)));rintro(hp|hp|hp|hp|⟨x,hx,hp⟩);exact⟨_,by simp,hp⟩;exact⟨c.parent,by simp,hp⟩;exact⟨c.eH,by simp,hp⟩;exact⟨c.eY,by simp,hp⟩;exact⟨x,bf.2 (.inr hx),hp⟩
 rw[hL,<-Ke];have app:∀A B:List (bB×Nat),(∃e,e∈A++B/\e.1.p=d)↔(∃e,e∈A/\e.1.p=d)\/∃e,e∈B/\e.1.p=d:=λA B=>by constructor;rintro⟨e,he,hp⟩;rcases bf.1 he with he|he;exact .inl ⟨e,he,hp⟩;exact .inr ⟨e,he,hp⟩;rintro(⟨e,he,hp⟩|⟨e,he,hp⟩);exact⟨e,bf.2 (.inl he),hp⟩;exact⟨e,bf.2 (.inr he),hp⟩
 unfold di;rw[app,app,app];have aas:c.file.p=d↔∃e,e∈(if 2<=c.kind/\c.kind<=6 then[(c.file,if c.kind<=3 then 181 else if c.kind=4 then 182 else 183)]else([]:List (bB×Nat)))/\e.1.p=d:=by
  by_cases hk:2<=c.kind/\c.kind<=6;rw[af hk];simp;rw[aa hk];have hf:c.file=aM:=by
   have :c.kind=1\/c.kind=7:=oO
   rcases this with q|q;rw[Ez c q]at e1;exact e1;rw[It c q]at e1;exact e1
  exact⟨λq=>absurd q (hz _ hf),λ⟨e,he,_⟩=>by cases he⟩
 have hpar:c.parent.p=d↔∃e,e∈(if c.kind=2/\c.parent≠lD then[(c.parent,184)]else([]:List (bB×Nat)))/\e.1.p=d:=by
  by_cases hk:c.kind=2/\c.parent≠lD;rw[af hk];simp;rw[aa hk];refine⟨λq=>?_,λ⟨e,he,_⟩=>by cases he⟩;by_cases q2:c.kind=2;exact absurd q (hr _ (cK.1 λq3=>hk ⟨q2,q3⟩));have hf:c.parent=aM:=by
   have :c.kind=1\/c.kind=3\/c.kind=4\/c.kind=5\/c.kind=6\/c.kind=7:=oO
   rcases this with q|q|q|q|q|q;rw[Ez c q]at e3;exact e3;rw[SB c q]at e3;exact e3;rw[Nh c q]at e3;exact e3;rw[SC c q]at e3;exact e3;rw[SD c q]at e3;exact e3;rw[It c q]at e3;exact e3
  exact absurd q (hz _ hf)
 have QC:(c.eH.p=d\/c.eY.p=d)↔∃e,e∈(if iS c.kind=true then[(c.eH,185),(c.eY,185)]else([]:List (bB×Nat)))/\e.1.p=d:=by
  by_cases hk:iS c.kind=true;rw[af hk];constructor;rintro(q|q);exact⟨(c.eH,185),by simp,q⟩;exact⟨(c.eY,185),by simp,q⟩;rintro⟨e,he,q⟩;simp only[aC,gy,or_false]at he;rcases he with rfl|rfl;exact .inl q;exact .inr q;rw[aa hk];have h56:¬c.kind=5/\¬c.kind=6:=by constructor<;>intro q<;>exact hk (by simp[iS,q])
  have hf:c.eH=aM/\c.eY=aM:=by
   have :c.kind=1\/c.kind=2\/c.kind=3\/c.kind=4\/c.kind=7:=oO
   rcases this with q|q|q|q|q;rw[Ez c q]at e7 e8;exact⟨e7,e8⟩;rw[SA c q]at e7 e8;exact⟨e7,e8⟩;rw[SB c q]at e7 e8;exact⟨e7,e8⟩;rw[Nh c q]at e7 e8;exact⟨e7,e8⟩;rw[It c q]at e7 e8;exact⟨e7,e8⟩
  exact⟨λq=>q.elim (λq=>absurd q (hz _ hf.1)) (λq=>absurd q (hz _ hf.2)),λ⟨e,he,_⟩=>by cases he⟩
 rw[<-aas,<-hpar,<-QC];constructor;rintro(q|q|q|q|q);exact .inl q;exact .inr (.inl q);exact .inr (.inr (.inl (.inl q)));exact .inr (.inr (.inl (.inr q)));exact .inr (.inr (.inr q));rintro(q|q|(q|q)|q);exact .inl q;exact .inr (.inl q);exact .inr (.inr (.inl q));exact .inr (.inr (.inr (.inl q)));exact .inr (.inr (.inr (.inr q)))
theorem zR {d:Dg}:∀{l:List bB}{acc:List Dg},d∈l.foldl Kc acc↔d∈acc\/(d≠bg/\∃x,x∈l/\x.p=d)
 |[],acc=>by simp
 |x::l,acc=>by have ih:=zR (d:=d) (l:=l) (acc:=Kc acc x);rw[fc,ih];unfold Kc;by_cases hx:x.p=bg;rw[af hx];constructor;rintro(h|⟨h,y,hy,e⟩);exact .inl h;exact .inr ⟨h,y,cg _ hy,e⟩;rintro(h|⟨h,y,hy,e⟩);exact .inl h;rcases aC.1 hy with rfl|hy;exact absurd (e.symm.trans hx) h;exact .inr ⟨h,y,hy,e⟩;rw[aa hx,IL];constructor;rintro((rfl|h)|⟨h,y,hy,e⟩);exact .inr ⟨hx,x,by simp,rfl⟩;exact .inl h;exact .inr ⟨h,y,cg _ hy,e⟩;rintro(h|⟨h,y,hy,e⟩);exact .inl (.inr h);rcases aC.1 hy with rfl|hy;exact .inl (.inl e.symm);exact .inr ⟨h,y,hy,e⟩
theorem IT {p:iA}(h:uY p):cT (AK (Bt p))=bU p:=by
 refine Qu (EG (SZ _)) (Xi p) λd=>?_;rw[zO,Xb];unfold bU Bt;rw[aa (λg=>g h.ok),bf,zR,WZ];have he:=h.UY.each;have hc:(∃c,c∈p.changes/\d∈Du c)↔d≠bg/\∃x,x∈p.changes.flatMap refsOf/\x.p=d:=by
  constructor;rintro⟨c,hc,hd⟩;unfold Du at hd;obtain⟨h1,h2⟩:=eC.1 hd;obtain⟨e,h3,h4⟩:=aB.1 h1;have hz:d≠bg:=by simpa using h2
  obtain⟨x,h5,h6⟩:=(QB (he c hc) hz).2 ⟨e,h3,h4⟩;exact⟨hz,x,gA.2 ⟨c,hc,h5⟩,h6⟩;rintro⟨hz,x,hx,hp⟩;obtain⟨c,hc,hx⟩:=gA.1 hx;obtain⟨e,h3,h4⟩:=(QB (he c hc) hz).1 ⟨x,hx,hp⟩;refine⟨c,hc,?_⟩;unfold Du;exact eC.2 ⟨aB.2 ⟨e,h3,h4⟩,by simpa using hz⟩
 rw[gA,<-hc];simp
inductive Reach (s:List fk)(p:Dg):Dg->Prop where|self:Reach s p p|step {d e:Dg}:Reach s p d->e∈ain s d->Reach s p e
theorem Lx {s:List fk}(hA:qF s):∀(n:Nat)(out:List Dg),(∀x,x∈s->x.id∈out->x.id∉bU x.pat)->∀x,x∈s->x.id∈wQ s n out->x.id∉bU x.pat
 |0,out,h=>h
 |n+1,out,h=>by
  unfold wQ;cases hf:s.find? (tE out)with
  |none=>exact h
  |some y=>refine Lx hA n _ λx hx hm=>?_;rcases bf.1 hm with hm|hm;exact h x hx hm;have hy:=kM hf;have hn:=jr hf;obtain rfl:=NG hA hx hy (aL.1 hm);unfold tE at hn;simp only[aR,cE,decide_eq_false_iff_not,oM,br,decide_eq_true_eq]at hn;exactλg=>hn.1 (hn.2 _ g)
theorem Vd {s:List fk}(h:OkS s){x:fk}(hx:x∈s):x.id∉bU x.pat:=by refine Lx h.GL s.length [] (λy _ hm=>by cases hm) x hx ?_;rw[GM h.GL];exact(zQ h x.id).2 (aB.2 ⟨x,hx,rfl⟩)
theorem Ly:∀(l:List dH)(own:List bO),Nt own->(kH l own).2=0->Nt (kH l own).1|[],own,h,_=>h|c::l,own,hn,h=>by rw[kU]at h⊢;by_cases h1:cF c≠0;rw[af h1]at h;exact absurd h h1;rw[aa h1]at h⊢;by_cases h2:oa c own≠0;rw[af h2]at h;exact absurd h h2;rw[aa h2]at h⊢;exact Ly l _ (Qn hn c) h
theorem IU {p:iA}(h:uY p):Nt (eM p).1:=by rw[h.UY.all];refine Ly _ _ (λn hn=>absurd hn (kC _)) ?_;rw[<-h.UY.all];exact h.Yz
theorem EM:∀{l:List bB},wz l=true->IK l|[],_=>List.Pairwise.nil|[_],_=>List.pairwise_singleton _ _|a::b::r,h=>by rw[wz,aR,decide_eq_true_eq]at h;have ih:=EM h.2;refine ct.2 ⟨λx hx=>?_,ih⟩;rcases aC.1 hx with rfl|hx;exact h.1;exact oA h.1 ((ct.1 ih).1 x hx)
theorem IV {c:dH}(h:cF c=0)(h5:c.kind≠5):wz c.over=true:=by
 unfold cF at h;by_cases h1:c.kind<1\/7<c.kind;rw[af h1]at h;exact absurd h dD;rw[aa h1]at h;by_cases h2:bN (fI c)=false;rw[af h2]at h;exact absurd h dD;rw[aa h2]at h;by_cases h3:c.kind=1/\(c.type<1\/4<c.type);rw[af h3]at h;exact absurd h dD;rw[aa h3]at h;by_cases h4:c.kind=2/\iq c.name=false;rw[af h4]at h;exact absurd h dD;rw[aa h4]at h;by_cases h6:c.kind=3/\(c.mode<0\/511<c.mode);rw[af h6]at h;exact absurd h dD;rw[aa h6]at h;by_cases h7:65536<c.data.length;rw[af h7]at h;exact absurd h dD;rw[aa h7,aa h5]at h;by_cases h8:c.kind=7/\c.over.length=0;rw[af h8]at h;exact absurd h dD;rw[aa h8]at h;by_cases h9:400<c.over.length;rw[af h9]at h;exact absurd h dD;rw[aa h9]at h;cases ha:wz c.over with
 |true=>rfl
 |false=>rw[ha,af rfl]at h;exact absurd h dD
theorem QD {c:dH}(h:cF c=0)(f:Nat):∀a,a∈dI c f->a.over=[]\/(a.over=c.over/\c.kind≠5):=by
 intro a ha;unfold dI at ha;by_cases e:c.kind=5;rw[af e]at ha;rcases bf.1 ha with ha|ha;obtain⟨i,-,rfl⟩:=aB.1 ha;exact .inl rfl;obtain⟨i,-,rfl⟩:=aB.1 ha;exact .inl rfl;rw[aa e]at ha;obtain rfl:=aL.1 ha;unfold kG;repeat' split
 all_goals first|exact .inr ⟨rfl,e⟩|exact .inl rfl
theorem Lz:∀(l:List dH)(own:List bO),(kH l own).2=0->∀a,a∈(kH l own).1->a∈own\/a.over=[]\/∃c,c∈l/\a.over=c.over/\wz c.over=true|[],own,_,a,ha=>.inl ha|c::l,own,h,a,ha=>by rw[kU]at h ha;by_cases h1:cF c≠0;rw[af h1]at h;exact absurd h h1;rw[aa h1]at h ha;by_cases h2:oa c own≠0;rw[af h2]at h;exact absurd h h2;rw[aa h2]at h ha;have h1:cF c=0:=cK.1 h1;rcases Lz l _ h a ha with q|q|⟨c',hc',q⟩;rcases bf.1 q with q|q;exact .inl q;rcases QD h1 _ a q with q|⟨q,h5⟩;exact .inr (.inl q);exact .inr (.inr ⟨c,by simp,q,IV h1 h5⟩);exact .inr (.inl q);exact .inr (.inr ⟨c',cg _ hc',q⟩)
theorem LA {α β:Type}{f:α->β}:∀{l:List α},l.Nodup->(∀x y,x∈l->y∈l->f x=f y->x=y)->(l.map f).Nodup|[],_,_=>nD|x::l,h,hi=>by rw[kA]at h;rw[bw,kA];refine⟨λhm=>?_,LA h.2 λa b ha hb=>hi a b (cg _ ha) (cg _ hb)⟩;obtain⟨y,hy,e⟩:=aB.1 hm;have :=hi y x (cg _ hy) (by simp) e;subst this;exact h.1 hy
theorem Tj {p:iA}(h:uY p){d:Dg}(hd:d∉bU p):∀a,a∈(eM p).1->(a.over.map λx=>bz x d).Nodup:=by
 intro a ha;have hz:(kH p.changes []).2=0:=by rw[<-h.UY.all];exact h.Yz
 rw[h.UY.all]at ha;rcases Lz _ _ hz a ha with q|q|⟨c,hc,q,Tk⟩;cases q;rw[q];exact nD;rw[q];have hn:∀x,x∈c.over->x.p≠bg->x.p∈bU p:=λx hx hp=>by unfold bU;rw[aa (λg=>g h.ok)];exact zR.2 (.inr ⟨hp,x,gA.2 ⟨c,hc,by unfold refsOf;exact bf.2 (.inr hx)⟩,rfl⟩)
 refine LA ((EM Tk).imp λ{a b} h e=>by subst e;exact mT a h) λx y hx hy e=>?_;have mixed:∀x y:bB,x∈c.over->¬(x.p=bg/\0<=x.n)->0<=y.n->x≠⟨d,y.n⟩:=λx y hx h1 h2 e=>by
  have hp:x.p=d:=by rw[e]
  have WQ:x.n=y.n:=by rw[e]
  have :x.p≠bg:=λg=>h1 ⟨g,by rw[WQ];exact h2⟩;exact hd (hp▸hn x hx this)
 unfold bz at e;by_cases h1:x.p=bg/\0<=x.n;rw[af h1]at e;by_cases h2:y.p=bg/\0<=y.n;rw[af h2]at e;injection e with _ e;cases x;cases y;simp_all;rw[aa h2]at e;exact absurd e.symm (mixed y x hy h2 h1.2);rw[aa h1]at e;by_cases h2:y.p=bg/\0<=y.n;rw[af h2]at e;exact absurd e (mixed x y hx h1 h2.2);rw[aa h2]at e;exact e
structure GO (s:List fk):Prop where
 fit:akF s
 ok:OkS s
 q:∀x,x∈s->uY x.pat
theorem GO.idE {s:List fk}(h:GO s){x:fk}(hx:x∈s):mA x.pat=(x.id,0):=h.ok.id x hx
def jJ (p:iA):List bO:=(wB p).1
theorem yY {p:iA}(h:uY p):jJ p=(eM p).1.map (iT (mA p).1):=by unfold jJ wB;rw[aa (show¬(mA p).2≠0 by rw[SX h.ok];simp)]
theorem adE {s:List fk}(h:GO s):adD jJ s:=λx hx=>by
 have hd:(mA x.pat).1∉bU x.pat:=by rw[h.idE hx];exact Vd h.ok hx
 rw[yY (h.q x hx)];exact Tg (h.q x hx) (Tj (h.q x hx) hd) (IU (h.q x hx))
theorem QE (d:Dg)(a:bO):(iT d a).id=⟨d,a.id.n⟩:=by
 unfold iT ZW Nk Nj st2 st1;repeat' split
 all_goals rfl
theorem NH {α β:Type}{f:α->β}{l:List β}{m:List α}(e:l=m.map f)(n:Nat)(h1:n<l.length)(h2:n<m.length):l[n]=f m[n]:=by subst e;exact mg _
theorem Ve {s:List fk}(h:GO s){x:fk}(hx:x∈s)(n:Nat)(hn:n<(jJ x.pat).length):n<(eM x.pat).1.length:=by have e:=yY (h.q x hx);rw[e,aj]at hn;exact hn
theorem adF {s:List fk}(h:GO s){x:fk}(hx:x∈s)(n:Nat)(a b:bO)(h1:a=iT (mA x.pat).1 b)(h2:b.id=⟨bg,(n:Int)⟩):a.id=⟨x.id,(n:Int)⟩:=by have h3:=h.idE hx;rw[h1,QE,h2,h3]
theorem By {s:List fk}(h:GO s){x:fk}(hx:x∈s)(n:Nat)(hn:n<(jJ x.pat).length):(jJ x.pat)[n].id=⟨x.id,(n:Int)⟩:=adF h hx n _ _ (NH (yY (h.q x hx)) n hn (Ve h hx n hn)) (IU (h.q x hx) n (Ve h hx n hn))
theorem LB {d:Dg}{i j:Int}(h:i<j):gq ⟨d,i⟩ ⟨d,j⟩<0:=by unfold gq;rw[qC,aa dD,af h];decide
theorem Xj {x y:bB}(h:dA x.p y.p<0):gq x y<0:=by unfold gq;rw[af oO];exact h
structure zS where
 id:Dg
 dO:List Dg deriving DecidableEq,Inhabited
structure iI where
 pats:List zS
 atoms:List bO deriving DecidableEq,Inhabited
def jc (k:zS):List AV:=cD k.id++[.sl (tK k.dO)]
def iD (x:iI):List AV:=[.sl (x.pats.map jc),.sl (kB x.atoms)]
def nI:iI:=⟨[],[]⟩
def leK (a b:zS):Bool:=decide (dA a.id b.id<=0)
def leA (a b:bO):Bool:=decide (gq a.id b.id<=0)
def IW (x:iI)(d:Dg)(n:List Dg)(l:List bO):iI:=⟨x.pats.merge [⟨d,n⟩] leK,x.atoms.merge l leA⟩
def kO (x:iI)(p:fk):iI:=IW x p.id (bU p.pat) (jJ p.pat)
def aaJ (s:List fk):iI:=s.foldl kO nI
theorem yZ {α:Type}{le:α->α->Bool}{l:List α}:∀{A B:List α},(∀a,a∈A->∀b,b∈l->le a b=true)->(A++B).merge l le=A++B.merge l le
 |[],B,_=>rfl
 |a::A,B,h=>by
  have ih:=yZ (l:=l) (A:=A) (B:=B) λx hx=>h x (.tail _ hx);cases l with
  |nil=>simp
  |cons b l=>rw[cr,cr,Dx,af (h a (.head _) b (.head _)),ih]
theorem Bz {α:Type}{le:α->α->Bool}{B:List α}:∀{l:List α},(∀a,a∈B->∀b,b∈l->le a b=false)->B.merge l le=l++B
 |[],_=>by simp
 |b::l,h=>by
  have ih:=Bz (B:=B) (l:=l) λx hx y hy=>h x hx y (.tail _ hy);cases B with
  |nil=>simp
  |cons a B=>rw[Dx,aa (by rw[h a (.head _) b (.head _)];decide),ih];rfl
def knF (x:fk):zS:=⟨x.id,bU x.pat⟩
def rJ (s:List fk):iI:=⟨s.map knF,s.flatMap λx=>jJ x.pat⟩
theorem LC {a b:bB}(h:dA a.p b.p<0):gq a b<0:=by unfold gq;rw[af (show dA a.p b.p≠0 by omega)];exact h
theorem adI {a b:Dg}(h:a≠b)(h2:¬dA a b<0):dA b a<0:=by have :=lF a b;have h3:dA a b≠0:=λe=>h (jU e);omega
def adJ (s:List fk):Prop:=∀x,x∈s->∀a,a∈jJ x.pat->a.id.p=x.id
theorem IX {x:fk}(hx:∀a,a∈jJ x.pat->a.id.p=x.id):∀{s:List fk},qF s->adJ s->(∀y,y∈s->y.id≠x.id)->kO (rJ s) x=rJ (mQ s x)
 |[],_,_,_=>by simp[kO,IW,rJ,mQ,knF]
 |y::s,hA,ho,hn=>by
  have hA':=ct.1 hA;have ih:=IX hx (s:=s) hA'.2 (λz hz=>ho z (.tail _ hz)) (λz hz=>hn z (.tail _ hz));have hp:=aV iI.pats ih;have ha:=aV iI.atoms ih;simp only[kO,IW,rJ]at hp ha;unfold mQ;by_cases h:dA y.id x.id<0;rw[af h];simp only[kO,IW,rJ,bw,pR,iI.mk.injEq];refine⟨?_,?_⟩;have :=yZ (le:=leK) (l:=[⟨x.id,bU x.pat⟩]) (A:=[knF y]) (B:=s.map knF) (λa q b r=>by rw[aL.1 q,aL.1 r];exact ai (show dA y.id x.id<=0 by omega));rw[hp]at this;exact this;rw[yZ (le:=leA) (λa q b r=>by have :=LC (a:=a.id) (b:=b.id) (by rw[ho y (.head _) a q,hx b r];exact h);exact ai (show gq a.id b.id<=0 by omega)),ha];rw[aa h];have hlt:∀z,z∈y::s->dA x.id z.id<0:=λz hz=>by have h1:=adI (hn y (.head _)) h;rcases aC.1 hz with rfl|hz;exact h1;exact ic h1 (hA'.1 z hz)
  have e1:=Bz (le:=leK) (l:=[⟨x.id,bU x.pat⟩]) (B:=(y::s).map knF) (λa q b r=>by obtain⟨z,hz,rfl⟩:=aB.1 q;rw[aL.1 r];have :=hlt z hz;have :=lF x.id z.id;exact ah (show¬dA z.id x.id<=0 by omega));have e2:=Bz (le:=leA) (l:=jJ x.pat) (B:=(y::s).flatMap λz=>jJ z.pat) (λa q b r=>by obtain⟨z,hz,q⟩:=gA.1 q;have :=LC (a:=b.id) (b:=a.id) (by rw[ho z hz a q,hx b r];exact hlt z hz);have :=nB a.id b.id;exact ah (show¬gq a.id b.id<=0 by omega));unfold kO IW;simp only[rJ];rw[e1,e2];rfl
theorem QF:∀(l t:List fk),qF (t++l)->adJ (t++l)->l.foldl kO (rJ t)=rJ (t++l)
 |[],t,_,_=>by rw[aW];rfl
 |x::l,t,hA,ho=>by
  have hlt:∀y,y∈t->dA y.id x.id<0:=λy hy=>(sG.1 hA).2.2 y hy x (.head _);have h1:kO (rJ t) x=rJ (t++[x]):=by rw[IX (ho x (by simp)) (sG.1 hA).1 (λy hy=>ho y (by simp[hy])) (λy hy e=>by have :=hlt y hy;rw[e]at this;exact iu _ this)];have :=PW t [] x hlt;rw[aW]at this;rw[this];rfl
  rw[fc,h1,QF l (t++[x]) (by simpa using hA) (by simpa using ho)];simp
theorem Xk {s:List fk}(hA:qF s)(ho:adJ s):aaJ s=rJ s:=QF s [] hA ho
theorem adK {p:iA}(h:uY p):∀a,a∈jJ p->a.id.p=(mA p).1:=λa ha=>by rw[yY h]at ha;obtain⟨b,-,rfl⟩:=aB.1 ha;rw[QE]
theorem NI {s:List fk}(h:GO s):adJ s:=λx hx a ha=>by rw[adK (h.q x hx) a ha,h.idE hx]
def wR (f:bB)(b:bO):Bool:=decide (b.id=f)||gH f b
def fP (k:Int)(f:bB)(b:bO):Bool:=decide (k=7)||(decide (b.kind=k)&&decide (b.file=f))
def tF (a:bO):List (bB×(bO->Bool)):=(if a.kind≠1/\a.kind≠7 then[(a.file,bH a.kind)]else[])++((if a.kind=2/\a.parent≠lD then[(a.parent,lJ)]else[])++((if a.kind=6 then[(a.fr,wR a.file),(a.to,wR a.file)]else[])++a.over.map λi=>(i,fP a.kind a.file)))
def od (x:iI)(i:bB):Option bO:=x.atoms.find? λa=>decide (a.id=i)
def stepG (L:bB->Option bO)(d:Dg)(r:bB×(bO->Bool)):Int:=if r.1.p=d then 0 else match L r.1 with|none=>7|some b=>if r.2 b=true then 0 else 8
def oB (p:iA)(i:Nat):Nat:=((p.changes.take i).map λc=>(dI c 0).length).sum
def Dy (p:iA)(d:Dg)(l:List bO)(i:Nat):bO:=let a:=l.getD (oB p i) de;let c:=p.changes.getD i default;if c.kind=5 then⟨a.id,6,a.file,0,aM,[],0,[],[],bz c.eH d,bz c.eY d,[]⟩else a
def QG (x:iI)(p:fk):Int:=bk ((List.range p.pat.changes.length).flatMap λi=>(tF (Dy p.pat p.id (jJ p.pat) i)).map (stepG (od x) p.id))
def qb (x:iI):List Dg:=x.pats.map λk=>k.id
def BA (x:iI)(p:fk):iI×Int:=if(mA p.pat).2≠0 then(nI,(mA p.pat).2)else if(mA p.pat).1≠p.id then(nI,13)else if p.id∈qb x then(nI,6)else if oM (qb x) (bU p.pat)=false then(nI,19)else if QG x p≠0 then(nI,QG x p)else if 400<=x.pats.length then(nI,4)else(kO x p,0)
def aiq (x:iI×Int):AV:=.eS [.agg (iD x.1),.int .i64 x.2]
def gR {α:Type}(f:α->List AV)(l:List α):List FV:=aI (l.map f).flatten
section
variable {α:Type}{f:α->List AV}{e:Nat}
theorem gN (h:∀x,(f x).length=e)(l:List α):(gR f l).length=l.length*e:=by unfold gR;rw[iQ,gG (e:=e) λzs hz=>by obtain⟨x,-,rfl⟩:=aB.1 hz;exact h x];simp
theorem BF (l m:List α):gR f (l++m)=gR f l++gR f m:=by unfold gR;rw[aF,sD,er,er,er,aF]
theorem Xy (l:List α)(o:Nat):FV.dJ o (gR f l)=gR f l:=iZ o _
theorem GQ (l m:List α)(o:Nat):FV.dJ o (gR f l++aI (m.map f).flatten)=gR f (l++m):=by rw[BF];show FV.dJ o (gR f l++gR f m)=_;rw[<-BF];exact Xy _ _
end
theorem adT (x:zS)(y:AV)(h:y∈jc x):y.one=true:=br.1 (show(jc x).all AV.one=true from rfl) y h
theorem aa7 (l:List zS):∀ys,ys∈l.map jc->ys.length=33/\∀y,y∈ys->y.one=true:=by intro ys h;obtain⟨x,-,rfl⟩:=aB.1 h;exact⟨rfl,λy hy=>adT x y hy⟩
theorem qP {l:List zS}:∀ys,ys∈l.map jc->ys.length=33:=λys h=>(aa7 l ys h).1
theorem Aa {aD:List (Nat×List FV)}{o:Nat}{xs ys:List FV}{v v':FV}(h:Qv.getObj aD o=some (xs++[v]))(e:xs++[v']=ys)(hw:bt v v'):∃zs,Qv.getObj aD o=some zs/\zs.length=ys.length/\∀(i:Nat)(x y:FV),zs[i]?=some x->ys[i]?=some y->bt x y:=by
 subst e;refine⟨_,h,by simp,λi x y h1 h2=>?_⟩;by_cases hi:i<xs.length;rw[cV hi]at h1 h2;rw[h1]at h2;obtain rfl:=ak h2;exact bt.refl _;rw[eu oO]at h1 h2;cases hj:i-xs.length with
 |zero=>rw[hj]at h1 h2;cases h1;cases h2;exact hw
 |succ n=>rw[hj]at h1;cases h1
theorem DJ {aD:List (Nat×List FV)}{o:Nat}{v1 v2 w1 w2:FV}(h:Qv.getObj aD o=some [v1,v2])(h1:bt v1 w1)(h2:bt v2 w2):∃zs,Qv.getObj aD o=some zs/\zs.length=[w1,w2].length/\∀(i:Nat)(x y:FV),zs[i]?=some x->[w1,w2][i]?=some y->bt x y:=by
 refine⟨_,h,rfl,λi x y a b=>?_⟩;match i with
  |0=>cases a;cases b;exact h1
  |1=>cases a;cases b;exact h2
  |n+2=>cases a
theorem oe {s:List fk}{x y:fk}:y∈mQ s x↔y=x\/y∈s:=by
 induction s with
 |nil=>simp[mQ]
 |cons z l ih=>unfold mQ;split;simp only[aC,ih];constructor;rintro(g|g|g);exact .inr (.inl g);exact .inl g;exact .inr (.inr g);rintro(g|g|g);exact .inr (.inl g);exact .inl g;exact .inr (.inr g);simp only[aC]
theorem Jc (x:fk):∀s:List fk,(mQ s x).length=s.length+1|[]=>rfl|y::l=>by unfold mQ;split;rw[aS,Jc x l,aS];rfl
theorem Jd {x:fk}:∀{s:List fk},qF s->(∀y,y∈s->y.id≠x.id)->qF (mQ s x)
 |[],_,_=>List.pairwise_singleton _ _
 |y::l,h,hn=>by
  have h1:=ct.1 h;unfold mQ;by_cases e:dA y.id x.id<0;rw[af e];refine ct.2 ⟨λz hz=>?_,Jd h1.2 λz hz=>hn z (cg _ hz)⟩;rcases oe.1 hz with rfl|hz;exact e;exact h1.1 z hz;rw[aa e];have hxy:dA x.id y.id<0:=by have h2:=lF y.id x.id;have h3:dA y.id x.id≠0:=λg=>hn y (by simp) (jU g);omega
  refine ct.2 ⟨λz hz=>?_,h⟩;rcases aC.1 hz with rfl|hz;exact hxy;exact ic hxy (h1.1 z hz)
theorem DE {s:List fk}{x:fk}{d:Dg}:d∈gO (mQ s x)↔d=x.id\/d∈gO s:=by unfold gO;simp only[aB,oe];constructor;rintro⟨y,rfl|hy,rfl⟩;exact .inl rfl;exact .inr ⟨y,hy,rfl⟩;rintro(rfl|⟨y,hy,rfl⟩);exact⟨x,.inl rfl,rfl⟩;exact⟨y,.inr hy,rfl⟩
theorem aaW {s:List fk}{x:fk}(hA:qF s)(hn:x.id∉gO s){d:Dg}(hd:d≠x.id):uW (mQ s x) d=uW s d:=by have hA2:qF (mQ s x):=Jd hA λy hy e=>hn (e▸aB.2 ⟨y,hy,rfl⟩);by_cases h:d∈gO s;obtain⟨y,hy,rfl⟩:=aB.1 h;rw[rq hA hy,rq hA2 (oe.2 (.inr hy))];rw[EL h,EL (λg=>(DE.1 g).elim hd h)]
theorem Xr {s:List fk}{x:fk}(hA:qF s)(hn:x.id∉gO s){i:bB}(hi:i.p≠x.id):iH (mQ s x) i=iH s i:=by unfold iH;rw[aaW hA hn hi]
theorem zW {p:iA}(h:(sA p).2=0){c:dH}(hc:c∈p.changes){i:bB}(hi:i∈refsOf c)(hz:i.p≠bg):i.p∈bU p:=by unfold bU;rw[aa (λg=>g h)];exact zR.2 (.inr ⟨hz,i,gA.2 ⟨c,hc,hi⟩,rfl⟩)
theorem adN {s:List fk}{x:fk}(hA:qF s)(hn:x.id∉gO s){p:iA}(hp:(sA p).2=0)(hne:x.id∉bU p){c:dH}(hc:c∈p.changes)(d:Dg):ZZ (mQ s x) c d=ZZ s c d:=by
 have key:∀i,i∈refsOf c->¬i.p=bg->iH (mQ s x) i=iH s i:=λi hi hz=>Xr hA hn λe=>hne (e▸zW hp hc hi hz);have e1:c.file∈refsOf c:=by unfold refsOf;simp
 have e2:c.parent∈refsOf c:=by unfold refsOf;simp
 have e3:c.eH∈refsOf c:=by unfold refsOf;simp
 have e4:c.eY∈refsOf c:=by unfold refsOf;simp
 have e5:∀i,i∈c.over->i∈refsOf c:=λi hi=>by unfold refsOf;simp[hi]
 have hend:∀i,i∈refsOf c->SJ (mQ s x) i c.file d=SJ s i c.file d:=λi hi=>by unfold SJ;by_cases g:i.p=bg\/i=c.file;rw[af g,af g];rw[aa g,aa g,key i hi λq=>g (.inl q)]
 have Ke:c.over.map (ovE (mQ s x) c d)=c.over.map (ovE s c d):=dF λi hi=>by unfold ovE;by_cases g:i.p=bg;rw[af g,af g];rw[aa g,aa g,key i (e5 i hi) g]
 have hfi:(if c.file.p=bg then(0:Int)else if(iH (mQ s x) c.file).2=false then 7 else if bH c.kind (iH (mQ s x) c.file).1=false then 8 else 0)=(if c.file.p=bg then 0 else if(iH s c.file).2=false then 7 else if bH c.kind (iH s c.file).1=false then 8 else 0):=by by_cases g:c.file.p=bg;rw[af g,af g];rw[aa g,aa g,key _ e1 g]
 have hpa:(if c.parent.p=bg then(0:Int)else if(iH (mQ s x) c.parent).2=false then 7 else if lJ (iH (mQ s x) c.parent).1=false then 8 else 0)=(if c.parent.p=bg then 0 else if(iH s c.parent).2=false then 7 else if lJ (iH s c.parent).1=false then 8 else 0):=by by_cases g:c.parent.p=bg;rw[af g,af g];rw[aa g,aa g,key _ e2 g]
 unfold ZZ;rw[hfi,hpa,hend _ e3,hend _ e4,Ke]
theorem LG {s:List fk}{x:fk}(hA:qF s)(hn:x.id∉gO s){p:iA}(hp:(sA p).2=0)(hne:x.id∉bU p)(d:Dg):pJ (mQ s x) p d=pJ s p d:=by unfold pJ;rw[dF λc hc=>adN hA hn hp hne hc d]
def zY (s:List fk)(o:List Dg):Prop:=∀(a b:List Dg)(e:Dg),o=a++e::b->∀y,y∈s->y.id=e->∀q,q∈bU y.pat->q∈a
theorem FP {s:List fk}{o:List Dg}(h:zY s o){e:Dg}(he:∀y,y∈s->y.id=e->∀q,q∈bU y.pat->q∈o):zY s (o++[e]):=by
 intro a b e' hab y hy Yi q hq;rcases List.eq_nil_or_concat b with rfl|⟨b',z,rfl⟩;have h1:=wU hab rfl;obtain⟨rfl,h2⟩:=h1;injection h2 with h2 _;subst h2;exact he y hy Yi q hq;have h1:o++[e]=(a++e'::b')++[z]:=by rw[hab];simp
 have h2:=(wU h1 rfl).1;exact h a b' e' h2 y hy Yi q hq
theorem FQ {s:List fk}(hA:qF s):∀(n:Nat)(out:List Dg),zY s out->zY s (wQ s n out)
 |0,out,h=>h
 |n+1,out,h=>by
  unfold wQ;cases hf:s.find? (tE out)with
  |none=>exact h
  |some x=>refine FQ hA n _ (FP h λy hy Yi q hq=>?_);have hx:=kM hf;obtain rfl:=NG hA hy hx Yi;have hn:=jr hf;unfold tE at hn;simp only[aR,cE,decide_eq_false_iff_not,oM,br,decide_eq_true_eq]at hn;exact hn.2 q hq
theorem NK {s:List fk}(hA:qF s):zY s (rG s):=by unfold rG;rw[<-GM hA];exact FQ hA _ _ λa b e h=>by simp at h
theorem LH {out:List Dg}{P:Dg->Prop}:∀{o:List Dg}{d:Dg},d∈o->d∉out->P d->∃a e b,o=a++e::b/\e∉out/\P e/\∀q,q∈a->q∈out\/¬P q|x::o,d,hd,hn,hp=>by by_cases hx:x∉out/\P x;exact⟨[],x,o,rfl,hx.1,hx.2,λq hq=>by cases hq⟩;have hdo:d∈o:=(aC.1 hd).resolve_left λe=>hx ⟨e▸hn,e▸hp⟩;obtain⟨a,e,b,h1,h2,h3,h4⟩:=LH hdo hn hp;refine⟨x::a,e,b,by rw[h1];rfl,h2,h3,λq hq=>?_⟩;rcases aC.1 hq with rfl|hq;by_cases g:q∈out;exact .inl g;exact .inr λgp=>hx ⟨g,gp⟩;exact h4 q hq
theorem Tr {t:List fk}(hA:qF t)(hc:∀x,x∈t->∀d,d∈bU x.pat->d∈gO t){o:List Dg}(ho:zY t o)(hall:∀d,d∈gO t->d∈o):(rG t).length=t.length:=by
 have go:∀(n:Nat)(out:List Dg),out.Nodup->(∀d,d∈out->d∈gO t)->out.length+n=t.length->(wQ t n out).length=t.length:=λn=>by
  induction n with
  |zero=>intro out _ _ h;exact h
  |succ n ih=>
   intro out hn hm hl;have hex:∃d,d∈gO t/\d∉out:=by refine kI λg=>?_;have :∀d,d∈gO t->d∈out:=λd hd=>kI λq=>g ⟨d,hd,q⟩;have :=IS (Vc hA) this;unfold gO at this;rw[aj]at this;omega
   obtain⟨d,hd,hdo⟩:=hex;obtain⟨a,e,b,h1,h2,h3,h4⟩:=LH (P:=λq=>q∈gO t) (hall d hd) hdo hd;obtain⟨y,hy,Yi⟩:=aB.1 h3;have hny:tE out y=true:=by unfold tE;simp only[aR,cE,decide_eq_false_iff_not,oM,br,decide_eq_true_eq];refine⟨by rw[Yi];exact h2,λq hq=>?_⟩;have :=ho a b e h1 y hy Yi q hq;rcases h4 q this with g|g;exact g;exact absurd (hc y hy q hq) g
   unfold wQ;cases hf:t.find? (tE out)with
   |none=>rw[sF]at hf;exact absurd hny (hf y hy)
   |some x=>have hx:=kM hf;have xl:=jr hf;unfold tE at xl;simp only[aR,cE,decide_eq_false_iff_not]at xl;refine ih (out++[x.id]) ?_ (λq hq=>?_) (by rw[ay,gZ];omega);rw[mc];refine⟨hn,by simp,λu hu v hv e=>?_⟩;rw[aL.1 hv]at e;exact xl.1 (e▸hu);rcases bf.1 hq with hq|hq;exact hm q hq;rw[aL.1 hq];exact aB.2 ⟨x,hx,rfl⟩
 unfold rG;rw[<-GM hA];exact go t.length [] nD (λd h=>by cases h) (by simp)
theorem adP {s:List fk}(h:OkS s){p:iA}{d:Dg}(hl:s.length<400)(hid:mA p=(d,0))(hp:(sA p).2=0)(hnew:(uW s d).2=false)(hn:oM (gO s) (bU p)=true)(hr:pJ s p d=0):OkS (mQ s ⟨d,p⟩):=by
 have hdn:d∉gO s:=λg=>by obtain⟨y,hy,rfl⟩:=aB.1 g;rw[rq h.GL hy]at hnew;cases hnew
 have Uw:∀q,q∈bU p->q∈gO s:=λq hq=>by unfold oM at hn;simpa using br.1 hn q hq
 have hA:qF (mQ s ⟨d,p⟩):=Jd h.GL λy hy e=>hdn (by rw[<-(show y.id=d from e)];exact aB.2 ⟨y,hy,rfl⟩);have hc:∀x,x∈mQ s ⟨d,p⟩->∀q,q∈bU x.pat->q∈gO (mQ s ⟨d,p⟩):=λx hx q hq=>by rcases oe.1 hx with rfl|hx;exact DE.2 (.inr (Uw q hq));exact DE.2 (.inr (h.dO x hx q hq))
 have aiE:∀y,y∈s->(sA y.pat).2=0:=λy hy=>by have :=h.id y hy;unfold mA at this;by_cases g:(sA y.pat).2≠0;rw[af g]at this;exact absurd (aV Prod.snd this) g;exact cK.1 g
 refine⟨by rw[Jc];omega,hA,λx hx=>?_,hc,?_,λx hx=>?_⟩;rcases oe.1 hx with rfl|hx;exact hid;exact h.id x hx;refine Tr hA hc (o:=rG s++[d]) (FP (λa b e hab y hy Yi q hq=>?_) λy hy Yi q hq=>?_) λq hq=>?_;rcases oe.1 hy with rfl|hy;exfalso;have he:e∈rG s:=by rw[hab];simp
 exact hdn (by rw[show d=e from Yi];exact(zQ h e).1 he);exact NK h.GL a b e hab y hy Yi q hq;rcases oe.1 hy with rfl|hy;exact(zQ h q).2 (Uw q hq);exact absurd (show d∈gO s from by rw[<-(show y.id=d from Yi)];exact aB.2 ⟨y,hy,rfl⟩) hdn;rcases DE.1 hq with rfl|hq;simp;exact jl _ ((zQ h q).2 hq);rcases oe.1 hx with rfl|hx;rw[LG h.GL hdn hp (λg=>hdn (Uw _ g))];exact hr;rw[LG h.GL hdn (aiE x hx) (λg=>hdn (h.dO x hx _ g))];exact h.refs x hx
theorem Vf {s:List fk}(h:GO s){p:iA}(hf:WI p)(agi:(eM p).1.length<=100000)(h0:(Kf s p).2.2=0):GO (Kf s p).1/\(Kf s p).1=mQ s ⟨(mA p).1,p⟩/\(Kf s p).2.1=(mA p).1/\mA p=((Kf s p).2.1,0)/\(mA p).1∉gO s:=by
 unfold Kf at h0⊢;by_cases h1:(mA p).2≠0;rw[af h1]at h0;exact absurd h0 h1;rw[aa h1]at h0⊢;by_cases h2:(uW s (mA p).1).2=true;rw[af h2]at h0;exfalso;split at h0;exact absurd h0 dD;exact absurd h0 dD;rw[aa h2]at h0⊢;by_cases h3:oM (gO s) (bU p)=false;rw[af h3]at h0;exact absurd h0 dD;rw[aa h3]at h0⊢;by_cases h4:pJ s p (mA p).1≠0;rw[af h4]at h0;exact absurd h0 h4;rw[aa h4]at h0⊢;by_cases h5:400<=s.length;rw[af h5]at h0;exact absurd h0 dD;rw[aa h5]at h0⊢;have hid:mA p=((mA p).1,0):=Prod.ext rfl (cK.1 h1);have acj:(sA p).2=0:=by have :=hid;unfold mA at this;by_cases g:(sA p).2≠0;exfalso;rw[af g]at this;exact g (aV Prod.snd this);exact cK.1 g
 have hnew:(uW s (mA p).1).2=false:=by simpa using h2
 have hdn:(mA p).1∉gO s:=λg=>by obtain⟨y,hy,e⟩:=aB.1 g;rw[<-e,rq h.ok.GL hy]at hnew;cases hnew
 have hok:=adP h.ok (p:=p) (d:=(mA p).1) oO hid acj hnew (by simpa using h3) (cK.1 h4);refine⟨⟨⟨by rw[Jc];omega,λx hx=>?_⟩,hok,λx hx=>?_⟩,rfl,rfl,hid,hdn⟩;rcases oe.1 hx with rfl|hx;exact hf;exact h.fit.each x hx;rcases oe.1 hx with rfl|hx;exact⟨hf,acj,agi⟩;exact h.q x hx
def iJ (L:bB->Option bO)(i:bB)(f:bO->Bool):Int:=if i.p=bg then 0 else match L i with|none=>7|some b=>if f b=true then 0 else 8
def zb (L:bB->Option bO)(x file:bB)(d:Dg):Int:=if x=file then 0 else iJ L x (gH (bz file d))
def chL (L:bB->Option bO)(c:dH)(d:Dg):Int:=bk (iJ L c.file (bH c.kind)::iJ L c.parent lJ::zb L c.eH c.file d::zb L c.eY c.file d::c.over.map λi=>iJ L i (gj c.kind (bz c.file d)))
def lV (s:List fk)(i:bB):Option bO:=if(iH s i).2=true then some (iH s i).1 else none
theorem Vg (s:List fk)(i:bB)(f:bO->Bool):(if i.p=bg then(0:Int)else if(iH s i).2=false then 7 else if f (iH s i).1=false then 8 else 0)=iJ (lV s) i f:=by
 unfold iJ lV;by_cases h:i.p=bg;rw[af h,af h];rw[aa h,aa h];cases h2:(iH s i).2 with
 |false=>rfl
 |true=>
  rw[aa dD,af rfl];cases h3:f (iH s i).1 with
  |false=>simp[h3]
  |true=>simp[h3]
theorem aaX (s:List fk)(c:dH)(d:Dg):ZZ s c d=chL (lV s) c d:=by
 have he:∀x,SJ s x c.file d=zb (lV s) x c.file d:=λx=>by have :=Vg s x (gH (bz c.file d));unfold SJ zb;by_cases h:x=c.file;rw[af (.inr h),af h];rw[aa h,<-this];by_cases h2:x.p=bg;rw[af (.inl h2),af h2];rw[aa h2,aa (λg=>g.elim h2 h)]
 unfold ZZ chL;rw[he,he,Vg,Vg,aW];congr 5;exact dF λi _=>Vg s i _
theorem ru {L L':bB->Option bO}{i:bB}(h:i.p≠bg->L i=L' i)(f:bO->Bool):iJ L i f=iJ L' i f:=by unfold iJ;by_cases g:i.p=bg;rw[af g,af g];rw[aa g,aa g,h g]
theorem Xs {L L':bB->Option bO}{c:dH}(h:∀i,i∈refsOf c->i.p≠bg->L i=L' i)(d:Dg):chL L c d=chL L' c d:=by
 have e1:c.file∈refsOf c:=by unfold refsOf;simp
 have e2:c.parent∈refsOf c:=by unfold refsOf;simp
 have e3:c.eH∈refsOf c:=by unfold refsOf;simp
 have e4:c.eY∈refsOf c:=by unfold refsOf;simp
 have e5:∀i,i∈c.over->i∈refsOf c:=λi hi=>by unfold refsOf;simp[hi]
 unfold chL zb;rw[ru (h _ e1),ru (h _ e2),ru (h _ e3),ru (h _ e4)];rw[dF λi hi=>ru (h _ (e5 i hi)) _]
structure Clean (c:dH):Prop where
 lo:1<=c.kind
 hi:c.kind<=7
 par:c.kind≠2->c.parent=aM
 ends:¬(c.kind=5\/c.kind=6)->c.eH=aM/\c.eY=aM
 file:c.kind=1\/c.kind=7->c.file=aM
 over:c.kind=1\/c.kind=5->c.over=[]
 GL:IK c.over
theorem QK {c:dH}(h:cF c=0):Clean c:=by
 obtain⟨g1,g2,-,-,g5,-⟩:=fZ h;have Tk:c.kind≠5->IK c.over:=λh5=>EM (IV h h5);have h7:c.kind=1\/c.kind=2\/c.kind=3\/c.kind=4\/c.kind=5\/c.kind=6\/c.kind=7:=oO
 cases c with
 |mk kind file type parent name mode data eH eY lines over=>simp only at h7 Tk;rcases h7 with rfl|rfl|rfl|rfl|rfl|rfl|rfl<;>simp[bN,fI]at g5<;>exact⟨g1,g2,by simp_all,by simp_all,by simp_all,by simp_all,by first|exact Tk dD|(simp_all)⟩
theorem ux {α:Type}{P:α->Bool}{g:α->Int}:∀{l:List α},(∀x,x∈l->P x=false->g x=0)->bk (l.map g)=bk ((l.filter P).map g)
 |[],_=>rfl
 |x::l,h=>by
  have ih:=ux (l:=l) λy hy=>h y (.tail _ hy);cases hp:P x with
  |true=>rw[List.filter_cons_of_pos hp,bw,bw,bk,bk,ih]
  |false=>rw[List.filter_cons_of_neg (by rw[hp];decide),bw,ef (h x (.head _) hp),ih]
theorem oD:∀(a b:List Int),bk (a++b)=if bk a≠0 then bk a else bk b
 |[],b=>by simp[bk]
 |e::a,b=>by rw[cr,bk,bk,oD a b];by_cases h:e=0;simp[h];simp[h]
section
variable {L:bB->Option bO}{d:Dg}
theorem Xt {i:bB}(h:i.p=bg)(hn:0<=i.n)(f:bO->Bool):stepG L d (bz i d,f)=0:=by rw[show bz i d=⟨d,i.n⟩from af ⟨h,hn⟩];exact af rfl
theorem Je {i:bB}(h0:i.p=bg->0<=i.n)(h1:i.p≠bg->i.p≠d)(f:bO->Bool):stepG L d (bz i d,f)=iJ L i f:=by by_cases h:i.p=bg;rw[Xt h (h0 h)];exact(af h).symm;rw[show bz i d=i from aa λg=>h g.1];unfold stepG iJ;rw[aa (h1 h),aa h]<;>rfl
theorem Ts {l:List bB}(ha:IK l)(h0:∀i,i∈l->i.p=bg->0<=i.n)(h1:∀i,i∈l->i.p≠bg->i.p≠d)(f:bO->Bool):bk ((UQ d l).map λi=>stepG L d (i,f))=bk (l.map λi=>iJ L i f):=by
 have e:(UQ d l).filter (λi=>!decide (i.p=d))=l.filter λi=>!decide (i.p=bg):=by refine FL ((Lt .nil).filter _) (ha.filter _) λx=>?_;simp only[eC,cE,decide_eq_false_iff_not,UQ,Ls,aB,gy,or_false];constructor;rintro⟨⟨y,hy,rfl⟩,h⟩;by_cases g:y.p=bg;rw[show bz y d=⟨d,y.n⟩from af ⟨g,h0 y hy g⟩]at h;exact absurd rfl h;rw[show bz y d=y from aa λq=>g q.1];exact⟨hy,g⟩;rintro⟨hx,h⟩;exact⟨⟨x,hx,aa λq=>h q.1⟩,h1 x hx h⟩
 rw[ux (P:=λi=>!decide (i.p=d)) (l:=UQ d l) (λi _ hi=>by
  have hi:i.p=d:=by simpa using hi
  exact af hi),e,ux (P:=λi=>!decide (i.p=bg)) (l:=l) (λi _ hi=>by
  have hi:i.p=bg:=by simpa using hi
  exact af hi)];congr 1;refine dF λi hi=>?_;obtain⟨q1,q2⟩:=eC.1 hi;have q2:i.p≠bg:=by simpa using q2
 unfold stepG iJ;rw[aa (h1 i q1 q2),aa q2]<;>rfl
end
def zc (d:Dg)(c:dH)(f:Nat):bO:=let a:=iT d ((dI c f).headD de);if c.kind=5 then⟨a.id,6,a.file,0,aM,[],0,[],[],bz c.eH d,bz c.eY d,[]⟩else a
structure QL (L:bB->Option bO)(c:dH)(d:Dg):Prop where
 ids:∀i b,L i=some b->b.id=i
 ne:∀i,i∈refsOf c->i.p≠bg->i.p≠d
 own:∀i,i∈c.file::c.eH::c.eY::c.over->i.p=bg->0<=i.n
 par:c.parent.p=bg->c.parent=lD\/0<=c.parent.n
 clean:Clean c
 lines:c.kind=5->c.lines≠[]
theorem Tt {c:dH}(hc:Clean c)(hl:c.kind=5->c.lines≠[])(d:Dg)(f:Nat):tF (zc d c f)=(if c.kind≠1/\c.kind≠7 then[(bz c.file d,bH c.kind)]else[])++((if c.kind=2/\bz c.parent d≠lD then[(bz c.parent d,lJ)]else[])++((if c.kind=5\/c.kind=6 then[(bz c.eH d,wR (bz c.file d)),(bz c.eY d,wR (bz c.file d))]else[])++(UQ d c.over).map λi=>(i,fP c.kind (bz c.file d)))):=by
 have h7:c.kind=1\/c.kind=2\/c.kind=3\/c.kind=4\/c.kind=5\/c.kind=6\/c.kind=7:=by have :=hc.lo;have :=hc.hi;omega
 have ho:=hc.over;cases c with
 |mk kind file type parent name mode data eH eY lines over=>
  simp only at h7 hl ho⊢;have h56:bH 5=bH 6:=by funext x;simp[bH,iS]
  have ak6:∀g g':bB,fP 7 g=fP 7 g':=λg g'=>by funext b;simp[fP]
  rcases h7 with rfl|rfl|rfl|rfl|rfl|rfl|rfl;have :over=[]:=ho (.inl rfl);subst this;simp[zc,dI,kG,iT,st1,st2,Nj,Nk,ZW,tF,UQ];simp[zc,dI,kG,iT,st1,st2,Nj,Nk,ZW,tF];simp[zc,dI,kG,iT,st1,st2,Nj,Nk,ZW,tF];simp[zc,dI,kG,iT,st1,st2,Nj,Nk,ZW,tF];have :over=[]:=ho (.inr rfl);subst this;have hl:=hl rfl;cases lines with
  |nil=>exact absurd rfl hl
  |cons t ts=>simp[zc,dI,uU,List.range_succ_eq_map,iT,st1,st2,Nj,Nk,ZW,tF,UQ,h56]
  simp[zc,dI,kG,iT,st1,st2,Nj,Nk,ZW,tF];simp[zc,dI,kG,iT,st1,st2,Nj,Nk,ZW,tF];intro i _;exact ak6 _ _
theorem ags {L:bB->Option bO}{c:dH}{d:Dg}(h:QL L c d)(f:Nat):bk ((tF (zc d c f)).map (stepG L d))=chL L c d:=by
 have hc:=h.clean;have m1:c.file∈refsOf c:=by unfold refsOf;simp
 have m2:c.parent∈refsOf c:=by unfold refsOf;simp
 have m3:c.eH∈refsOf c:=by unfold refsOf;simp
 have m4:c.eY∈refsOf c:=by unfold refsOf;simp
 have m5:∀i,i∈c.over->i∈refsOf c:=λi hi=>by unfold refsOf;simp[hi]
 have eF:stepG L d (bz c.file d,bH c.kind)=iJ L c.file (bH c.kind):=Je (h.own _ (by simp)) (h.ne _ m1) _;have eO:bk (((UQ d c.over).map λi=>(i,fP c.kind (bz c.file d))).map (stepG L d))=bk (c.over.map λi=>iJ L i (gj c.kind (bz c.file d))):=by
  have :=Ts (L:=L) (d:=d) hc.GL (λi hi=>h.own i (by simp[hi])) (λi hi=>h.ne i (m5 i hi)) (fP c.kind (bz c.file d));rw[dV];have e:fP c.kind (bz c.file d)=gj c.kind (bz c.file d):=by
   funext b;unfold fP gj Ir;by_cases g:c.kind=7;simp[g];have :=hc.lo;have g0:¬c.kind=0:=oO
   simp[g,g0]
  rw[<-e];exact this
 have eP:bk ((if c.kind=2/\bz c.parent d≠lD then[(bz c.parent d,lJ)]else[]).map (stepG L d))=iJ L c.parent lJ:=by by_cases g:c.kind=2/\bz c.parent d≠lD;rw[af g];have hn:c.parent.p=bg->0<=c.parent.n:=λq=>(h.par q).elim (λe=>absurd (by rw[e];rfl) g.2) id;rw[wL,Je hn (h.ne _ m2)];unfold bk bk;split<;>simp_all;rw[aa g];show(0:Int)=_;by_cases k:c.kind=2;have e:bz c.parent d=lD:=cK.1 λq=>g ⟨k,q⟩;have hp:c.parent.p=bg:=kI λq=>q (by rw[<-show bz c.parent d=c.parent from aa λr=>q r.1,e];rfl);exact(af hp).symm;rw[hc.par k];rfl
 have eE:∀x,x∈refsOf c->(x.p=bg->0<=x.n)->c.kind=5\/c.kind=6->iJ L c.file (bH c.kind)=0->stepG L d (bz x d,wR (bz c.file d))=zb L x c.file d:=λx hx hn hk hF=>by
  rw[Je hn (h.ne _ hx)];unfold zb;by_cases e:x=c.file;rw[af e];subst e;unfold iJ at hF⊢;by_cases g:c.file.p=bg;exact af g;rw[aa g]at hF⊢;rw[show bz c.file d=c.file from aa λq=>g q.1];cases hL:L c.file with
  |none=>rw[hL]at hF;exact absurd (show(7:Int)=0 from hF) dD
  |some b=>show(if wR c.file b=true then(0:Int)else 8)=0;rw[af];unfold wR;rw[ai (h.ids _ _ hL)];rfl
  rw[aa e];unfold iJ;by_cases g:x.p=bg;rw[af g,af g];rw[aa g,aa g];cases hL:L x with
  |none=>rfl
  |some b=>
   have hb:=h.ids _ _ hL;have hne:¬b.id=bz c.file d:=by rw[hb];by_cases q:c.file.p=bg;rw[show bz c.file d=⟨d,c.file.n⟩from af ⟨q,h.own _ (by simp) q⟩];intro r;exact h.ne _ hx g (by rw[r]);rw[show bz c.file d=c.file from aa λr=>q r.1];exact e
   show(if wR (bz c.file d) b=true then(0:Int)else 8)=if gH (bz c.file d) b=true then 0 else 8;unfold wR;rw[ah hne,iP]
 rw[Tt hc h.lines];unfold chL;rw[aF,aF,aF,oD,oD,oD,eO,eP];have e17:bk ((if c.kind≠1/\c.kind≠7 then[(bz c.file d,bH c.kind)]else[]).map (stepG L d))=iJ L c.file (bH c.kind):=by by_cases g:c.kind≠1/\c.kind≠7;rw[af g,wL,eF];unfold bk bk;split<;>simp_all;rw[aa g,hc.file oO];rfl
 rw[e17];by_cases hF:iJ L c.file (bH c.kind)=0;rotate_left;rw[af hF,fW hF];rw[aa (λg=>g hF),ef hF];have e56:bk ((if c.kind=5\/c.kind=6 then[(bz c.eH d,wR (bz c.file d)),(bz c.eY d,wR (bz c.file d))]else[]).map (stepG L d))=bk [zb L c.eH c.file d,zb L c.eY c.file d]:=by
  by_cases g:c.kind=5\/c.kind=6;rw[af g,bw,wL,eE _ m3 (h.own _ (by simp)) g hF,eE _ m4 (h.own _ (by simp)) g hF];rw[aa g,(hc.ends g).1,(hc.ends g).2];have :zb L aM c.file d=0:=by unfold zb;split;rfl;rfl
  rw[this];rfl
 rw[e56,show∀a b:Int,∀l,bk (iJ L c.parent lJ::a::b::l)=bk ([iJ L c.parent lJ]++([a,b]++l))fromλ_ _ _=>rfl,oD,oD];have :∀e:Int,bk [e]=e:=λe=>by unfold bk bk;split<;>simp_all
 rw[this]
theorem TD (c:dH)(a b:Nat):(dI c a).length=(dI c b).length:=by rw[uV,uV]
theorem TE {c:dH}(a:Nat):∃x r,dI c a=x::r:=by
 cases h:dI c a with
 |cons x r=>exact⟨x,r,rfl⟩
 |nil=>have :=aV List.length h;rw[uV]at this;split at this<;>simp at this
theorem FW:∀(l:List dH)(own:List bO),(kH l own).2=0->∃r,(kH l own).1=own++r|[],own,_=>⟨[],(aW _).symm⟩|c::l,own,h=>by rw[kU]at h⊢;by_cases h1:cF c≠0;rw[af h1]at h;exact absurd h h1;rw[aa h1]at h⊢;by_cases h2:oa c own≠0;rw[af h2]at h;exact absurd h h2;rw[aa h2]at h⊢;obtain⟨r,hr⟩:=FW l _ h;exact⟨dI c own.length++r,by rw[hr,bl]⟩
theorem FX:∀(l:List dH)(own:List bO)(i:Nat)(hi:i<l.length),(kH l own).2=0->(kH l own).1[own.length+((l.take i).map λc=>(dI c 0).length).sum]?=some ((dI l[i] (own.length+((l.take i).map λc=>(dI c 0).length).sum)).headD de)
 |c::l,own,i,hi,h=>by
  rw[kU]at h⊢;by_cases h1:cF c≠0;rw[af h1]at h;exact absurd h h1;rw[aa h1]at h⊢;by_cases h2:oa c own≠0;rw[af h2]at h;exact absurd h h2;rw[aa h2]at h⊢;cases i with
  |zero=>obtain⟨r,hr⟩:=FW l _ h;obtain⟨x,q,hx⟩:=TE (c:=c) own.length;rw[hr];simp only[List.take_zero,fV,List.sum_nil,vQ,List.getElem_cons_zero];rw[hx];simp
  |succ i=>
   have ih:=FX l (own++dI c own.length) i (by simpa using hi) h;have e:(own++dI c own.length).length+((l.take i).map λc=>(dI c 0).length).sum=own.length+(((c::l).take (i+1)).map λc=>(dI c 0).length).sum:=by rw[Ch,bw,sr,ay,TD c own.length 0,fK]
   rw[e]at ih;exact ih
theorem LK {p:iA}(h:uY p){i:Nat}(hi:i<p.changes.length):(jJ p)[oB p i]?=some (iT (mA p).1 ((dI p.changes[i] (oB p i)).headD de)):=by have h2:=h.Yz;rw[h.UY.all]at h2;have :=FX p.changes [] i hi h2;rw[bA,dn]at this;rw[yY h,aJ,h.UY.all];show((kH p.changes []).1[oB p i]?).map _=_;rw[show(kH p.changes []).1[oB p i]?=_ from this];rfl
theorem aa1 {p:iA}(h:uY p){i:Nat}(hi:i<p.changes.length)(d:Dg)(hd:(mA p).1=d):Dy p d (jJ p) i=zc d p.changes[i] (oB p i):=by
 subst hd;have h1:=LK h hi;have e1:(jJ p).getD (oB p i) de=iT (mA p).1 ((dI p.changes[i] (oB p i)).headD de):=by rw[dc,h1];rfl
 have e2:p.changes.getD i default=p.changes[i]:=by rw[dc,an hi];rfl
 unfold Dy zc;simp only[e1,e2]
end Qv
