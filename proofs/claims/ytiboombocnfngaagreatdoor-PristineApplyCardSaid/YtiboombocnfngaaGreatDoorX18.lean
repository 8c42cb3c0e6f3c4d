/- Part 24 of the proof: its lemmas. No condition. -/
import Derived.Test.YtiboombocnfngaaGreatDoorX3
import Derived.Test.YtiboombocnfngaaGreatDoorX4
import Derived.Test.YtiboombocnfngaaGreatDoorX6
import Derived.Test.YtiboombocnfngaaGreatDoorX8
import Derived.Test.YtiboombocnfngaaGreatDoorX9
import Derived.Test.YtiboombocnfngaaGreatDoorX10
import Derived.Test.YtiboombocnfngaaGreatDoorX12
import Derived.Test.YtiboombocnfngaaGreatDoorX15
import Derived.Test.YtiboombocnfngaaGreatDoorX16
import Derived.Test.YtiboombocnfngaaGreatDoorX17
set_option maxRecDepth 10000
set_option maxHeartbeats 80000000
set_option linter.all false
open Go Go.Proofs Go.RowKit
namespace Qv
theorem Cn (c:dw)(n:Nat):av C 189 [.agg (cC c),.int .i64 (n:Int)] (λr=>r=.val (.fn (.func 265) [] [.imp [.int .i64 (n:Int)],.imp (cC c)])):=by exact ak Tryz.func189 rfl rfl rfl ⟨[3,2],dA (cells:=[.p (.int .i64 (n:Int))]) (ys:=[.int .i64 (n:Int)]) rfl rfl rfl (dA (cells:=aH (cC c)) (ys:=cC c) rfl (bI _) rfl rfl)⟩
theorem fK (n k:Nat)(h:n+k<=2^40):av C 266 [.int .i64 (k:Int),.imp [.int .i64 (n:Int)]] (λr=>r=.val (.agg (cI (cw ((n+k:Nat):Int))))):=by exact ak Tryz.func266 rfl rfl rfl (nx (n+k) rfl)
def xS:List dw->List bR->List bR×Int|[],own=>(own,0)|c::l,own=>if cG c≠0 then([],cG c)else if xR c own≠0 then([],xR c own)else xS l (own++cu c own.length)
theorem Af (c:dw)(l:List dw)(own:List bR):xS (c::l) own=if cG c≠0 then([],cG c)else if xR c own≠0 then([],xR c own)else xS l (own++cu c own.length):=rfl
def tR (p:gr):List bR×Int:=if yI p≠0 then([],yI p)else xS p.changes []
def ai6:Bool->List bR->List (Nat×List FV)|false,_=>[(6,[.full []])]|true,own=>[(6,[.gH 2045 109 172]),(2045,ig own)]
def frE (f L:Nat)(cQ dc:bQ)(x:Nat):bQ:=if x<=L then(if 0<x then cw ((f+x-1:Nat):Int)else cQ)else dc
theorem XH {p:gr}(h:yI p=0):1<=p.changes.length/\p.changes.length<=400:=by unfold yI at h;by_cases h1:gM p.fQ=false;rw[ag h1]at h;exact absurd h dD;rw[af h1]at h;by_cases h2:1000<p.message.length;rw[ag h2]at h;exact absurd h dD;rw[af h2]at h;by_cases h3:p.time<0\/1099511627776<p.time;rw[ag h3]at h;exact absurd h dD;rw[af h3]at h;by_cases h4:nv p.deps≠0;rw[ag h4]at h;exact absurd h h4;rw[af h4]at h;by_cases h5:p.changes.length=0;rw[ag h5]at h;exact absurd h dD;rw[af h5]at h;by_cases h6:400<p.changes.length;rw[ag h6]at h;exact absurd h dD;omega
theorem Ag {c:dw}(h:cG c=0)(h5:c.kind=5):1<=c.lines.length:=by refine iE λhn=>?_;rw[Jp]at h;unfold Hu at h;have h0:c.kind=5/\c.lines.length=0:=⟨h5,oO⟩;simp only[h0,and_self,if_true]at h;split at h;exact absurd h dD;split at h;exact absurd h dD;split at h;exact absurd h dD;split at h;exact absurd h dD;split at h;exact absurd h dD;split at h;exact absurd h dD;exact absurd h dD
theorem Mg {c:dw}(h:bG (eS c)=true)(h1:c.kind=1):c.over=[]:=by simp only[bG,bn,decide_eq_true_eq]at h;obtain⟨-,-,-,-,-,-,-,-,-,ho⟩:=h;rw[Ch c h1]at ho;exact ho
def exR (p:gr)(E:List bR×Int)(r:dJ):Prop:=if E.2≠0 then r=.val (.eN [.sl [],.str [],.int .i64 E.2])else if(eX (kC p)).length<=65536 then r=.own (some [.str (eX (kC p)),.int .i64 0]) 109 172 (gI E.1)else r=.val (.eN [.sl [],.str [],.int .i64 4])
noncomputable abbrev CJ:Ctx:=(C.cut [2,16]).open {qZ with opens:=[45]}
def rI (p:gr)(k:Nat):List (Nat×FV):=[(1,.ptr 1 0),(6,.ptr 6 0),(20,.p (.sl (p.changes.map cC))),(21,.p (.int .i64 ((p.changes.map cC).length:Int))),(22,.p (.int .i64 k))]
def rJ (p:gr)(b:Bool)(own:List bR):List (Nat×List FV):=(1,aH (cP p))::ai6 b own
abbrev Pp (p:gr)(k:Nat)(b:Bool)(own:List bR):an:=NV 61 0 (rI p k) (rJ p b own) [] [.ready] []
abbrev itJ (p:gr)(k:Nat)(rel:List (Nat×FV))(ob:List (Nat×List FV))(b:Bool)(own:List bR):an:=NV 144 1000 rel (ob++rJ p b own) [(61,0,rI p k)] [.ready] []
def ai7:Bool->bR->FV|true,x=>.agg ((aH (cA x)).take 171++[.full []])|false,x=>.agg (aH (cA x))
def YJ (Y:pn)(p:gr)(k:Nat)(rel:List (Nat×FV))(ob:List (Nat×List FV))(b:Bool)(own:List bR)(z:Bool)(x:bR):Prop:=∀K':FV->an->Prop,(∀S',cU S' (itJ p k rel ob true (own++[x]))->K' (.p (.bool true)) S')->Y 1000000 [ai7 z x] K' (itJ p k rel ob b own)
theorem Co (p:gr)(b:Bool)(own:List bR):Bg (rJ p b own) (rJ p b own):=by cases b;exact oS;exact oS
theorem jh (p:gr)(k:Nat):zJ (Gh (rI p k)) (rI p k):=wS
def BC (c:dw)(n:Nat)(ls:List Bytes)(j:Nat):List (Nat×FV):=[(0,.mh 1000000),(1,.p (.imp [.int .i64 (n:Int)])),(2,.p (.imp (cC c))),(4,.fn (.func 266) [] [.p (.imp [.int .i64 (n:Int)])]),(93,.p (.sl (ls.map mL))),(94,.p (.int .i64 ((ls.map mL).length:Int))),(95,.p (.int .i64 j))]
def Ec (c:dw)(n L j:Nat):List (Nat×FV):=[(0,.mh 1000000),(1,.p (.imp [.int .i64 (n:Int)])),(2,.p (.imp (cC c))),(4,.fn (.func 266) [] [.p (.imp [.int .i64 (n:Int)])]),(7,.p (.int .i64 (L:Int))),(8,.ptr 1008 0),(10,.ptr 1010 0),(117,.p (.int .i64 ((L+1:Nat):Int))),(118,.p (.int .i64 j))]
def ob5 (fr to:bQ):List (Nat×List FV):=[(1008,aH (cI fr)),(1010,aH (cI to))]
theorem ahd (p:gr)(c:dw)(k:Nat)(Y:pn)(K:FV->an->Prop)(b:Bool)(own:List bR)(hk5:c.kind=5)(hn:own.length<=2^30)(hb:b=false->own=[])(ls:List Bytes)(hls:c.lines=ls)(hL:ls.length<=2000)(hL0:1<=ls.length)(hY1:∀(j:Nat)(b:Bool)(xT:List bR)(x:bR),xT.length<=2^31->(b=false->xT=[])->x.over=[]->YJ Y p k (BC c own.length ls j) [] b xT true x)(hY2:∀(j:Nat)(fr to:bQ)(Bh:List bR)(x:bR),Bh.length<=2^31->x.over=[]->YJ Y p k (Ec c own.length ls.length j) (ob5 fr to) true Bh true x)(hK:∀r,K r (Pp p k true (own++((List.range ls.length).map (nK c.file own.length ls)++(List.range (ls.length+1)).map (kD c.file c.cQ c.dc own.length ls.length))))):mz CJ 6 Y 265 [.mh 1000000,.p (.imp [.int .i64 (own.length:Int)]),.p (.imp (cC c))] K (Pp p k b own):=by
 refine⟨_,Tryz.func265,rfl,rfl,rfl,_,cU.refl _,[],nO 144 1000 [(0,.mh 1000000),(1,.p (.imp [.int .i64 (own.length:Int)])),(2,.p (.imp (cC c))),(4,.fn (.func 266) [] [.p (.imp [.int .i64 (own.length:Int)])]),(13,.p (.int .i64 c.kind))] (rJ p b own) [(61,0,rI p k)] [.ready] kK wS (Co p b own) ⟨rfl,jh p k,trivial⟩ (aC (λh=>absurd (show c.kind=1 from h) oO) (λ_=>aC (λh=>absurd (show c.kind=2 from h) oO) (λ_=>aC (λh=>absurd (show c.kind=3 from h) oO) (λ_=>aC (λh=>absurd (show c.kind=4 from h) oO) (λ_=>aC (λh=>absurd (show c.kind=6 from h) oO) (λ_=>aC (λh=>absurd (show c.kind=7 from h) oO) (λ_=>aC (λ_=>?_) (λh=>absurd hk5 h))))))))⟩;refine DD 144 1000 (λx:Nat×Bool×List bR=>BC c own.length ls x.1) (λx=>rJ p x.2.1 x.2.2) (λ_=>[(61,0,rI p k)]) [.ready] (λ_=>[]) (λx=>x.1<=ls.length/\x.2.2=own++(List.range x.1).map (nK c.file own.length ls)/\(x.2.1=false->x.2.2=[])/\(0<x.1->x.2.1=true)) (λx=>ls.length-x.1) (0,b,own) ⟨zL,by simp,hb,λh=>absurd h (qG 0)⟩ kK ⟨bw.eq kK,bw.eq kK,bw.eq kK,bw.eq kK,(by rw[<-hls];exact bw.refl _),(by rw[<-hls];exact bw.refl _),bw.eq kK,trivial⟩ (Co p b own) ⟨rfl,jh p k,trivial⟩ trivial ?_;rintro⟨j,b2,xT⟩ ⟨hj,LC,Bf,GX⟩;have hj:j<=ls.length:=hj;have LC:xT=own++(List.range j).map (nK c.file own.length ls):=LC;have afS:xT.length=own.length+j:=by rw[LC];simp
 refine⟨_,cU.refl _,cq (λeM=>?_) (λsn=>?_)⟩;have pZ:(ls.map mL)[((j:Nat):Int).toNat]?=some (mL ls[j]):=eC rfl eM;have hla:nK c.file own.length ls j=⟨cw ((own.length+j:Nat):Int),5,c.file,0,aP,[],0,[],ls[j],aP,aP,[]⟩:=by unfold nK;rw[show ls.getD j []=ls[j]from by simp[List.getD,eM]]
 have KV:xT++[nK c.file own.length ls j]=own++(List.range (j+1)).map (nK c.file own.length ls):=by rw[LC,xL,aD,bq];rfl
 rw[hla]at KV;generalize ls[j]=txt at pZ KV;clear LC hla;refine⟨oO,_,pZ,rfl,?_⟩;exact bZ 8 kK ⟨_,(fK own.length j oO).eG,_,rfl,itJ p k (BC c own.length ls j) [] b2 xT,bO kK wS (Co p b2 xT) ⟨rfl,jh p k,trivial⟩ trivial,hY1 j b2 xT ⟨cw ((own.length+j:Nat):Int),5,c.file,0,aP,[],0,[],txt,aP,aP,[]⟩ oO Bf rfl _ λS' hw=>⟨_,hw,bF (nx (j+1) (sG (j+1,true,xT++[⟨cw ((own.length+j:Nat):Int),5,c.file,0,aP,[],0,[],txt,aP,aP,[]⟩]) ⟨eM,KV,(λh=>nomatch h),λ_=>rfl⟩ mM kK wS oS ⟨rfl,jh p k,trivial⟩ trivial))⟩⟩;obtain rfl:j=ls.length:=oO
 obtain rfl:b2=true:=GX oO;refine⟨((ls.length+1:Nat):Int),by rw[show(((c.lines.map mL).length:Nat):Int)=(ls.length:Int)from by rw[aj,hls]];rw[wrap64 oO oO];omega,?_⟩;have fr0:frE own.length ls.length c.cQ c.dc 0=c.cQ:=(ag (zL)).trans (af dD);refine DD 144 1000 (λx:Nat×List bR=>[(0,.mh 1000000),(1,.p (.imp [.int .i64 (own.length:Int)])),(2,.p (.imp (cC c))),(4,.fn (.func 266) [] [.p (.imp [.int .i64 (own.length:Int)])]),(7,.p (.int .i64 (ls.length:Int))),(8,.ptr 1008 0),(117,.p (.int .i64 ((ls.length+1:Nat):Int))),(118,.p (.int .i64 x.1))]) (λx=>(1008,aH (cI (frE own.length ls.length c.cQ c.dc x.1)))::rJ p true x.2) (λ_=>[(61,0,rI p k)]) [.ready] (λ_=>[]) (λx=>x.1<=ls.length+1/\x.2=xT++(List.range x.1).map (kD c.file c.cQ c.dc own.length ls.length)) (λx=>ls.length+1-x.1) (0,xT) ⟨zL,by simp⟩ kK ⟨bw.refl _,bw.refl _,bw.refl _,bw.refl _,(by rw[<-hls,show((c.lines.length:Nat):Int)=(((c.lines.map mL).length:Nat):Int)from by rw[aj]];exact bw.refl _),bw.refl _,bw.refl _,bw.refl _,trivial⟩ ⟨(by rw[fr0];exact aG rfl),aG kK,aG kK,tP 1008 kK,trivial⟩ ⟨rfl,jh p k,trivial⟩ trivial ?_;rintro⟨j,Bh⟩ ⟨hj2,KV⟩;have hj2:j<=ls.length+1:=hj2;have KV:Bh=xT++(List.range j).map (kD c.file c.cQ c.dc own.length ls.length):=KV;have amT:Bh.length=xT.length+j:=by rw[KV];simp
 refine aF (λeM=>?_) (λsn=>?_);have eM:j<ls.length+1:=by have :(j:Int)<((ls.length+1:Nat):Int):=eM;omega
 have ZK:Bh++[kD c.file c.cQ c.dc own.length ls.length j]=xT++(List.range (j+1)).map (kD c.file c.cQ c.dc own.length ls.length):=by rw[KV,xL,aD,bq];rfl
 have hfr:frE own.length ls.length c.cQ c.dc j=if 0<j then cw ((own.length+j-1:Nat):Int)else c.cQ:=ag oO;unfold kD at ZK;rw[fL own.length ls.length j]at ZK;rw[hfr];generalize(if 0<j then cw ((own.length+j-1:Nat):Int)else c.cQ)=fr at ZK⊢;refine aF (λh5=>?_) (λh5=>?_);have h5:j<ls.length:=by have :(j:Int)<(ls.length:Int):=h5;omega
 rw[ag h5]at ZK;have va:frE own.length ls.length c.cQ c.dc (j+1)=cw ((own.length+j:Nat):Int):=(ag oO).trans (ag oO);exact cl (fK own.length j oO).eG (bZ 11 kK (nx (ls.length+j) ⟨_,(fK own.length (ls.length+j) oO).eG,_,rfl,itJ p k (Ec c own.length ls.length j) (ob5 fr (cw ((own.length+j:Nat):Int))) true Bh,bO kK wS ⟨aG kK,aG kK,aG kK,aG kK,tP 1010 kK,trivial⟩ ⟨rfl,jh p k,trivial⟩ trivial,hY2 j fr (cw ((own.length+j:Nat):Int)) Bh ⟨cw ((own.length+(ls.length+j):Nat):Int),6,c.file,0,aP,[],0,[],[],fr,cw ((own.length+j:Nat):Int),[]⟩ oO rfl _ λS' hw=>⟨_,hw,bF (nx (j+1) (sG (j+1,Bh++[⟨cw ((own.length+(ls.length+j):Nat):Int),6,c.file,0,aP,[],0,[],[],fr,cw ((own.length+j:Nat):Int),[]⟩]) ⟨eM,ZK⟩ mM kK wS ⟨(by rw[va];exact aG rfl),aG rfl,aG rfl,aG rfl,trivial⟩ ⟨rfl,jh p k,trivial⟩ trivial))⟩⟩));have h5:¬j<ls.length:=by have :¬(j:Int)<(ls.length:Int):=h5;omega
 rw[af h5]at ZK;have va:frE own.length ls.length c.cQ c.dc (j+1)=c.dc:=af oO;exact bZ 11 kK (nx (ls.length+j) ⟨_,(fK own.length (ls.length+j) oO).eG,_,rfl,itJ p k (Ec c own.length ls.length j) (ob5 fr c.dc) true Bh,bO kK wS ⟨aG kK,aG kK,aG kK,aG kK,tP 1010 kK,trivial⟩ ⟨rfl,jh p k,trivial⟩ trivial,hY2 j fr c.dc Bh ⟨cw ((own.length+(ls.length+j):Nat):Int),6,c.file,0,aP,[],0,[],[],fr,c.dc,[]⟩ oO rfl _ λS' hw=>⟨_,hw,bF (nx (j+1) (sG (j+1,Bh++[⟨cw ((own.length+(ls.length+j):Nat):Int),6,c.file,0,aP,[],0,[],[],fr,c.dc,[]⟩]) ⟨eM,ZK⟩ mM kK wS ⟨(by rw[va];exact aG rfl),aG rfl,aG rfl,aG rfl,trivial⟩ ⟨rfl,jh p k,trivial⟩ trivial))⟩⟩);obtain rfl:j=ls.length+1:=by have :¬(j:Int)<((ls.length+1:Nat):Int):=sn;omega
 have LC:xT=own++(List.range ls.length).map (nK c.file own.length ls):=LC;have ho4:Bh=own++((List.range ls.length).map (nK c.file own.length ls)++(List.range (ls.length+1)).map (kD c.file c.cQ c.dc own.length ls.length)):=by rw[KV,LC,bq]
 refine nO 61 0 (rI p k) (rJ p true Bh) [] [.ready] kK (jh p k) oS trivial ?_;rw[ho4];exact hK _
def Ah:Code->Option (Array Tmp×Code×Code)
 |.seq a b=>match Ah a with|some x=>some x|none=>Ah b
 |.block _ c=>Ah c
 |.loop c=>Ah c
 |.cond _ x y=>match Ah x with|some r=>some r|none=>Ah y
 |.rangeFunc _ ps a b=>some (ps,a,b)
 |_=>none
noncomputable def YY:pn:=match Tryz.f176.body with
 |some c=>match Ah c with|some (ps,a,b)=>wX uo (yQ CJ (mz CJ 6) uo a) (yQ CJ (mz CJ 6) uo b) ps.toList 0 0|none=>uo
 |none=>uo
theorem alG (p:gr)(k:Nat)(b:Bool)(own:List bR)(x:bR)(hn:own.length<=2^31)(hb:b=false->own=[])(hx:x.over=[]):YJ YY p k [] [] b own true x:=by
 obtain⟨a1,a2,a3,a4,a5,a6,a7,a8,a9,La,Lb,a12⟩:=x;obtain rfl:a12=[]:=hx;intro K' BT;refine⟨rfl,?_⟩;cases b with
 |false=>obtain rfl:=hb rfl;refine nO 61 2000 [(1,.ptr 1 0),(6,.ptr 6 0),(11,.ptr 2011 0),(20,.p (.sl (p.changes.map cC))),(21,.p (.int .i64 ((p.changes.map cC).length:Int))),(22,.p (.int .i64 k))] ((2011,(aH (cA ⟨a1,a2,a3,a4,a5,a6,a7,a8,a9,La,Lb,[]⟩)).take 171++[.full []])::rJ p false []) [(144,1000,[]),(61,0,rI p k)] [.busy] kK wS oS ⟨rfl,trivial,rfl,wS,trivial⟩ ?_;refine⟨mP _ _,(λzs h=>by rw[aO.1 h];rfl),(show 1*296<=140737488355328 by decide),ig [⟨a1,a2,a3,a4,a5,a6,a7,a8,a9,La,Lb,[]⟩],rfl,?_⟩;exact BT _ (bO kK trivial oS ⟨rfl,jh p k,trivial⟩ trivial)
 |true=>refine nO 61 2000 [(1,.ptr 1 0),(6,.ptr 6 0),(11,.ptr 2011 0),(20,.p (.sl (p.changes.map cC))),(21,.p (.int .i64 ((p.changes.map cC).length:Int))),(22,.p (.int .i64 k))] ((2011,(aH (cA ⟨a1,a2,a3,a4,a5,a6,a7,a8,a9,La,Lb,[]⟩)).take 171++[.full []])::rJ p true own) [(144,1000,[]),(61,0,rI p k)] [.busy] kK wS ⟨aG kK,aG kK,aG kK,tP 2011 kK,trivial⟩ ⟨rfl,trivial,rfl,wS,trivial⟩ ?_;refine⟨own.length,Ea own _,(λzs h=>by rw[aO.1 h];rfl),by show(own.length+1)*296<=_;omega,ig (own++[⟨a1,a2,a3,a4,a5,a6,a7,a8,a9,La,Lb,[]⟩]),Hw own ⟨a1,a2,a3,a4,a5,a6,a7,a8,a9,La,Lb,[]⟩ _ _,?_⟩;exact BT _ (bO kK trivial oS ⟨rfl,jh p k,trivial⟩ trivial)
theorem abN (p:gr)(k:Nat)(b:Bool)(own:List bR)(x:bR)(hn:own.length<=2^31)(hb:b=false->own=[]):YJ YY p k [] [] b own false x:=by
 obtain⟨a1,a2,a3,a4,a5,a6,a7,a8,a9,La,Lb,a12⟩:=x;intro K' BT;refine⟨rfl,?_⟩;cases b with
 |false=>obtain rfl:=hb rfl;refine nO 61 2000 [(1,.ptr 1 0),(6,.ptr 6 0),(11,.ptr 2011 0),(20,.p (.sl (p.changes.map cC))),(21,.p (.int .i64 ((p.changes.map cC).length:Int))),(22,.p (.int .i64 k))] ((2011,aH (cA ⟨a1,a2,a3,a4,a5,a6,a7,a8,a9,La,Lb,a12⟩))::rJ p false []) [(144,1000,[]),(61,0,rI p k)] [.busy] kK wS oS ⟨rfl,trivial,rfl,wS,trivial⟩ ⟨mP _ _,(λzs h=>by rw[aO.1 h];rfl),(show 1*296<=140737488355328 by decide),ig [⟨a1,a2,a3,a4,a5,a6,a7,a8,a9,La,Lb,a12⟩],rfl,?_⟩;exact BT _ (bO kK trivial oS ⟨rfl,jh p k,trivial⟩ trivial)
 |true=>refine nO 61 2000 [(1,.ptr 1 0),(6,.ptr 6 0),(11,.ptr 2011 0),(20,.p (.sl (p.changes.map cC))),(21,.p (.int .i64 ((p.changes.map cC).length:Int))),(22,.p (.int .i64 k))] ((2011,aH (cA ⟨a1,a2,a3,a4,a5,a6,a7,a8,a9,La,Lb,a12⟩))::rJ p true own) [(144,1000,[]),(61,0,rI p k)] [.busy] kK wS ⟨aG kK,aG kK,aG kK,tP 2011 kK,trivial⟩ ⟨rfl,trivial,rfl,wS,trivial⟩ ?_;refine⟨own.length,Ea own _,(λzs h=>by rw[aO.1 h];rfl),by show(own.length+1)*296<=_;omega,ig (own++[⟨a1,a2,a3,a4,a5,a6,a7,a8,a9,La,Lb,a12⟩]),Hw own ⟨a1,a2,a3,a4,a5,a6,a7,a8,a9,La,Lb,a12⟩ _ _,?_⟩;exact BT _ (bO kK trivial oS ⟨rfl,jh p k,trivial⟩ trivial)
theorem yJ1 (p:gr)(k:Nat)(c:dw)(n:Nat)(ls:List Bytes)(j:Nat)(b:Bool)(own:List bR)(x:bR)(hn:own.length<=2^31)(hb:b=false->own=[])(hx:x.over=[]):YJ YY p k (BC c n ls j) [] b own true x:=by
 obtain⟨a1,a2,a3,a4,a5,a6,a7,a8,a9,La,Lb,a12⟩:=x;obtain rfl:a12=[]:=hx;intro K' BT;refine⟨rfl,?_⟩;cases b with
 |false=>obtain rfl:=hb rfl;refine nO 61 2000 [(1,.ptr 1 0),(6,.ptr 6 0),(11,.ptr 2011 0),(20,.p (.sl (p.changes.map cC))),(21,.p (.int .i64 ((p.changes.map cC).length:Int))),(22,.p (.int .i64 k))] ((2011,(aH (cA ⟨a1,a2,a3,a4,a5,a6,a7,a8,a9,La,Lb,[]⟩)).take 171++[.full []])::rJ p false []) [(144,1000,BC c n ls j),(61,0,rI p k)] [.busy] kK wS oS ⟨rfl,wS,rfl,wS,trivial⟩ ?_;refine⟨mP _ _,(λzs h=>by rw[aO.1 h];rfl),(show 1*296<=140737488355328 by decide),ig [⟨a1,a2,a3,a4,a5,a6,a7,a8,a9,La,Lb,[]⟩],rfl,?_⟩;exact BT _ (bO kK wS oS ⟨rfl,jh p k,trivial⟩ trivial)
 |true=>refine nO 61 2000 [(1,.ptr 1 0),(6,.ptr 6 0),(11,.ptr 2011 0),(20,.p (.sl (p.changes.map cC))),(21,.p (.int .i64 ((p.changes.map cC).length:Int))),(22,.p (.int .i64 k))] ((2011,(aH (cA ⟨a1,a2,a3,a4,a5,a6,a7,a8,a9,La,Lb,[]⟩)).take 171++[.full []])::rJ p true own) [(144,1000,BC c n ls j),(61,0,rI p k)] [.busy] kK wS ⟨aG kK,aG kK,aG kK,tP 2011 kK,trivial⟩ ⟨rfl,wS,rfl,wS,trivial⟩ ?_;refine⟨own.length,Ea own _,(λzs h=>by rw[aO.1 h];rfl),by show(own.length+1)*296<=_;omega,ig (own++[⟨a1,a2,a3,a4,a5,a6,a7,a8,a9,La,Lb,[]⟩]),Hw own ⟨a1,a2,a3,a4,a5,a6,a7,a8,a9,La,Lb,[]⟩ _ _,?_⟩;exact BT _ (bO kK wS oS ⟨rfl,jh p k,trivial⟩ trivial)
theorem yJ2 (p:gr)(k:Nat)(c:dw)(n L j:Nat)(fr to:bQ)(own:List bR)(x:bR)(hn:own.length<=2^31)(hx:x.over=[]):YJ YY p k (Ec c n L j) (ob5 fr to) true own true x:=by obtain⟨a1,a2,a3,a4,a5,a6,a7,a8,a9,La,Lb,a12⟩:=x;obtain rfl:a12=[]:=hx;intro K' BT;refine⟨rfl,nO 61 2000 [(1,.ptr 1 0),(6,.ptr 6 0),(11,.ptr 2011 0),(20,.p (.sl (p.changes.map cC))),(21,.p (.int .i64 ((p.changes.map cC).length:Int))),(22,.p (.int .i64 k))] ((2011,(aH (cA ⟨a1,a2,a3,a4,a5,a6,a7,a8,a9,La,Lb,[]⟩)).take 171++[.full []])::(ob5 fr to++rJ p true own)) [(144,1000,Ec c n L j),(61,0,rI p k)] [.busy] kK wS ⟨aG kK,aG kK,aG kK,aG kK,aG kK,tP 2011 kK,trivial⟩ ⟨rfl,wS,rfl,wS,trivial⟩ ?_⟩;refine⟨own.length,Ea own _,(λzs h=>by rw[aO.1 h];rfl),by show(own.length+1)*296<=_;omega,ig (own++[⟨a1,a2,a3,a4,a5,a6,a7,a8,a9,La,Lb,[]⟩]),Hw own ⟨a1,a2,a3,a4,a5,a6,a7,a8,a9,La,Lb,[]⟩ _ _,?_⟩;exact BT _ (bO kK wS oS ⟨rfl,jh p k,trivial⟩ trivial)
theorem ag7 (p:gr)(c:dw)(k:Nat)(Y:pn)(K:FV->an->Prop)(b:Bool)(own:List bR)(hk:c.kind=1)(hn:own.length<=2^30)(hY:YJ Y p k [] [] b own true ⟨cw own.length,1,cw own.length,c.type,aP,[],0,[],[],aP,aP,[]⟩)(hK:∀r,K r (Pp p k true (own++[⟨cw own.length,1,cw own.length,c.type,aP,[],0,[],[],aP,aP,[]⟩]))):mz CJ 6 Y 265 [.mh 1000000,.p (.imp [.int .i64 (own.length:Int)]),.p (.imp (cC c))] K (Pp p k b own):=by refine⟨_,Tryz.func265,rfl,rfl,rfl,_,cU.refl _,[],nO 144 1000 [(0,.mh 1000000),(1,.p (.imp [.int .i64 (own.length:Int)])),(2,.p (.imp (cC c))),(4,.fn (.func 266) [] [.p (.imp [.int .i64 (own.length:Int)])]),(13,.p (.int .i64 c.kind))] (rJ p b own) [(61,0,rI p k)] [.ready] kK wS (Co p b own) ⟨rfl,jh p k,trivial⟩ (aC (λ_=>?_) (λh=>absurd hk h))⟩;exact bZ 8 kK ⟨_,(fK own.length 0 oO).eG,_,(fK own.length 0 oO).eG,_,rfl,itJ p k [] [] b own,bO kK trivial (Co p b own) ⟨rfl,jh p k,trivial⟩ trivial,hY _ λS' hw=>⟨_,hw,nO 61 0 (rI p k) (rJ p true (own++[⟨cw own.length,1,cw own.length,c.type,aP,[],0,[],[],aP,aP,[]⟩])) [] [.ready] kK (jh p k) oS trivial (hK _)⟩⟩
theorem ag8 (p:gr)(c:dw)(k:Nat)(Y:pn)(K:FV->an->Prop)(b:Bool)(own:List bR)(hk:c.kind=2)(hn:own.length<=2^30)(hY:YJ Y p k [] [] b own false ⟨cw own.length,2,c.file,0,c.parent,c.name,0,[],[],aP,aP,c.over⟩)(hK:∀r,K r (Pp p k true (own++[⟨cw own.length,2,c.file,0,c.parent,c.name,0,[],[],aP,aP,c.over⟩]))):mz CJ 6 Y 265 [.mh 1000000,.p (.imp [.int .i64 (own.length:Int)]),.p (.imp (cC c))] K (Pp p k b own):=by refine⟨_,Tryz.func265,rfl,rfl,rfl,_,cU.refl _,[],nO 144 1000 [(0,.mh 1000000),(1,.p (.imp [.int .i64 (own.length:Int)])),(2,.p (.imp (cC c))),(4,.fn (.func 266) [] [.p (.imp [.int .i64 (own.length:Int)])]),(13,.p (.int .i64 c.kind))] (rJ p b own) [(61,0,rI p k)] [.ready] kK wS (Co p b own) ⟨rfl,jh p k,trivial⟩ (aC (λh=>absurd (show c.kind=1 from h) oO) (λ_=>aC (λ_=>?_) (λh=>absurd hk h)))⟩;exact bZ 12 kK ⟨_,(fK own.length 0 oO).eG,_,rfl,itJ p k [] [] b own,bO kK trivial (Co p b own) ⟨rfl,jh p k,trivial⟩ trivial,hY _ λS' hw=>⟨_,hw,nO 61 0 (rI p k) (rJ p true (own++[⟨cw own.length,2,c.file,0,c.parent,c.name,0,[],[],aP,aP,c.over⟩])) [] [.ready] kK (jh p k) oS trivial (hK _)⟩⟩
theorem ag9 (p:gr)(c:dw)(k:Nat)(Y:pn)(K:FV->an->Prop)(b:Bool)(own:List bR)(hk:c.kind=3)(hn:own.length<=2^30)(hY:YJ Y p k [] [] b own false ⟨cw own.length,3,c.file,0,aP,[],c.mode,[],[],aP,aP,c.over⟩)(hK:∀r,K r (Pp p k true (own++[⟨cw own.length,3,c.file,0,aP,[],c.mode,[],[],aP,aP,c.over⟩]))):mz CJ 6 Y 265 [.mh 1000000,.p (.imp [.int .i64 (own.length:Int)]),.p (.imp (cC c))] K (Pp p k b own):=by refine⟨_,Tryz.func265,rfl,rfl,rfl,_,cU.refl _,[],nO 144 1000 [(0,.mh 1000000),(1,.p (.imp [.int .i64 (own.length:Int)])),(2,.p (.imp (cC c))),(4,.fn (.func 266) [] [.p (.imp [.int .i64 (own.length:Int)])]),(13,.p (.int .i64 c.kind))] (rJ p b own) [(61,0,rI p k)] [.ready] kK wS (Co p b own) ⟨rfl,jh p k,trivial⟩ (aC (λh=>absurd (show c.kind=1 from h) oO) (λ_=>aC (λh=>absurd (show c.kind=2 from h) oO) (λ_=>aC (λ_=>?_) (λh=>absurd hk h))))⟩;exact bZ 10 kK ⟨_,(fK own.length 0 oO).eG,_,rfl,itJ p k [] [] b own,bO kK trivial (Co p b own) ⟨rfl,jh p k,trivial⟩ trivial,hY _ λS' hw=>⟨_,hw,nO 61 0 (rI p k) (rJ p true (own++[⟨cw own.length,3,c.file,0,aP,[],c.mode,[],[],aP,aP,c.over⟩])) [] [.ready] kK (jh p k) oS trivial (hK _)⟩⟩
theorem aha (p:gr)(c:dw)(k:Nat)(Y:pn)(K:FV->an->Prop)(b:Bool)(own:List bR)(hk:c.kind=4)(hn:own.length<=2^30)(hY:YJ Y p k [] [] b own false ⟨cw own.length,4,c.file,0,aP,[],0,c.data,[],aP,aP,c.over⟩)(hK:∀r,K r (Pp p k true (own++[⟨cw own.length,4,c.file,0,aP,[],0,c.data,[],aP,aP,c.over⟩]))):mz CJ 6 Y 265 [.mh 1000000,.p (.imp [.int .i64 (own.length:Int)]),.p (.imp (cC c))] K (Pp p k b own):=by refine⟨_,Tryz.func265,rfl,rfl,rfl,_,cU.refl _,[],nO 144 1000 [(0,.mh 1000000),(1,.p (.imp [.int .i64 (own.length:Int)])),(2,.p (.imp (cC c))),(4,.fn (.func 266) [] [.p (.imp [.int .i64 (own.length:Int)])]),(13,.p (.int .i64 c.kind))] (rJ p b own) [(61,0,rI p k)] [.ready] kK wS (Co p b own) ⟨rfl,jh p k,trivial⟩ (aC (λh=>absurd (show c.kind=1 from h) oO) (λ_=>aC (λh=>absurd (show c.kind=2 from h) oO) (λ_=>aC (λh=>absurd (show c.kind=3 from h) oO) (λ_=>aC (λ_=>?_) (λh=>absurd hk h)))))⟩;exact bZ 10 kK ⟨_,(fK own.length 0 oO).eG,_,rfl,itJ p k [] [] b own,bO kK trivial (Co p b own) ⟨rfl,jh p k,trivial⟩ trivial,hY _ λS' hw=>⟨_,hw,nO 61 0 (rI p k) (rJ p true (own++[⟨cw own.length,4,c.file,0,aP,[],0,c.data,[],aP,aP,c.over⟩])) [] [.ready] kK (jh p k) oS trivial (hK _)⟩⟩
theorem ahb (p:gr)(c:dw)(k:Nat)(Y:pn)(K:FV->an->Prop)(b:Bool)(own:List bR)(hk:c.kind=6)(hn:own.length<=2^30)(hY:YJ Y p k [] [] b own false ⟨cw own.length,6,c.file,0,aP,[],0,[],[],c.cQ,c.dc,c.over⟩)(hK:∀r,K r (Pp p k true (own++[⟨cw own.length,6,c.file,0,aP,[],0,[],[],c.cQ,c.dc,c.over⟩]))):mz CJ 6 Y 265 [.mh 1000000,.p (.imp [.int .i64 (own.length:Int)]),.p (.imp (cC c))] K (Pp p k b own):=by refine⟨_,Tryz.func265,rfl,rfl,rfl,_,cU.refl _,[],nO 144 1000 [(0,.mh 1000000),(1,.p (.imp [.int .i64 (own.length:Int)])),(2,.p (.imp (cC c))),(4,.fn (.func 266) [] [.p (.imp [.int .i64 (own.length:Int)])]),(13,.p (.int .i64 c.kind))] (rJ p b own) [(61,0,rI p k)] [.ready] kK wS (Co p b own) ⟨rfl,jh p k,trivial⟩ (aC (λh=>absurd (show c.kind=1 from h) oO) (λ_=>aC (λh=>absurd (show c.kind=2 from h) oO) (λ_=>aC (λh=>absurd (show c.kind=3 from h) oO) (λ_=>aC (λh=>absurd (show c.kind=4 from h) oO) (λ_=>aC (λ_=>?_) (λh=>absurd hk h))))))⟩;exact bZ 12 kK ⟨_,(fK own.length 0 oO).eG,_,rfl,itJ p k [] [] b own,bO kK trivial (Co p b own) ⟨rfl,jh p k,trivial⟩ trivial,hY _ λS' hw=>⟨_,hw,nO 61 0 (rI p k) (rJ p true (own++[⟨cw own.length,6,c.file,0,aP,[],0,[],[],c.cQ,c.dc,c.over⟩])) [] [.ready] kK (jh p k) oS trivial (hK _)⟩⟩
theorem ahc (p:gr)(c:dw)(k:Nat)(Y:pn)(K:FV->an->Prop)(b:Bool)(own:List bR)(hk:c.kind=7)(hn:own.length<=2^30)(hY:YJ Y p k [] [] b own false ⟨cw own.length,7,aP,0,aP,[],0,[],[],aP,aP,c.over⟩)(hK:∀r,K r (Pp p k true (own++[⟨cw own.length,7,aP,0,aP,[],0,[],[],aP,aP,c.over⟩]))):mz CJ 6 Y 265 [.mh 1000000,.p (.imp [.int .i64 (own.length:Int)]),.p (.imp (cC c))] K (Pp p k b own):=by refine⟨_,Tryz.func265,rfl,rfl,rfl,_,cU.refl _,[],nO 144 1000 [(0,.mh 1000000),(1,.p (.imp [.int .i64 (own.length:Int)])),(2,.p (.imp (cC c))),(4,.fn (.func 266) [] [.p (.imp [.int .i64 (own.length:Int)])]),(13,.p (.int .i64 c.kind))] (rJ p b own) [(61,0,rI p k)] [.ready] kK wS (Co p b own) ⟨rfl,jh p k,trivial⟩ (aC (λh=>absurd (show c.kind=1 from h) oO) (λ_=>aC (λh=>absurd (show c.kind=2 from h) oO) (λ_=>aC (λh=>absurd (show c.kind=3 from h) oO) (λ_=>aC (λh=>absurd (show c.kind=4 from h) oO) (λ_=>aC (λh=>absurd (show c.kind=6 from h) oO) (λ_=>aC (λ_=>?_) (λh=>absurd hk h)))))))⟩;exact bZ 6 kK ⟨_,(fK own.length 0 oO).eG,_,rfl,itJ p k [] [] b own,bO kK trivial (Co p b own) ⟨rfl,jh p k,trivial⟩ trivial,hY _ λS' hw=>⟨_,hw,nO 61 0 (rI p k) (rJ p true (own++[⟨cw own.length,7,aP,0,aP,[],0,[],[],aP,aP,c.over⟩])) [] [.ready] kK (jh p k) oS trivial (hK _)⟩⟩
theorem Ru (p:gr)(c:dw)(k:Nat)(K:FV->an->Prop)(b:Bool)(own:List bR)(hn:own.length<=2^30)(hb:b=false->own=[])(h:cG c=0)(hK:∀r,K r (Pp p k true (own++cu c own.length))):mz CJ 6 YY 265 [.mh 1000000,.p (.imp [.int .i64 (own.length:Int)]),.p (.imp (cC c))] K (Pp p k b own):=by
 obtain⟨g1,g2,g3,g4,g5,-⟩:=eD h;have hn2:own.length<=2^31:=oO
 by_cases h1:c.kind=1;rw[aa4 c _ h1]at hK;exact ag7 p c k YY K b own h1 hn (alG p k b own _ hn2 hb rfl) hK;by_cases h2:c.kind=2;rw[aa6 c _ h2]at hK;exact ag8 p c k YY K b own h2 hn (abN p k b own _ hn2 hb) hK;by_cases h3:c.kind=3;rw[aa8 c _ h3]at hK;exact ag9 p c k YY K b own h3 hn (abN p k b own _ hn2 hb) hK;by_cases h4:c.kind=4;rw[aba c _ h4]at hK;exact aha p c k YY K b own h4 hn (abN p k b own _ hn2 hb) hK;by_cases h6:c.kind=6;rw[abc c _ h6]at hK;exact ahb p c k YY K b own h6 hn (abN p k b own _ hn2 hb) hK;by_cases h7:c.kind=7;rw[abe c _ h7]at hK;exact ahc p c k YY K b own h7 hn (abN p k b own _ hn2 hb) hK;have h5:c.kind=5:=oO
 rw[abg c _ h5]at hK;exact ahd p c k YY K b own h5 hn hb c.lines rfl (g3 h5).1 (Ag h h5) (λj b xT x hl hb hx=>yJ1 p k c own.length c.lines j b xT x hl hb hx) (λj fr to Bh x hl hx=>yJ2 p k c own.length c.lines.length j fr to Bh x hl hx) hK
theorem Jr (p:gr)(hz:Rc p)(ai9:(tR p).2=0->av C 252 [.agg (cP p)] (λr=>r=.val (.eN [.str (eX (kC p)),.int .i64 0]))):av C 176 [.agg (cP p)] (λr=>exR p (tR p) r):=by
 obtain⟨E,YZ⟩:∃E,tR p=E:=⟨_,rfl⟩;rw[YZ]at ai9⊢;have YZ:E=tR p:=YZ.symm;unfold tR at YZ;have bad:∀e:Int,e≠0->E=([],e)->exR p E (.val (.eN [.sl [],.str [],.int .i64 e])):=λe h h2=>by unfold exR;rw[h2,ag h]
 refine Ae {qZ with opens:=[45]} [2,16] Tryz.func176 rfl rfl rfl (cl (abz p hz).eG ⟨_,cU.refl _,cm (λh=>?_) (λh=>?_)⟩);rw[ag h]at YZ;exact bad _ h YZ;have h:yI p=0:=h;rw[af (λg=>g h)]at YZ;have mF:1<=p.changes.length/\p.changes.length<=400:=XH h;have hze:=hz.each;have hcP:cP p=[.str p.fQ,.str p.message,.int .i64 p.time,.sl (pe p.deps),.sl (AO p.changes)]:=rfl;refine bJ 61 (λx:Nat×Bool×List bR=>[(1,.ptr 1 0),(6,.ptr 6 0),(20,.p (.sl (p.changes.map cC))),(21,.p (.int .i64 ((p.changes.map cC).length:Int))),(22,.p (.int .i64 x.1))]) (λx=>(1,aH (cP p))::ai6 x.2.1 x.2.2) (λx=>x.1<=p.changes.length/\x.2.2.length<=4001*x.1/\(x.2.1=false->x.1=0/\x.2.2=[])/\E=xS (p.changes.drop x.1) x.2.2) (λx=>p.changes.length-x.1) (0,false,[]) ⟨zL,zL,λ_=>⟨rfl,rfl⟩,YZ⟩ rfl wS oS ?_;rintro⟨k,b,own⟩ ⟨hk,hn,hb,hE⟩;have hk:k<=p.changes.length:=hk;have hn:own.length<=4001*k:=hn;have hE:E=xS (p.changes.drop k) own:=hE;refine cq (λhlt=>?_) (λhge=>?_);have hc:=hze _ (aQ hlt);have fW:(p.changes.map cC)[((k:Nat):Int).toNat]?=some (cC p.changes[k]):=eC rfl hlt;rw[bY hlt,Af]at hE;generalize p.changes[k]=c at hc fW hE;cases b with
 |false=>
  obtain⟨YU,ho0⟩:=hb rfl;have YU:k=0:=YU;obtain rfl:own=[]:=ho0;refine⟨oO,_,fW,rfl,?_⟩;refine cl (yJ c hc).eG (cm (λh=>?_) (λh=>?_));rw[ag h]at hE;exact bad _ h hE;have h:cG c=0:=h;rw[af (λg=>g h)]at hE;obtain⟨g1,g2,g3,g4,g5,-⟩:=eD h;obtain⟨o5,o6⟩:=pR g5 g1 g2;have o1:c.kind=1\/c.kind=5->c.over=[]:=λq=>q.elim (λq=>Mg g5 q) o5;have o4:c.over.length<=400:=by by_cases q:c.kind=5;rw[o5 q];exact zL;exact g4 q
  refine cl (BB c [] g1 g2 (zL) o4 o1).eG (cm (λh2=>?_) (λh2=>?_));rw[ag h2]at hE;exact bad _ h2 hE;have h2:xR c []=0:=h2;rw[af (λg=>g h2)]at hE;have hE:E=xS (p.changes.drop (k+1)) (cu c 0):=hE;refine cl (Cn c 0).eG ?_;have hml:=uD h ([]:List bR).length;refine Jq (T:=Pp p k false []) (bO kK wS oS trivial trivial) (Ru p c k _ false [] (by show 0<=2^30;decide) (λ_=>rfl) h λr=>?_);exact nx (k+1) (aT (k+1,true,[]++cu c ([]:List bR).length) ⟨hlt,by show([]++cu c ([]:List bR).length).length<=4001*(k+1);rw[aA];simp only[bt]at hml⊢;omega,(λh=>nomatch h),hE⟩ mM rfl wS oS)
 |true=>
  refine⟨oO,_,fW,rfl,?_⟩;refine cl (yJ c hc).eG (cm (λh=>?_) (λh=>?_));rw[ag h]at hE;exact bad _ h hE;have h:cG c=0:=h;rw[af (λg=>g h)]at hE;obtain⟨g1,g2,g3,g4,g5,-⟩:=eD h;obtain⟨o5,o6⟩:=pR g5 g1 g2;have o1:c.kind=1\/c.kind=5->c.over=[]:=λq=>q.elim (λq=>Mg g5 q) o5;have o4:c.over.length<=400:=by by_cases q:c.kind=5;rw[o5 q];exact zL;exact g4 q
  refine .inr (.inl (.inr ⟨[.agg (cC c),.sl (gI own)],_,.cons (.plain rfl) (.cons (.gH rfl (.plain (by rw[KZ];exact bI _)) (DZ own)) .nil),(BB c own g1 g2 oO o4 o1).eG,λr hr=>?_⟩));subst hr;refine⟨⟨_,rfl,rfl⟩,cm (λh2=>?_) (λh2=>?_)⟩;rw[ag h2]at hE;exact bad _ h2 hE;have h2:xR c own=0:=h2;rw[af (λg=>g h2)]at hE;refine⟨own.length,Ea own _,cl (Cn c own.length).eG ?_⟩;have hml:=uD h (own:List bR).length;refine Jq (T:=Pp p k true own) (bO kK wS ⟨aG kK,aG kK,aeM 1000000 8 kK,trivial⟩ trivial trivial) (Ru p c k _ true own oO (λh=>nomatch h) h λr=>?_);exact nx (k+1) (aT (k+1,true,own++cu c (own:List bR).length) ⟨hlt,by show(own++cu c (own:List bR).length).length<=4001*(k+1);rw[aA];omega,(λh=>nomatch h),hE⟩ mM rfl wS oS)
 have hE0:E=(own,0):=by rw[hE,cZ (show p.changes.length<=k by omega)];rfl
 obtain rfl:k=p.changes.length:=oO
 cases b with
 |false=>have :=(hb rfl).1;omega
 |true=>
  refine cl (ai9 (by rw[hE0])).eG ?_;refine⟨none,cm (λh=>absurd rfl h) (λ_=>aF (λh=>?_) (λh=>?_))⟩;have h:¬(eX (kC p)).length<=65536:=by have :((eX (kC p)).length:Int)>65536:=h;omega
  show exR p E (.val (.eN [.sl [],.str [],.int .i64 4]));unfold exR;rw[hE0,af (λg=>g rfl),af h];have h:(eX (kC p)).length<=65536:=by have :¬((eX (kC p)).length:Int)>65536:=h;omega
  refine⟨gI own,DZ own,bI _,?_⟩;show exR p E (.own (some [.str (eX (kC p)),.int .i64 0]) 109 172 (gI own));unfold exR;rw[hE0,af (λg=>g rfl),ag h]
theorem TX (c:dw)(f:Nat):(dU c f).id=cw f:=by
 unfold dU;repeat' split
 all_goals rfl
theorem XL (c:dw)(f:Nat):∀(i:Nat)(h:i<(cu c f).length),(cu c f)[i].id=cw ((f+i:Nat):Int):=by
 intro i h;unfold cu at h⊢;by_cases h5:c.kind=5;simp only[ag h5]at h⊢;by_cases hi:i<c.lines.length;rw[List.getElem_append_left (by simpa using hi)];simp[nK];rw[List.getElem_append_right (by simpa using hi)];simp only[aj,fe,qA,qz,kD,cw];congr 2;omega;simp only[af h5]at h⊢;obtain rfl:i=0:=by simpa using h
 exact TX c f
theorem Jv {own:List bR}(h:KY own)(c:dw):KY (own++cu c own.length):=by intro n hn;by_cases hl:n<own.length;rw[List.getElem_append_left hl];exact h n hl;rw[List.getElem_append_right oO,XL];show(⟨aZ,_⟩:bQ)=_;congr 2;omega
theorem Mk:∀(l:List dw)(own:List bR),(iG l own).2=0->∃t,(iG l own).1=own++t|[],own,_=>⟨[],(bh _).symm⟩|c::l,own,h=>by rw[iQ]at h⊢;by_cases h1:cG c≠0;rw[ag h1]at h;exact absurd h h1;rw[af h1]at h⊢;by_cases h2:jA c own≠0;rw[ag h2]at h;exact absurd h h2;rw[af h2]at h⊢;obtain⟨t,ht⟩:=Mk l _ h;exact⟨cu c own.length++t,by rw[ht,bq]⟩
theorem Ml:∀(l:List dw)(own:List bR),KY own->(iG l own).2=0->(iG l own).1.length<=100000->xS l own=iG l own
 |[],own,_,_,_=>rfl
 |c::l,own,hn,h,hl=>by
  obtain⟨t,ht⟩:=Mk _ _ h;have hlen:own.length<=100000:=by rw[ht,aA]at hl;omega
  rw[Af,Mf c own hlen hn];rw[iQ]at h hl⊢;by_cases h1:cG c≠0;rw[ag h1]at h;exact absurd h h1;rw[af h1]at h hl;rw[af h1,af h1];by_cases h2:jA c own≠0;rw[ag h2]at h;exact absurd h h2;rw[af h2]at h hl;rw[af h2,af h2];exact Ml l _ (Jv hn c) h hl
structure sV (p:gr):Prop where
 fit:DW p
 ok:(mg p).2=0
 few:(di p).1.length<=100000
theorem sV.YQ {p:gr}(h:sV p):(di p).2=0:=by have :=h.ok;unfold mg at this;by_cases g:(di p).2≠0;rw[ag g]at this;exact absurd this g;exact cK.1 g
theorem sV.SI {p:gr}(h:sV p):SH p:=su h.YQ
theorem sV.len {p:gr}(h:sV p):(eX (kC p)).length<=65536:=by have :=h.ok;unfold mg at this;rw[af (λg=>g h.YQ)]at this;by_cases g:(eX (kC p)).length<=65536;exact g;rw[af g]at this;exact absurd this dD
theorem sV.alP {p:gr}(h:sV p):tR p=di p:=by have hc:=h.YQ;have hf:=h.few;rw[Jm]at hc hf⊢;unfold tR;by_cases g:yI p≠0;rw[ag g]at hc;exact absurd hc g;rw[af g]at hc hf;rw[af g,af g];exact Ml _ _ (λn hn=>absurd hn (jL _)) hc hf
theorem Mm {p:gr}(h:SH p):∀d,d∈p.deps->d≠aZ:=by
 intro d hd e;have hde:=h.deps;unfold nv at hde;by_cases g:100<p.deps.length;rw[ag g]at hde;exact absurd hde dD;rw[af g]at hde;obtain⟨i,hi,rfl⟩:=fS hd;have key:∀{l:List Int},bf l=0->∀e,e∈l->e=0:=by
  intro l;induction l with
  |nil=>intro _ e h;cases h
  |cons a l ih=>intro h e he;by_cases h0:a=0;rw[dz h0]at h;rcases aL.1 he with rfl|he;exact h0;exact ih h e he;rw[ee h0]at h;exact absurd h h0
 have :=key hde (zW p.deps i) (aJ.2 ⟨i,fO.2 hi,rfl⟩);rw[On hi,ag e]at this;exact absurd this dD
theorem aeZ {p:gr}(h:sV p):av C 252 [.agg (cP p)] (λr=>r=.val (.eN [.str (eX (kC p)),.int .i64 0])):=by have ho:=h.SI;refine Ju p (h.fit.enc ho) (by have :=wB ho;omega) (Mm ho) (by have :=ho.changes;omega) λc hc=>?_;obtain⟨g1,g2,g3,g4,g5,-⟩:=eD (ho.each c hc);obtain⟨k1,k2⟩:=pR g5 g1 g2;refine⟨g1,g2,?_,?_⟩;by_cases h5:c.kind=5;have :=(g3 h5).1;omega;rw[k2 h5];exact zL;by_cases h5:c.kind=5;rw[k1 h5];exact zL;have :=g4 h5;omega
theorem Ak {p:gr}(h:sV p):av C 176 [.agg (cP p)] (λr=>r=.own (some [.str (eX (kC p)),.int .i64 0]) 109 172 (gI (di p).1)):=by have hx:=Jr p h.fit.sz λ_=>aeZ h;rw[h.alP]at hx;refine av.mono hx λr hr=>?_;unfold exR at hr;rw[af (λg=>g h.YQ),ag h.len]at hr;exact hr
theorem TY {p:gr}(h:(mg p).2=0):jB p=(QU (eX (kC p)),0):=by unfold jB;rw[af (λg=>g h),(AP h).2]
theorem OG {p:gr}(h:sV p):av C 107 [.agg (cP p)] (λr=>r=.val (.eN [.str (eX (kC p)),.int .i64 0])):=by exact bu qZ [] Tryz.func107 rfl rfl rfl (cl (Ak h).eG ⟨_,rfl,rfl⟩)
theorem Gr {p:gr}(h:sV p):av C 110 [.agg (cP p)] (λr=>r=.val (.int .i64 0)):=by exact bu qZ [] Tryz.func110 rfl rfl rfl (cl (Ak h).eG ⟨_,rfl,rfl⟩)
theorem Ee {p:gr}(h:sV p):av C 41 [.agg (cP p)] (λr=>r=.val (idR (jB p))):=by rw[TY h.ok];refine ak Tryz.func41 rfl rfl rfl (cl (OG h) (cm (λg=>absurd rfl g) (λ_=>cl (VN (eX (kC p)) (by have :=h.len;omega)) ?_)));exact rfl
theorem Ud {x:bQ}{d:Dg}(h:x.p=aZ)(h0:0<=x.n):aS x d=⟨d,x.n⟩:=ag ⟨h,h0⟩
theorem rM (x:bQ)(d:Dg):av C 235 [.agg (cI x),.imp (cD d)] (λr=>r=.val (.agg (cI (aS x d)))):=by refine ak Tryz.func235 rfl rfl rfl ⟨none,cl (fV x) ?_⟩;unfold aS;by_cases h:x.p=aZ;rw[ah h];refine aF (λh2=>?_) (λh2=>?_);rw[ag ⟨h,h2⟩];exact rfl;rw[af λg=>h2 g.2];exact rfl;rw[ai h,af λg=>h g.1];exact rfl
theorem VY {aK:List (Nat×List FV)}{o:Nat}{own:List bR}(k j i:Nat)(h:Qv.getObj aK o=some (FV.fu k (FV.fu j (FV.fu i (ig own))))):∃ys,Qv.getObj aK o=some ys/\ys.length=(ig own).length/\∀(i:Nat)(x y:FV),ys[i]?=some x->(ig own)[i]?=some y->bw x y:=by rw[KZ,KZ,KZ]at h;exact aG h
theorem Fu (d E:Nat)(rj:List (List AV)):∀l:List AV,FV.CM d E rj (aH l)=aH l|[]=>rfl|x::l=>by simp only[aH,FV.CM,FV.Kv,Fu d E rj l]
def pT (own:List bR)(d:Dg)(k:Nat):List bR:=(own.take k).map (cM d)++own.drop k
theorem Ue (own:List bR)(d:Dg):pT own d 0=own:=rfl
theorem XU (own:List bR)(d:Dg)(k:Nat):(pT own d k).length=own.length:=by unfold pT;simp;omega
theorem XV (own:List bR)(d:Dg):pT own d own.length=own.map (cM d):=by unfold pT;simp
theorem abV {own:List bR}{k:Nat}(h:k<own.length)(d:Dg):ig (pT own d k)=ig ((own.take k).map (cM d))++(aH (cA own[k])++ig (own.drop (k+1))):=by unfold pT;rw[bY h,Eb,<-tq,Eb,Rs]
theorem Uf {own:List bR}{k:Nat}(h:k<own.length)(d:Dg):ig (pT own d (k+1))=ig ((own.take k).map (cM d))++(aH (cA (cM d own[k]))++ig (own.drop (k+1))):=by unfold pT;rw[cR h,aD,bq,Eb,Eb,xV,Rs]
theorem RM {A B X:List FV}{z w:FV}(hz:bw z w){aK:List (Nat×List FV)}{o:Nat}(h:Qv.getObj aK o=some (A++((X++[z])++B))){Y:List FV}(hY:Y=A++((X++[w])++B)):∃ys,Qv.getObj aK o=some ys/\ys.length=Y.length/\∀(i:Nat)(x y:FV),ys[i]?=some x->Y[i]?=some y->bw x y:=by
 subst hY;refine⟨_,h,by simp,λi x y h1 h2=>?_⟩;have e1:A++((X++[z])++B)=(A++X)++(z::B):=by simp
 have e2:A++((X++[w])++B)=(A++X)++(w::B):=by simp
 rw[e1]at h1;rw[e2]at h2;by_cases hl:i<(A++X).length;rw[cF hl]at h1 h2;rw[h1]at h2;exact bw.eq (aq h2);rw[dN oO]at h1 h2;cases hi:i-(A++X).length with
 |zero=>rw[hi]at h1 h2;cases h1;cases h2;exact hz
 |succ n=>rw[hi]at h1 h2;simp only[mI]at h1 h2;rw[h1]at h2;exact bw.eq (aq h2)
theorem ajl (d:Dg)(a:bR):(st2 d a).kind=a.kind:=by unfold st2;split<;>rfl
theorem ajm (d:Dg)(a:bR):(Ci d a).kind=a.kind:=by unfold Ci;split<;>rfl
theorem VZ {l:List bQ}:∀ys,ys∈oZ l->ys.length=33/\∀y,y∈ys->y.one=true:=by intro ys h;obtain⟨x,-,rfl⟩:=aJ.1 h;exact⟨rfl,λy hy=>bD.1 (show(cI x).all AV.one=true from rfl) y hy⟩
theorem abW (l:List bQ):(oZ l).flatten.length=l.length*33:=by rw[ic (e:=33) λzs h=>(VZ zs h).1];simp[oZ]
theorem ahk (x:bQ):ahh (cI x):=by intro y hy;have :=bD.1 (show(cI x).all (λy=>match y with|.int _ _=>true|_=>false)=true from rfl) y hy;cases y<;>first|exact⟨_,_,rfl⟩|cases this
theorem ae1 (l:List bQ)(x:bQ)(o:Nat):FV.fu o (aH (oZ l).flatten++aH [cI x].flatten)=aH (oZ (l++[x])).flatten:=by
 have :aH (oZ l).flatten++aH [cI x].flatten=aH (oZ (l++[x])).flatten:=by unfold oZ;rw[aD,tQ,eZ,eZ,eZ,aD];rfl
 rw[this];exact js o _
theorem alS:Sort.SWO (Proofs.ltOf gb):=⟨λx=>by unfold Proofs.ltOf;exact ai (pS x),λx y z h1 h2=>by unfold Proofs.ltOf at*;exact ah (pG (dn h1) (dn h2)),λx y z h1 h2=>by
 unfold Proofs.ltOf at*;refine ai λh=>?_;have h1:=qH h1;have h2:=qH h2;by_cases e:gb y x=0;rw[wG e]at h2;exact h2 h;have :=ov x y;have h3:gb y x<0:=oO
 exact h2 (pG h3 h)⟩
theorem Ug (Cx:Ctx)(hP:Cx.P=Tryz.prog)(l:List bQ)(hl:l.length<=2^40):Zg Cx 236 54 33 (oZ l).flatten [.fn (.func 96) [] []] (λr ys=>r=false/\ys=(oZ (uF l)).flatten):=Mo cI 33 (λ_=>rfl) ahk Tryz.sortI152 dD Tryz.isAgg54 Tryz.sizeOf54 gb alS (λx y h1 h2=>by have :=ov x y;exact wG oO) 96 (enters_of Tryz.func96 kK rfl) TZ Cx hP ⟨_,Tryz.func236,rfl,rfl⟩ 54 l oO
theorem abX (d:Nat)(ys X:List AV):FV.SJ d ys (aH X)=aH X:=by rw[FV.vF,eZ,fP];rfl
theorem af9 (own:List bR)(k d:Nat)(ys:List AV):FV.SJ d ys (FV.fu k (ig own))=ig own:=by rw[KZ];exact abX d ys _
theorem abY {aK:List (Nat×List FV)}{o:Nat}{own:List bR}(k d:Nat)(ys:List AV)(h:Qv.getObj aK o=some (FV.SJ d ys (FV.fu k (ig own)))):∃zs,Qv.getObj aK o=some zs/\zs.length=(ig own).length/\∀(i:Nat)(x y:FV),zs[i]?=some x->(ig own)[i]?=some y->bw x y:=by rw[af9]at h;exact aG h
theorem JB {p:gr}(h:sV p)(hn:∀a,a∈(di p).1->(a.over.map λx=>aS x (jB p).1).Nodup)(hid:KY (di p).1):av C 172 [.agg (cP p)] (λr=>r=.own (some [.int .i64 0]) 109 172 (gI ((di p).1.map (cM (jB p).1)))):=by
 have hbd:=(qD p).2;have ahl:=h.few;have hI:=TY h.ok;refine bu {qZ with opens:=[85],Nj:=[25]} [14,16,18] Tryz.func172 rfl rfl rfl (cl (Ak h).eG ?_);generalize(di p).1=own at hn hbd hid ahl⊢;refine⟨ig own,rfl,cm (λg=>absurd rfl g) (λ_=>cl (Ee h).eG ?_)⟩;rw[hI]at hn⊢;generalize QU (eX (kC p))=d at hn⊢;refine cm (λg=>absurd rfl g) (λ_=>⟨[7],dA (cells:=aH (cD d)) (ys:=cD d) rfl (bI _) rfl ?_⟩);refine⟨own.length,by rw[af9];exact OC own,?_⟩;refine bJ 97 (λk:Nat=>[(4,.gH 16 109 172),(8,.fn (.func 235) [] [.p (.imp (cD d))]),(32,.gH 16 109 172),(33,.p (.int .i64 (own.length:Int))),(34,.p (.int .i64 k))]) (λk=>[(16,ig (pT own d k))]) (λk=>k<=own.length) (λk=>own.length-k) 0 (zL) kK wS ⟨(by rw[Ue];exact abY 7 7 (cD d) kK),trivial⟩ ?_;intro k hk;refine aF (λhlt=>?_) (λhge=>?_)
 ·have hlt:k<own.length:=by have :(k:Int)<(own.length:Int):=hlt;omega
  have qS:=abV hlt d;have hnext:=Uf hlt d;have Ti:=hn own[k] (aQ _);have Aa:=hbd own[k] (aQ _);have ahm:=hid k hlt;have RN:(ig ((own.take k).map (cM d))).length=k*172:=by rw[OC,aj,aR];congr 1;omega
  have hCl:(ig (pT own d k)).length=own.length*172:=by rw[OC,XU]
  generalize own[k]=a at qS hnext Ti Aa ahm;generalize ig ((own.take k).map (cM d))=A at qS hnext RN;generalize ig (own.drop (k+1))=B at qS hnext;have hle:k*172+172<=own.length*172:=oO
  refine⟨k,k*172,rfl,rfl,by rw[hCl];exact hle,?_⟩;refine⟨A,aH (cA a),B,qS,RN,cl (rM a.id d).eG ?_⟩;have hw1:aS a.id d=⟨d,a.id.n⟩:=Ud (by rw[ahm]) (by rw[ahm];exact tM k);rw[hw1];have h1k:(st1 d a).kind=a.kind:=rfl;refine share (T:=?T1) (λH1=>?m1) ?r1;case m1=>refine cm (λh7=>?_) (λh7=>?_);refine cl (rM a.file d).eG (de 97 [(4,.gH 16 109 172),(8,.fn (.func 235) [] [.p (.imp (cD d))]),(32,.gH 16 109 172),(33,.p (.int .i64 (own.length:Int))),(34,.p (.int .i64 k)),(9,.p (.int .i64 k)),(10,.ptr 10 0)] [(10,aH (cA (st2 d (st1 d a)))),(16,ig (pT own d k))] kK wS ⟨(by rw[show st2 d (st1 d a)={st1 d a with file:=aS a.file d}from ag h7];exact aG kK),tP 10 kK,trivial⟩ ?_);exact H1.out;refine de 97 [(4,.gH 16 109 172),(8,.fn (.func 235) [] [.p (.imp (cD d))]),(32,.gH 16 109 172),(33,.p (.int .i64 (own.length:Int))),(34,.p (.int .i64 k)),(9,.p (.int .i64 k)),(10,.ptr 10 0)] [(10,aH (cA (st2 d (st1 d a)))),(16,ig (pT own d k))] kK wS ⟨(by rw[show st2 d (st1 d a)=st1 d a from af (λg=>g h7)];exact aG kK),tP 10 kK,trivial⟩ ?_;exact H1.out
  case r1=>
   have hk2:=ajl d (st1 d a);rw[h1k]at hk2;generalize he2:st2 d (st1 d a)=a2 at hk2⊢;refine share (T:=?T2) (λH2=>?m2) ?r2;case m2=>refine aC (λh7=>?_) (λh7=>?_);refine cl (rM a2.parent d).eG (de 97 [(4,.gH 16 109 172),(8,.fn (.func 235) [] [.p (.imp (cD d))]),(32,.gH 16 109 172),(33,.p (.int .i64 (own.length:Int))),(34,.p (.int .i64 k)),(9,.p (.int .i64 k)),(10,.ptr 10 0)] [(10,aH (cA (Ci d a2))),(16,ig (pT own d k))] kK wS ⟨(by rw[show Ci d a2={a2 with parent:=aS a2.parent d}from ag h7];exact aG kK),aG kK,trivial⟩ ?_);exact H2.out;refine de 97 [(4,.gH 16 109 172),(8,.fn (.func 235) [] [.p (.imp (cD d))]),(32,.gH 16 109 172),(33,.p (.int .i64 (own.length:Int))),(34,.p (.int .i64 k)),(9,.p (.int .i64 k)),(10,.ptr 10 0)] [(10,aH (cA (Ci d a2))),(16,ig (pT own d k))] kK wS ⟨(by rw[show Ci d a2=a2 from af h7];exact aG kK),aG kK,trivial⟩ ?_;exact H2.out
   case r2=>
    have hk3:=ajm d a2;generalize he3:Ci d a2=a3 at hk3⊢;refine share (T:=?T3) (λH3=>?m3) ?r3;case m3=>refine aC (λh7=>?_) (λh7=>?_);refine bZ 9 kK ⟨_,(rM a3.fr d).eG,_,(rM a3.to d).eG,de 97 [(4,.gH 16 109 172),(8,.fn (.func 235) [] [.p (.imp (cD d))]),(32,.gH 16 109 172),(33,.p (.int .i64 (own.length:Int))),(34,.p (.int .i64 k)),(9,.p (.int .i64 k)),(10,.ptr 10 0)] [(10,aH (cA (Cj d a3))),(16,ig (pT own d k))] kK wS ⟨(by rw[show Cj d a3={a3 with fr:=aS a3.fr d,to:=aS a3.to d}from ag h7];exact aG kK),aG kK,trivial⟩ ?_⟩;exact H3.out;refine de 97 [(4,.gH 16 109 172),(8,.fn (.func 235) [] [.p (.imp (cD d))]),(32,.gH 16 109 172),(33,.p (.int .i64 (own.length:Int))),(34,.p (.int .i64 k)),(9,.p (.int .i64 k)),(10,.ptr 10 0)] [(10,aH (cA (Cj d a3))),(16,ig (pT own d k))] kK wS ⟨(by rw[show Cj d a3=a3 from af h7];exact aG kK),aG kK,trivial⟩ ?_;exact H3.out
    case r3=>
     have abZ:(Cj d a3).over=a.over:=by rw[Jf,<-he3,Je,<-he2,Jd];rfl
     have hfull:cM d a={Cj d a3 with over:=uF (a.over.map λx=>aS x d)}:=by have :DV d a.over=uF (a.over.map λx=>aS x d):=(Uc Ti).symm;unfold cM Ks;rw[he2,he3,abZ,this]
     generalize Cj d a3=a4 at abZ hfull⊢;have hol:a4.over.length<=400:=by rw[abZ];exact Aa
     refine bJ 97 (λx:Nat×Bool×List bQ=>[(4,.gH 16 109 172),(8,.fn (.func 235) [] [.p (.imp (cD d))]),(32,.gH 16 109 172),(33,.p (.int .i64 (own.length:Int))),(34,.p (.int .i64 k)),(9,.p (.int .i64 k)),(10,.ptr 10 0),(11,match x.2.1 with|true=>.gH 85 54 33|false=>.full []),(74,.p (.sl (oZ a4.over))),(75,.p (.int .i64 (((oZ a4.over).length:Nat):Int))),(76,.p (.int .i64 x.1))]) (λx=>(10,aH (cA a4))::(16,ig (pT own d k))::(match x.2.1 with|true=>[(85,aH (oZ x.2.2).flatten)]|false=>[])) (λx=>x.1<=a4.over.length/\x.2.2=(a4.over.take x.1).map (λy=>aS y d)/\(x.2.1=false->x.1=0)) (λx=>a4.over.length-x.1) (0,false,[]) ⟨zL,rfl,λ_=>rfl⟩ kK wS oS ?_;rintro⟨j,b,acc⟩ ⟨hj,hacc,hb⟩;have hj:j<=a4.over.length:=hj;have hacc:acc=(a4.over.take j).map (λy=>aS y d):=hacc;have ajn:acc.length=j:=by rw[hacc,aj,aR];omega
     have mF:(oZ a4.over).length=a4.over.length:=by simp[oZ]
     refine aF (λeM=>?_) (λsn=>?_);have ae2:j<a4.over.length:=by have :(j:Int)<(((oZ a4.over).length:Nat):Int):=eM;omega
     have fW:(oZ a4.over)[((j:Nat):Int).toNat]?=some (cI a4.over[j]):=eC rfl ae2;have ab0:acc++[aS a4.over[j] d]=(a4.over.take (j+1)).map (λy=>aS y d):=by rw[hacc,cR ae2,aD];rfl
     generalize a4.over[j]=y at fW ab0;cases b with
     |false=>obtain rfl:j=0:=hb rfl;obtain rfl:acc=[]:=ck.1 ajn;refine⟨oO,_,fW,rfl,?_⟩;refine cl (rM y d).eG ⟨mP _ _,(λzs h=>by rw[aO.1 h];rfl),(show 1*40<=140737488355328 by decide),aH (oZ [aS y d]).flatten,rfl,?_⟩;exact⟨1,dD,aT (1,true,[aS y d]) ⟨ae2,ab0,(λh=>nomatch h)⟩ (by show a4.over.length-1<a4.over.length-0;omega) kK wS ⟨aG kK,VY 85 84 13 kK,aG kK,trivial⟩⟩
     |true=>refine⟨oO,_,fW,rfl,?_⟩;refine cl (rM y d).eG ?_;refine⟨acc.length,by rw[js,js,jf];exact abW acc,(λzs h=>by rw[aO.1 h];rfl),by show(acc.length+1)*40<=_;omega,aH (oZ (acc++[aS y d])).flatten,by rw[js,js];exact ae1 acc (aS y d) _,?_⟩;exact nx (j+1) (aT (j+1,true,acc++[aS y d]) ⟨ae2,ab0,(λh=>nomatch h)⟩ mM kK wS ⟨aG kK,VY 85 84 13 kK,aG kK,trivial⟩)
     obtain rfl:j=a4.over.length:=by have :¬(j:Int)<(((oZ a4.over).length:Nat):Int):=sn;omega
     rw[aV,abZ]at hacc;subst hacc;have hcA:cA (cM d a)=(cA a4).take 171++[.sl (oZ (uF (a.over.map λx=>aS x d)))]:=by rw[hfull];rfl
     have hmid:aH (cA (cM d a))=(aH ((cA a4).take 171))++[.p (.sl (oZ (uF (a.over.map λx=>aS x d))))]:=by rw[hcA,eZ,eZ,aD];rfl
     rw[hmid]at hnext;cases b with
     |false=>
      have h0:a4.over.length=0:=hb rfl;have ho0:a.over=[]:=by rw[<-abZ];exact ck.1 h0
      refine cl (OI 96).eG (.inr ?_);refine⟨k,k*172,rfl,rfl,by rw[hCl];exact hle,?_⟩;refine⟨A,aH (cA a),B,qS,RN,A++((aH ((cA a4).take 171)++[.full []])++B),rfl,?_⟩;exact nx (k+1) (aT (k+1) hlt oO kK wS ⟨RM (by rw[ho0,show uF (([]:List bQ).map λx=>aS x d)=[]from by simp[uF]];exact bw.NX []) kK hnext,trivial⟩)
     |true=>refine .inr (.inr (Jz rfl rfl (bI _) (Ug _ rfl (a.over.map λx=>aS x d) (by rw[aj];omega)) λr ys hr=>?_));obtain⟨rfl,rfl⟩:=hr;refine .inl ⟨85,33,oZ (uF (a.over.map λx=>aS x d)),⟨⟨_,rfl,bI _⟩,VZ⟩,?_⟩;refine⟨k,k*172,rfl,rfl,by rw[show FV.CM 85 33 (oZ (uF (a.over.map λx=>aS x d))) (ig (pT own d k))=ig (pT own d k)from Fu _ _ _ _,hCl];exact hle,?_⟩;exact⟨A,aH (cA a),B,(Fu _ _ _ _).trans qS,RN,A++((aH ((cA a4).take 171)++[.gd 85 54 33 (oZ (uF (a.over.map λx=>aS x d)))])++B),rfl,nx (k+1) (aT (k+1) hlt oO kK wS ⟨RM (bw.LL 85 54 33 _) kK hnext,trivial⟩)⟩
 obtain rfl:k=own.length:=by have :¬(k:Int)<(own.length:Int):=hge;omega
 rw[XV];exact⟨gI (own.map (cM d)),DZ _,bI _,rfl⟩
theorem JC {p:gr}(h:sV p)(hn:∀a,a∈(di p).1->(a.over.map λx=>aS x (jB p).1).Nodup)(hid:KY (di p).1):av C 93 [.agg (cP p)] (λr=>r=.own (some [.int .i64 0]) 109 172 (gI ((di p).1.map (cM (jB p).1)))):=by refine bu qZ [] Tryz.func93 rfl rfl rfl (cl (JB h hn hid).eG ?_);generalize(di p).1.map (cM (jB p).1)=l;exact⟨ig l,rfl,gI l,DZ _,bI _,rfl⟩
theorem Fv:∀l:List Dg,(dB l).length<=l.length|[]=>aB _|[_]=>aB _|x::y::l=>by have :=Fv (y::l);unfold dB;split;simp only[aW]at this⊢;omega;simp only[aW]at this⊢;omega
theorem JD:∀(l:List Dg)(x:Dg)(h:l≠[]),dB (l++[x])=if l.getLast h=x then dB l else dB l++[x]
 |[y],x,_=>by show dB [y,x]=if y=x then[y]else[y]++[x];unfold dB;by_cases e:y=x;rw[ag e,ag e,e];rfl;rw[af e,af e];rfl
 |y::z::l,x,_=>by have ih:=JD (z::l) x (mP _ _);rw[List.getLast_cons (mP _ _)];show(if y=z then dB ((z::l)++[x])else y::dB ((z::l)++[x]))=if _ then(if y=z then dB (z::l)else y::dB (z::l))else(if y=z then dB (z::l)else y::dB (z::l))++[x];rw[ih];by_cases e:y=z;rw[ag e,ag e];rw[af e,af e];split;rfl;rfl
theorem xW {l:List Dg}{j:Nat}(h0:0<j)(h:j<l.length):dB (l.take (j+1))=if l[j-1]=l[j]then dB (l.take j)else dB (l.take j)++[l[j]]:=by
 have hne:l.take j≠[]:=by intro e;have :=aY List.length e;rw[aR]at this;simp only[bt]at this;omega
 rw[cR h,JD _ _ hne];have e:(l.take j).getLast hne=l[j-1]:=by rw[List.getLast_eq_getElem,Eg];congr 1;rw[aR];omega
 rw[e]
def Eh (c:dw):List Dg:=((dI c).map λe=>e.1.p).filter λd=>!decide (d=aZ)
def pU (c:dw)(j:Nat):List Dg:=(((dI c).take j).map λe=>e.1.p).filter λd=>!decide (d=aZ)
theorem Cr {c:dw}{j:Nat}(h:j<(dI c).length):pU c (j+1)=pU c j++(if(dI c)[j].1.p=aZ then[]else[(dI c)[j].1.p]):=by unfold pU;rw[cR h,aD,qI];congr 1;by_cases e:(dI c)[j].1.p=aZ;rw[ag e];simp[e];rw[af e];simp[e]
def Cs (p:gr):List Dg:=p.deps++p.changes.flatMap Eh
def sK (p:gr)(k:Nat):List Dg:=p.deps++(p.changes.take k).flatMap Eh
theorem Gv {p:gr}{k:Nat}(h:k<p.changes.length):sK p (k+1)=sK p k++Eh p.changes[k]:=by unfold sK;rw[cR h,lB,<-bq];simp
theorem Fw (c:dw)(j:Nat):(pU c j).length<=(dI c).length:=by unfold pU;refine cg (lq _ _) ?_;rw[aj,aR];omega
theorem JE (c:dw):(dI c).length<=c.over.length+8:=by
 unfold dI;simp only[aA,aj];repeat' split
 all_goals simp only[aW,bt];omega
theorem OM {xs:List (List AV)}{K:Bool->Prop}(h1:xs=[]->K true)(h2:K false):Al λb:Bool=>(xs≠[]->b=false)->K b:=⟨λb hb=>by
 cases b with
 |false=>exact h2
 |true=>exact h1 (iE λhne=>absurd (hb hne) dD)⟩
theorem Am {p:gr}(h:sV p):av C 45 [.agg (cP p)] (λr=>r=.val (.sl (pe (dB (BF (Cs p)))))):=by
 refine av.OL (T:=33) (bP:=32) ?_;have ho:=h.SI;have hdl:=wB ho;have mF:=ho.changes;have Aa:∀c,c∈p.changes->1<=c.kind/\c.kind<=7/\c.over.length<=400:=λc hc=>by obtain⟨g1,g2,-⟩:=eD (ho.each c hc);exact⟨g1,g2,Jg ho hc⟩
 refine bu {qZ with inl:=[111,115],rel:=[111,115],opens:=[5,37]} [] Tryz.func45 rfl rfl rfl (cl (Gr h).eG (cm (λg=>absurd rfl g) (λ_=>.inl ⟨_,Tryz.func111,rfl,rfl,rfl,OM (xs:=pe p.deps) (λab1=>?_) ?_⟩)))
 ·have WQ:p.deps=[]:=by have :=aY List.length ab1;simpa[pe]using this
  refine de 44 [(1,.ptr 1 0),(13,.full [])] [(1,aH (cP p))] kK wS oS ?_;refine bJ 44 (λx:Nat×Bool×List Dg=>[(1,.ptr 1 0),(3,match x.2.1 with|true=>.gH 37 33 32|false=>.full []),(15,.p (.sl (p.changes.map cC))),(16,.p (.int .i64 ((p.changes.map cC).length:Int))),(17,.p (.int .i64 x.1))]) (λx=>(1,aH (cP p))::(match x.2.1 with|true=>[(37,dx x.2.2)]|false=>[])) (λx=>x.1<=p.changes.length/\x.2.2=sK p x.1/\(x.2.1=false->x.2.2=[])/\x.2.2.length<=409*x.1) (λx=>p.changes.length-x.1) (0,false,[]) ⟨zL,by show[]=p.deps++[];rw[WQ];rfl,λ_=>rfl,zL⟩ kK wS oS ?_;rintro⟨k,b,L⟩ ⟨hk,hL,hb,hLl⟩;replace hk:k<=p.changes.length:=hk;replace hL:L=sK p k:=hL;replace hLl:L.length<=409*k:=hLl;refine cq (l:=p.changes) (f:=cC) (λhlt=>?_) (λhge=>?_);obtain⟨q1,q7,qo⟩:=Aa p.changes[k] (aQ _);have oG:=Gv hlt;have fW:(p.changes.map cC)[((k:Nat):Int).toNat]?=some (cC p.changes[k]):=eC rfl hlt;generalize p.changes[k]=c at q1 q7 qo oG fW;have hrl:=JE c;rw[<-hL]at oG;cases b with
  |false=>
   obtain rfl:L=[]:=hb rfl;refine⟨oO,_,fW,rfl,?_⟩;refine cl (xQ c q1 q7 oO).eG (bJ 44 (λx:Nat×Bool×List Dg=>[(1,.ptr 1 0),(3,match x.2.1 with|true=>.gH 37 33 32|false=>.full []),(15,.p (.sl (p.changes.map cC))),(16,.p (.int .i64 ((p.changes.map cC).length:Int))),(17,.p (.int .i64 k)),(22,.p (.sl ((dI c).map (EE c)))),(23,.p (.int .i64 (((dI c).map (EE c)).length:Int))),(24,.p (.int .i64 x.1))]) (λx=>(1,aH (cP p))::(match x.2.1 with|true=>[(37,dx x.2.2)]|false=>[])) (λx=>x.1<=(dI c).length/\x.2.2=pU c x.1/\(x.2.1=false->x.2.2=[])) (λx=>(dI c).length-x.1) (0,false,[]) ⟨zL,rfl,λ_=>rfl⟩ kK wS oS ?_);rintro⟨j,b,M⟩ ⟨hj,hM,Bf⟩;replace hj:j<=(dI c).length:=hj;replace hM:M=pU c j:=hM;have hMl:=Fw c j;refine cq (l:=dI c) (f:=EE c) (λeM=>?_) (λsn=>?_);have qa:=Cr eM;have pZ:((dI c).map (EE c))[((j:Nat):Int).toNat]?=some (EE c (dI c)[j]):=eC rfl eM;generalize(dI c)[j]=xe at qa pZ;obtain⟨x,n⟩:=xe;obtain⟨g,cap,hfn⟩:∃g cap,fnK c n=.fn (.func g) [] cap:=by unfold fnK;by_cases hn:n<185;exact⟨n,[],ag hn⟩;exact⟨n,[.imp (cC c)],af hn⟩
   replace pZ:((dI c).map (EE c))[((j:Nat):Int).toNat]?=some (cI x++[fnK c n]):=pZ;rw[hfn]at pZ;replace qa:pU c (j+1)=pU c j++(if x.p=aZ then[]else[x.p]):=qa;cases b with
   |false=>obtain rfl:M=[]:=Bf rfl;refine⟨oO,_,pZ,rfl,?_⟩;refine cl (fV x).eG (bF ?_);by_cases hz:x.p=aZ;rw[ah hz];rw[ag hz,bh]at qa;exact nx (j+1) (aT (j+1,false,[]) ⟨eM,by rw[qa];exact hM,λ_=>rfl⟩ (by show(dI c).length-(j+1)<(dI c).length-j;omega) kK wS oS);rw[ai hz];rw[af hz]at qa;refine⟨mP _ _,(λzs h=>by rw[aO.1 h];rfl),(show 1*32<=140737488355328 by decide),dx [x.p],rfl,?_⟩;exact nx (j+1) (aT (j+1,true,[x.p]) ⟨eM,by rw[qa,<-hM];rfl,(λh=>nomatch h)⟩ (by show(dI c).length-(j+1)<(dI c).length-j;omega) kK wS oS)
   |true=>refine⟨oO,_,pZ,rfl,?_⟩;refine cl (fV x).eG (bF ?_);by_cases hz:x.p=aZ;rw[ah hz];rw[ag hz,bh]at qa;exact nx (j+1) (aT (j+1,true,M) ⟨eM,by rw[qa];exact hM,(λh=>nomatch h)⟩ (by show(dI c).length-(j+1)<(dI c).length-j;omega) kK wS ⟨aG kK,RL 7 kK,trivial⟩);rw[ai hz];rw[af hz]at qa;refine⟨M.length,by rw[nP,nP];exact dZ M,(λzs h=>by rw[aO.1 h];rfl),by show(M.length+1)*32<=_;rw[hM];omega,dx (M++[x.p]),by rw[nP,nP];exact Ft _ _ _,?_⟩;exact nx (j+1) (aT (j+1,true,M++[x.p]) ⟨eM,by rw[qa,hM],(λh=>nomatch h)⟩ (by show(dI c).length-(j+1)<(dI c).length-j;omega) kK wS oS)
   obtain rfl:j=(dI c).length:=oO
   have hM2:M=sK p (k+1):=by rw[oG,hM];unfold pU Eh;rw[aV];rfl
   cases b with
   |false=>obtain rfl:M=[]:=Bf rfl;exact nx (k+1) (aT (k+1,false,[]) ⟨hlt,hM2,(λ_=>rfl),zL⟩ mM kK wS oS)
   |true=>exact nx (k+1) (aT (k+1,true,M) ⟨hlt,hM2,(λh=>nomatch h),by show M.length<=409*(k+1);rw[hM];omega⟩ mM kK wS oS)
  |true=>
   refine⟨oO,_,fW,rfl,?_⟩;refine cl (xQ c q1 q7 oO).eG ?_;refine bJ 44 (λx:Nat×List Dg=>[(1,.ptr 1 0),(3,.gH 37 33 32),(15,.p (.sl (p.changes.map cC))),(16,.p (.int .i64 ((p.changes.map cC).length:Int))),(17,.p (.int .i64 k)),(22,.p (.sl ((dI c).map (EE c)))),(23,.p (.int .i64 (((dI c).map (EE c)).length:Int))),(24,.p (.int .i64 x.1))]) (λx=>[(1,aH (cP p)),(37,dx x.2)]) (λx=>x.1<=(dI c).length/\x.2=L++pU c x.1) (λx=>(dI c).length-x.1) (0,L) ⟨zL,by show L=L++[];rw[bh]⟩ kK wS ⟨aG kK,RL 5 kK,trivial⟩ ?_;rintro⟨j,M⟩ ⟨hj,hM⟩;replace hj:j<=(dI c).length:=hj;replace hM:M=L++pU c j:=hM;have hMl:=Fw c j;refine cq (l:=dI c) (f:=EE c) (λeM=>?_) (λsn=>?_);have qa:=Cr eM;have pZ:((dI c).map (EE c))[((j:Nat):Int).toNat]?=some (EE c (dI c)[j]):=eC rfl eM;generalize(dI c)[j]=xe at qa pZ;obtain⟨x,n⟩:=xe;obtain⟨g,cap,hfn⟩:∃g cap,fnK c n=.fn (.func g) [] cap:=by unfold fnK;by_cases hn:n<185;exact⟨n,[],ag hn⟩;exact⟨n,[.imp (cC c)],af hn⟩
   replace pZ:((dI c).map (EE c))[((j:Nat):Int).toNat]?=some (cI x++[fnK c n]):=pZ;rw[hfn]at pZ;refine⟨oO,_,pZ,rfl,?_⟩;refine cl (fV x).eG (bF ?_);replace qa:pU c (j+1)=pU c j++(if x.p=aZ then[]else[x.p]):=qa;by_cases hz:x.p=aZ;rw[ah hz];rw[ag hz,bh]at qa;exact nx (j+1) (aT (j+1,M) ⟨eM,by rw[qa];exact hM⟩ (by show(dI c).length-(j+1)<(dI c).length-j;omega) kK wS ⟨aG kK,RL 7 kK,trivial⟩);rw[ai hz];rw[af hz]at qa;refine⟨M.length,by rw[nP,nP];exact dZ M,(λzs h=>by rw[aO.1 h];rfl),by show(M.length+1)*32<=_;rw[hM,aA];omega,dx (M++[x.p]),by rw[nP,nP];exact Ft _ _ _,?_⟩;exact nx (j+1) (aT (j+1,M++[x.p]) ⟨eM,by rw[qa,hM,bq]⟩ (by show(dI c).length-(j+1)<(dI c).length-j;omega) kK wS oS);obtain rfl:j=(dI c).length:=oO
   have hM2:M=sK p (k+1):=by rw[oG,hM];unfold pU Eh;rw[aV]
   exact nx (k+1) (aT (k+1,true,M) ⟨hlt,hM2,(λh=>nomatch h),by show M.length<=409*(k+1);rw[hM,aA];omega⟩ mM kK wS oS)
  obtain rfl:k=p.changes.length:=oO
  have hLn:Cs p=L:=by rw[hL];unfold sK Cs;rw[aV]
  rw[hLn];have hLb:L.length<=2^40:=oO
  cases b with
  |false=>obtain rfl:L=[]:=hb rfl;refine cl (OJ 75).eG (.inl ⟨_,Tryz.func115,rfl,rfl,rfl,aF (λ_=>?_) (λh2=>absurd (show(0:Int)<2 by decide) h2)⟩);exact de 44 [(43,.full [])] [] kK wS trivial (.inr (.inr (by rw[show BF ([]:List Dg)=[]from by simp[BF]];rfl)))
  |true=>
   refine .inr (.inr (Jz rfl rfl (bI _) (JA _ rfl L hLb) λr ys hr=>?_));obtain⟨rfl,rfl⟩:=hr;have YS:=Mu L;generalize BF L=l at YS⊢;have agE:(dB l).length<=l.length:=Fv l;refine .inl ⟨_,Tryz.func115,rfl,rfl,rfl,l.length,by exact dZ l,?_⟩;refine aF (λh2=>?_) (λh2=>?_);have h2:l.length<2:=by have :(l.length:Int)<2:=h2;omega
   have hc:dB l=l:=by
    match l,h2 with
     |[],_=>rfl
     |[_],_=>rfl
   rw[hc];exact de 44 [(1,.ptr 1 0),(43,.gH 37 33 32)] [(37,dx l)] kK wS oS ⟨pe l,vu,bI _,.inl rfl⟩;have h2:2<=l.length:=by have :¬(l.length:Int)<2:=h2;omega
   refine DD 61 1000 (λk:Nat=>[(0,.gH 37 33 32),(3,.p (.int .i64 k))]) (λ_=>[(37,dx l)]) (λ_=>[(44,0,[(1,.ptr 1 0)])]) [] (λ_=>[]) (λk=>1<=k/\k<=l.length/\dB (l.take k)=l.take k) (λk=>l.length-k) 1 ⟨aB _,oO,by(match l,h2 with|a::l,_=>rfl)⟩ kK wS oS ⟨rfl,wS,trivial⟩ trivial ?_;rintro k ⟨hk1,hk,Za⟩;refine⟨l.length,by exact dZ l,?_⟩;refine aF (λhlt=>?_) (λhge=>?_);rotate_left;obtain rfl:k=l.length:=by have :¬(k:Int)<(l.length:Int):=hge;omega
   rw[aV]at Za;rw[Za];exact de 44 [(1,.ptr 1 0),(43,.gH 37 33 32)] [(37,dx l)] kK wS oS ⟨pe l,vu,bI _,.inl rfl⟩;have hlt:k<l.length:=by have :(k:Int)<(l.length:Int):=hlt;omega
   have hct:=xW (oO:0<k) hlt;have hrl:=dZ l;refine bZ 10 kK ?_;refine⟨k,k*32,rfl,rfl,by rw[hrl];omega,?_⟩;refine⟨_,aH (cD l[k]),_,Hx hlt,by rw[dZ,aR];congr 1;omega,?_⟩;refine nx (k-1) ?_;refine⟨k-1,(k-1)*32,rfl,rfl,by rw[hrl];omega,?_⟩;refine⟨_,aH (cD l[k-1]),_,Hx (oO:k-1<l.length),by rw[dZ,aR];congr 1;omega,?_⟩;refine⟨sC,ct,pg,rfl,rfl,zN (a:=l[k]) (b:=l[k-1]) ?_⟩;by_cases he:l[k]=l[k-1];rotate_left;rw[ai he];rw[af (eY he),Za,<-cR hlt]at hct;exact nx (k+1) (sG (k+1) ⟨oO,hlt,hct⟩ oO kK wS oS ⟨rfl,wS,trivial⟩ trivial);rw[ah he];rw[ag he.symm,Za]at hct;refine⟨k,l.length,rfl,by exact dZ l,oO,?_⟩;refine DD 61 1000 (λx:Nat×List Dg×List Dg=>[(0,.gH 37 33 32),(4,.uK 37 k 33 32),(3,.p (.int .i64 (x.2.1.length:Int))),(5,.p (.int .i64 x.1))]) (λx=>[(37,dx (x.2.1++x.2.2++l.drop (k+x.1-1)))]) (λ_=>[(44,0,[(1,.ptr 1 0)])]) [] (λ_=>[]) (λx=>1<=x.1/\k+x.1<=l.length/\dB (l.take (k+x.1))=x.2.1/\x.2.1.length+x.2.2.length=k+x.1-1) (λx=>l.length-(k+x.1)) (1,l.take k,[]) ⟨aB _,hlt,hct,by show(l.take k).length+0=k+1-1;rw[aR];omega⟩ kK ⟨bw.eq kK,bw.eq kK,bw.eq (by rw[aR,xX hk];kernel_rfl),bw.eq kK,trivial⟩ ⟨(by rw[show l.take k++[]++l.drop (k+1-1)=l from by rw[bh,tS,fH]];exact aG kK),trivial⟩ ⟨rfl,wS,trivial⟩ trivial ?_;rintro⟨q,K,M⟩ ⟨hq1,hq,hK,hKM⟩;replace hq:k+q<=l.length:=hq;replace hK:dB (l.take (k+q))=K:=hK;replace hKM:K.length+M.length=k+q-1:=hKM;replace hq1:1<=q:=hq1;have Ct:(dx (K++M++l.drop (k+q-1))).length=l.length*32:=by rw[dZ,aA,aA,dL];congr 1;omega
   refine⟨l.length-k,by rw[show(dx (K++M++l.drop (k+q-1))).length=l.length*32 from Ct];congr 1;omega,?_⟩;refine aF (λeM=>?_) (λsn=>?_);have eM:k+q<l.length:=by have :(q:Int)<((l.length-k:Nat):Int):=eM;omega
   have Cu:=xW (oO:0<k+q) eM;rw[hK]at Cu;have Pm:l.drop (k+q-1)=l[k+q-1]::(l[k+q]::l.drop (k+q+1)):=by rw[bY (oO:k+q-1<l.length),show k+q-1+1=k+q from oO,bY eM]
   have hd2:l.drop (k+q)=l[k+q]::l.drop (k+q+1):=bY eM;generalize l[k+q]=x at Cu Pm hd2;generalize l[k+q-1]=y at Cu Pm;generalize l.drop (k+q+1)=R at Pm hd2;have YW:dx (K++M++l.drop (k+q-1))=dx (K++M++[y])++(aH (cD x)++dx R):=by rw[Pm,<-rL,<-kg];simp
   have hr0:dx (K++M++l.drop (k+q-1))=dx (K++M)++(aH (cD y)++dx (x::R)):=by rw[Pm,<-rL,<-kg]
   have ON:(K++M).length=k+q-1:=by rw[aA];exact hKM
   refine bZ 10 kK ?_;refine⟨q,(k+q)*32,rfl,rfl,by rw[Ct];omega,?_⟩;refine⟨_,aH (cD x),_,YW,by rw[dZ,aA,ON];show(k+q-1+1)*32=_;congr 1;omega,?_⟩;refine nx (q-1) ?_;refine⟨q-1,(k+q-1)*32,rfl,by congr 1;omega,by rw[Ct];omega,?_⟩;refine⟨_,aH (cD y),_,hr0,by rw[dZ,ON],?_⟩;refine⟨sC,ct,pg,rfl,rfl,mw (a:=x) (b:=y) ?_⟩;obtain⟨e,M2,hM2⟩:∃e M2,M++[y]=e::M2:=by
    cases M with
    |nil=>exact⟨y,[],rfl⟩
    |cons a M=>exact⟨a,M++[y],rfl⟩
   have alW:M.length=M2.length:=by have :=aY List.length hM2;simpa using this
   by_cases hxy:x=y;rw[ah hxy];rw[ag hxy.symm]at Cu;exact nx (q+1) (sG (q+1,K,M++[y]) ⟨oO,eM,Cu,by show K.length+(M++[y]).length=k+(q+1)-1;rw[aA];simp only[fc];omega⟩ (by show l.length-(k+(q+1))<l.length-(k+q);omega) kK wS ⟨(by rw[show K++(M++[y])++l.drop (k+(q+1)-1)=K++M++l.drop (k+q-1)from by rw[show k+(q+1)-1=k+q from oO,hd2,Pm];simp];exact aG kK),trivial⟩ ⟨rfl,wS,trivial⟩ trivial);rw[ai hxy];rw[af (eY hxy)]at Cu;refine⟨q,(k+q)*32,rfl,rfl,by rw[Ct];omega,?_⟩;refine⟨_,aH (cD x),_,YW,by rw[dZ,aA,ON];show(k+q-1+1)*32=_;congr 1;omega,?_⟩;refine⟨K.length,K.length*32,rfl,rfl,by rw[Ct];omega,?_⟩;have VF:dx (K++M++l.drop (k+q-1))=dx K++(aH (cD e)++dx (M2++x::R)):=by rw[Pm,show K++M++y::x::R=K++((M++[y])++x::R)from by simp,hM2,kg,cr,rL]
   refine⟨dx K,aH (cD e),dx (M2++x::R),VF,dZ K,?_⟩;refine⟨dx (K++[x]++(M2++l.drop (k+q))),by rw[hd2];exact(show dx (K++[x]++(M2++x::R))=dx K++(aH (cD x)++dx (M2++x::R))from by rw[kg (K++[x]),kg K,Ef,bq]).symm,?_⟩;refine⟨((K.length+1:Nat):Int),(show IntKind.i64.wrap ((K.length:Int)+1)=_ from by rw[aA]at ON;rw[wrap64 oO oO];omega),?_⟩;exact nx (q+1) (sG (q+1,K++[x],M2) ⟨oO,eM,Cu,by show(K++[x]).length+M2.length=k+(q+1)-1;rw[aA];simp only[fc];omega⟩ (by show l.length-(k+(q+1))<l.length-(k+q);omega) kK ⟨bw.eq kK,bw.eq kK,bw.eq (by rw[aA];kernel_rfl),bw.eq kK,trivial⟩ ⟨(by rw[show K++[x]++M2++l.drop (k+(q+1)-1)=K++[x]++(M2++l.drop (k+q))from by rw[show k+(q+1)-1=k+q from oO,bq (K++[x])]];exact aG kK),trivial⟩ ⟨rfl,wS,trivial⟩ trivial);obtain rfl:q=l.length-k:=by have :¬(q:Int)<((l.length-k:Nat):Int):=sn;omega
   rw[show k+(l.length-k)=l.length from oO,aV]at hK;subst hK;refine⟨(dB l).length,l.length,rfl,by rw[show(dx (dB l++M++l.drop (k+(l.length-k)-1))).length=l.length*32 from Ct],oO,?_⟩;refine⟨rfl,l.length-(dB l).length,by rw[show(dx (dB l++M++l.drop (k+(l.length-k)-1))).length=l.length*32 from Ct];congr 1;omega,_,rfl,?_⟩;have htk:(dx (dB l++M++l.drop (k+(l.length-k)-1))).take ((dB l).length*32)=dx (dB l):=by rw[bq,kg];exact Mt _ _
   refine⟨(dB l).length,l.length,rfl,by rw[show(List.take ((dB l).length*32) (dx (dB l++M++l.drop (k+(l.length-k)-1))))=dx (dB l)from htk,aA,dZ,(si _ _).1];show(dB l).length*32+(l.length-(dB l).length)*32=l.length*32;omega,oO,dx (dB l),?_,?_⟩;rw[show(List.take ((dB l).length*32) (dx (dB l++M++l.drop (k+(l.length-k)-1))))=dx (dB l)from htk,th (by rw[dZ];exact aB _),ej (by rw[dZ];exact aB _)];exact nP _ _;exact de 44 [(1,.ptr 1 0),(43,.gH 37 33 32)] [(37,dx (dB l))] kK wS oS ⟨pe (dB l),vu,bI _,.inl rfl⟩
 refine⟨0,rfl,(λzs hz=>(vu zs hz).1),by show(0+(pe p.deps).length)*32<=_;rw[show(pe p.deps).length=p.deps.length from by simp[pe]];omega,dx p.deps,by show FV.fu _ (([]:List FV)++dx p.deps)=dx p.deps;rw[dM];exact nP _ _,?_⟩;refine de 44 [(1,.ptr 1 0),(13,.gH 1005 33 32)] [(1,aH (cP p)),(1005,dx p.deps)] kK wS oS ?_;refine bJ 44 (λx:Nat×List Dg=>[(1,.ptr 1 0),(3,.gH 1005 33 32),(15,.p (.sl (p.changes.map cC))),(16,.p (.int .i64 ((p.changes.map cC).length:Int))),(17,.p (.int .i64 x.1))]) (λx=>[(1,aH (cP p)),(1005,dx x.2)]) (λx=>x.1<=p.changes.length/\x.2=sK p x.1/\x.2.length<=100+409*x.1) (λx=>p.changes.length-x.1) (0,p.deps) ⟨zL,by show p.deps=p.deps++[];rw[bh],oO⟩ kK wS oS ?_;rintro⟨k,L⟩ ⟨hk,hL,hLl⟩;replace hk:k<=p.changes.length:=hk;replace hL:L=sK p k:=hL;replace hLl:L.length<=100+409*k:=hLl;refine cq (l:=p.changes) (f:=cC) (λhlt=>?_) (λhge=>?_);obtain⟨q1,q7,qo⟩:=Aa p.changes[k] (aQ _);have oG:=Gv hlt;have fW:(p.changes.map cC)[((k:Nat):Int).toNat]?=some (cC p.changes[k]):=eC rfl hlt;generalize p.changes[k]=c at q1 q7 qo oG fW;have hrl:=JE c;rw[<-hL]at oG;refine⟨oO,_,fW,rfl,?_⟩;refine cl (xQ c q1 q7 oO).eG ?_;refine bJ 44 (λx:Nat×List Dg=>[(1,.ptr 1 0),(3,.gH 1005 33 32),(15,.p (.sl (p.changes.map cC))),(16,.p (.int .i64 ((p.changes.map cC).length:Int))),(17,.p (.int .i64 k)),(22,.p (.sl ((dI c).map (EE c)))),(23,.p (.int .i64 (((dI c).map (EE c)).length:Int))),(24,.p (.int .i64 x.1))]) (λx=>[(1,aH (cP p)),(1005,dx x.2)]) (λx=>x.1<=(dI c).length/\x.2=L++pU c x.1) (λx=>(dI c).length-x.1) (0,L) ⟨zL,by show L=L++[];rw[bh]⟩ kK wS ⟨aG kK,RL 5 kK,trivial⟩ ?_;rintro⟨j,M⟩ ⟨hj,hM⟩;replace hj:j<=(dI c).length:=hj;replace hM:M=L++pU c j:=hM;have hMl:=Fw c j;refine cq (l:=dI c) (f:=EE c) (λeM=>?_) (λsn=>?_);have qa:=Cr eM;have pZ:((dI c).map (EE c))[((j:Nat):Int).toNat]?=some (EE c (dI c)[j]):=eC rfl eM;generalize(dI c)[j]=xe at qa pZ;obtain⟨x,n⟩:=xe;obtain⟨g,cap,hfn⟩:∃g cap,fnK c n=.fn (.func g) [] cap:=by unfold fnK;by_cases hn:n<185;exact⟨n,[],ag hn⟩;exact⟨n,[.imp (cC c)],af hn⟩
 replace pZ:((dI c).map (EE c))[((j:Nat):Int).toNat]?=some (cI x++[fnK c n]):=pZ;rw[hfn]at pZ;refine⟨oO,_,pZ,rfl,?_⟩;refine cl (fV x).eG (bF ?_);replace qa:pU c (j+1)=pU c j++(if x.p=aZ then[]else[x.p]):=qa;by_cases hz:x.p=aZ;rw[ah hz];rw[ag hz,bh]at qa;exact nx (j+1) (aT (j+1,M) ⟨eM,by rw[qa];exact hM⟩ (by show(dI c).length-(j+1)<(dI c).length-j;omega) kK wS ⟨aG kK,RL 7 kK,trivial⟩);rw[ai hz];rw[af hz]at qa;refine⟨M.length,by rw[nP,nP];exact dZ M,(λzs h=>by rw[aO.1 h];rfl),by show(M.length+1)*32<=_;rw[hM,aA];omega,dx (M++[x.p]),by rw[nP,nP];exact Ft _ _ _,?_⟩;exact nx (j+1) (aT (j+1,M++[x.p]) ⟨eM,by rw[qa,hM,bq]⟩ (by show(dI c).length-(j+1)<(dI c).length-j;omega) kK wS oS);obtain rfl:j=(dI c).length:=oO
 have hM2:M=sK p (k+1):=by rw[oG,hM];unfold pU Eh;rw[aV]
 exact nx (k+1) (aT (k+1,M) ⟨hlt,hM2,by show M.length<=100+409*(k+1);rw[hM,aA];omega⟩ mM kK wS oS);obtain rfl:k=p.changes.length:=oO
 have hLn:Cs p=L:=by rw[hL];unfold sK Cs;rw[aV]
 rw[hLn];have hLb:L.length<=2^40:=oO
 refine .inr (.inr (Jz rfl rfl (bI _) (JA _ rfl L hLb) λr ys hr=>?_));obtain⟨rfl,rfl⟩:=hr;have YS:=Mu L;generalize BF L=l at YS⊢;have agE:(dB l).length<=l.length:=Fv l;refine .inl ⟨_,Tryz.func115,rfl,rfl,rfl,l.length,by exact dZ l,?_⟩;refine aF (λh2=>?_) (λh2=>?_);have h2:l.length<2:=by have :(l.length:Int)<2:=h2;omega
 have hc:dB l=l:=by
  match l,h2 with
   |[],_=>rfl
   |[_],_=>rfl
 rw[hc];exact de 44 [(1,.ptr 1 0),(43,.gH 1005 33 32)] [(1005,dx l)] kK wS oS ⟨pe l,vu,bI _,.inl rfl⟩;have h2:2<=l.length:=by have :¬(l.length:Int)<2:=h2;omega
 refine DD 61 1000 (λk:Nat=>[(0,.gH 1005 33 32),(3,.p (.int .i64 k))]) (λ_=>[(1005,dx l)]) (λ_=>[(44,0,[(1,.ptr 1 0)])]) [] (λ_=>[]) (λk=>1<=k/\k<=l.length/\dB (l.take k)=l.take k) (λk=>l.length-k) 1 ⟨aB _,oO,by(match l,h2 with|a::l,_=>rfl)⟩ kK wS oS ⟨rfl,wS,trivial⟩ trivial ?_;rintro k ⟨hk1,hk,Za⟩;refine⟨l.length,by exact dZ l,?_⟩;refine aF (λhlt=>?_) (λhge=>?_);rotate_left;obtain rfl:k=l.length:=by have :¬(k:Int)<(l.length:Int):=hge;omega
 rw[aV]at Za;rw[Za];exact de 44 [(1,.ptr 1 0),(43,.gH 1005 33 32)] [(1005,dx l)] kK wS oS ⟨pe l,vu,bI _,.inl rfl⟩;have hlt:k<l.length:=by have :(k:Int)<(l.length:Int):=hlt;omega
 have hct:=xW (oO:0<k) hlt;have hrl:=dZ l;refine bZ 10 kK ?_;refine⟨k,k*32,rfl,rfl,by rw[hrl];omega,?_⟩;refine⟨_,aH (cD l[k]),_,Hx hlt,by rw[dZ,aR];congr 1;omega,?_⟩;refine nx (k-1) ?_;refine⟨k-1,(k-1)*32,rfl,rfl,by rw[hrl];omega,?_⟩;refine⟨_,aH (cD l[k-1]),_,Hx (oO:k-1<l.length),by rw[dZ,aR];congr 1;omega,?_⟩;refine⟨sC,ct,pg,rfl,rfl,zN (a:=l[k]) (b:=l[k-1]) ?_⟩;by_cases he:l[k]=l[k-1];rotate_left;rw[ai he];rw[af (eY he),Za,<-cR hlt]at hct;exact nx (k+1) (sG (k+1) ⟨oO,hlt,hct⟩ oO kK wS oS ⟨rfl,wS,trivial⟩ trivial);rw[ah he];rw[ag he.symm,Za]at hct;refine⟨k,l.length,rfl,by exact dZ l,oO,?_⟩;refine DD 61 1000 (λx:Nat×List Dg×List Dg=>[(0,.gH 1005 33 32),(4,.uK 1005 k 33 32),(3,.p (.int .i64 (x.2.1.length:Int))),(5,.p (.int .i64 x.1))]) (λx=>[(1005,dx (x.2.1++x.2.2++l.drop (k+x.1-1)))]) (λ_=>[(44,0,[(1,.ptr 1 0)])]) [] (λ_=>[]) (λx=>1<=x.1/\k+x.1<=l.length/\dB (l.take (k+x.1))=x.2.1/\x.2.1.length+x.2.2.length=k+x.1-1) (λx=>l.length-(k+x.1)) (1,l.take k,[]) ⟨aB _,hlt,hct,by show(l.take k).length+0=k+1-1;rw[aR];omega⟩ kK ⟨bw.eq kK,bw.eq kK,bw.eq (by rw[aR,xX hk];kernel_rfl),bw.eq kK,trivial⟩ ⟨(by rw[show l.take k++[]++l.drop (k+1-1)=l from by rw[bh,tS,fH]];exact aG kK),trivial⟩ ⟨rfl,wS,trivial⟩ trivial ?_;rintro⟨q,K,M⟩ ⟨hq1,hq,hK,hKM⟩;replace hq:k+q<=l.length:=hq;replace hK:dB (l.take (k+q))=K:=hK;replace hKM:K.length+M.length=k+q-1:=hKM;replace hq1:1<=q:=hq1;have Ct:(dx (K++M++l.drop (k+q-1))).length=l.length*32:=by rw[dZ,aA,aA,dL];congr 1;omega
 refine⟨l.length-k,by rw[show(dx (K++M++l.drop (k+q-1))).length=l.length*32 from Ct];congr 1;omega,?_⟩;refine aF (λeM=>?_) (λsn=>?_);have eM:k+q<l.length:=by have :(q:Int)<((l.length-k:Nat):Int):=eM;omega
 have Cu:=xW (oO:0<k+q) eM;rw[hK]at Cu;have Pm:l.drop (k+q-1)=l[k+q-1]::(l[k+q]::l.drop (k+q+1)):=by rw[bY (oO:k+q-1<l.length),show k+q-1+1=k+q from oO,bY eM]
 have hd2:l.drop (k+q)=l[k+q]::l.drop (k+q+1):=bY eM;generalize l[k+q]=x at Cu Pm hd2;generalize l[k+q-1]=y at Cu Pm;generalize l.drop (k+q+1)=R at Pm hd2;have YW:dx (K++M++l.drop (k+q-1))=dx (K++M++[y])++(aH (cD x)++dx R):=by rw[Pm,<-rL,<-kg];simp
 have hr0:dx (K++M++l.drop (k+q-1))=dx (K++M)++(aH (cD y)++dx (x::R)):=by rw[Pm,<-rL,<-kg]
 have ON:(K++M).length=k+q-1:=by rw[aA];exact hKM
 refine bZ 10 kK ?_;refine⟨q,(k+q)*32,rfl,rfl,by rw[Ct];omega,?_⟩;refine⟨_,aH (cD x),_,YW,by rw[dZ,aA,ON];show(k+q-1+1)*32=_;congr 1;omega,?_⟩;refine nx (q-1) ?_;refine⟨q-1,(k+q-1)*32,rfl,by congr 1;omega,by rw[Ct];omega,?_⟩;refine⟨_,aH (cD y),_,hr0,by rw[dZ,ON],?_⟩;refine⟨sC,ct,pg,rfl,rfl,mw (a:=x) (b:=y) ?_⟩;obtain⟨e,M2,hM2⟩:∃e M2,M++[y]=e::M2:=by
  cases M with
  |nil=>exact⟨y,[],rfl⟩
  |cons a M=>exact⟨a,M++[y],rfl⟩
 have alW:M.length=M2.length:=by have :=aY List.length hM2;simpa using this
 by_cases hxy:x=y;rw[ah hxy];rw[ag hxy.symm]at Cu;exact nx (q+1) (sG (q+1,K,M++[y]) ⟨oO,eM,Cu,by show K.length+(M++[y]).length=k+(q+1)-1;rw[aA];simp only[fc];omega⟩ (by show l.length-(k+(q+1))<l.length-(k+q);omega) kK wS ⟨(by rw[show K++(M++[y])++l.drop (k+(q+1)-1)=K++M++l.drop (k+q-1)from by rw[show k+(q+1)-1=k+q from oO,hd2,Pm];simp];exact aG kK),trivial⟩ ⟨rfl,wS,trivial⟩ trivial);rw[ai hxy];rw[af (eY hxy)]at Cu;refine⟨q,(k+q)*32,rfl,rfl,by rw[Ct];omega,?_⟩;refine⟨_,aH (cD x),_,YW,by rw[dZ,aA,ON];show(k+q-1+1)*32=_;congr 1;omega,?_⟩;refine⟨K.length,K.length*32,rfl,rfl,by rw[Ct];omega,?_⟩;have VF:dx (K++M++l.drop (k+q-1))=dx K++(aH (cD e)++dx (M2++x::R)):=by rw[Pm,show K++M++y::x::R=K++((M++[y])++x::R)from by simp,hM2,kg,cr,rL]
 refine⟨dx K,aH (cD e),dx (M2++x::R),VF,dZ K,?_⟩;refine⟨dx (K++[x]++(M2++l.drop (k+q))),by rw[hd2];exact(show dx (K++[x]++(M2++x::R))=dx K++(aH (cD x)++dx (M2++x::R))from by rw[kg (K++[x]),kg K,Ef,bq]).symm,?_⟩;refine⟨((K.length+1:Nat):Int),(show IntKind.i64.wrap ((K.length:Int)+1)=_ from by rw[aA]at ON;rw[wrap64 oO oO];omega),?_⟩;exact nx (q+1) (sG (q+1,K++[x],M2) ⟨oO,eM,Cu,by show(K++[x]).length+M2.length=k+(q+1)-1;rw[aA];simp only[fc];omega⟩ (by show l.length-(k+(q+1))<l.length-(k+q);omega) kK ⟨bw.eq kK,bw.eq kK,bw.eq (by rw[aA];kernel_rfl),bw.eq kK,trivial⟩ ⟨(by rw[show K++[x]++M2++l.drop (k+(q+1)-1)=K++[x]++(M2++l.drop (k+q))from by rw[show k+(q+1)-1=k+q from oO,bq (K++[x])]];exact aG kK),trivial⟩ ⟨rfl,wS,trivial⟩ trivial);obtain rfl:q=l.length-k:=by have :¬(q:Int)<((l.length-k:Nat):Int):=sn;omega
 rw[show k+(l.length-k)=l.length from oO,aV]at hK;subst hK;refine⟨(dB l).length,l.length,rfl,by rw[show(dx (dB l++M++l.drop (k+(l.length-k)-1))).length=l.length*32 from Ct],oO,?_⟩;refine⟨rfl,l.length-(dB l).length,by rw[show(dx (dB l++M++l.drop (k+(l.length-k)-1))).length=l.length*32 from Ct];congr 1;omega,_,rfl,?_⟩;have htk:(dx (dB l++M++l.drop (k+(l.length-k)-1))).take ((dB l).length*32)=dx (dB l):=by rw[bq,kg];exact Mt _ _
 refine⟨(dB l).length,l.length,rfl,by rw[show(List.take ((dB l).length*32) (dx (dB l++M++l.drop (k+(l.length-k)-1))))=dx (dB l)from htk,aA,dZ,(si _ _).1];show(dB l).length*32+(l.length-(dB l).length)*32=l.length*32;omega,oO,dx (dB l),?_,?_⟩;rw[show(List.take ((dB l).length*32) (dx (dB l++M++l.drop (k+(l.length-k)-1))))=dx (dB l)from htk,th (by rw[dZ];exact aB _),ej (by rw[dZ];exact aB _)];exact nP _ _;exact de 44 [(1,.ptr 1 0),(43,.gH 1005 33 32)] [(1005,dx (dB l))] kK wS oS ⟨pe (dB l),vu,bI _,.inl rfl⟩
theorem RR {c:dw}(h:cG c=0){d:Dg}(hd:d≠aZ):(∃x,x∈refsOf c/\x.p=d)↔∃e,e∈dI c/\e.1.p=d:=by
 obtain⟨g1,g2,-,-,g5,-⟩:=eD h;have hz:∀x:bQ,x=aP->x.p≠d:=λx e q=>hd (by rw[<-q,e];rfl);have hr:∀x:bQ,x=iS->x.p≠d:=λx e q=>hd (by rw[<-q,e];rfl);simp only[bG,bn,decide_eq_true_eq]at g5;obtain⟨e1,-,e3,-,-,-,e7,e8,-,e10⟩:=g5;have Aa:(∃e:bQ×Nat,e∈(c.over.map λx=>((x,186):bQ×Nat))/\e.1.p=d)↔∃x,x∈c.over/\x.p=d:=by constructor;rintro⟨e,he,hp⟩;obtain⟨x,hx,rfl⟩:=aJ.1 he;exact⟨x,hx,hp⟩;rintro⟨x,hx,hp⟩;exact⟨(x,186),aJ.2 ⟨x,hx,rfl⟩,hp⟩
 have hL:(∃x,x∈refsOf c/\x.p=d)↔c.file.p=d\/c.parent.p=d\/c.cQ.p=d\/c.dc.p=d\/∃x,x∈c.over/\x.p=d:=by unfold refsOf;constructor;rintro⟨x,hx,hp⟩;rcases bk.1 hx with hx|hx;simp only[aL,gQ,or_false]at hx;rcases hx with rfl|rfl|rfl|rfl;exact .inl hp;exact .inr (.inl hp);exact .inr (.inr (.inl hp));exact .inr (.inr (.inr (.inl hp)));exact .inr (.inr (.inr (.inr ⟨x,hx,hp⟩)));rintro(hp|hp|hp|hp|⟨x,hx,hp⟩);exact⟨_,by simp,hp⟩;exact⟨c.parent,by simp,hp⟩;exact⟨c.cQ,by simp,hp⟩;exact⟨c.dc,by simp,hp⟩;exact⟨x,bk.2 (.inr hx),hp⟩
 rw[hL,<-Aa];have app:∀A B:List (bQ×Nat),(∃e,e∈A++B/\e.1.p=d)↔(∃e,e∈A/\e.1.p=d)\/∃e,e∈B/\e.1.p=d:=λA B=>by constructor;rintro⟨e,he,hp⟩;rcases bk.1 he with he|he;exact .inl ⟨e,he,hp⟩;exact .inr ⟨e,he,hp⟩;rintro(⟨e,he,hp⟩|⟨e,he,hp⟩);exact⟨e,bk.2 (.inl he),hp⟩;exact⟨e,bk.2 (.inr he),hp⟩
 unfold dI;rw[app,app,app];have abL:c.file.p=d↔∃e,e∈(if 2<=c.kind/\c.kind<=6 then[(c.file,if c.kind<=3 then 181 else if c.kind=4 then 182 else 183)]else([]:List (bQ×Nat)))/\e.1.p=d:=by
  by_cases hk:2<=c.kind/\c.kind<=6;rw[ag hk];simp;rw[af hk];have hf:c.file=aP:=by
   have :c.kind=1\/c.kind=7:=oO
   rcases this with q|q;rw[Ch c q]at e1;exact e1;rw[Fl c q]at e1;exact e1
  exact⟨λq=>absurd q (hz _ hf),λ⟨e,he,_⟩=>by cases he⟩
 have hpar:c.parent.p=d↔∃e,e∈(if c.kind=2/\c.parent≠iS then[(c.parent,184)]else([]:List (bQ×Nat)))/\e.1.p=d:=by
  by_cases hk:c.kind=2/\c.parent≠iS;rw[ag hk];simp;rw[af hk];refine⟨λq=>?_,λ⟨e,he,_⟩=>by cases he⟩;by_cases q2:c.kind=2;exact absurd q (hr _ (cK.1 λq3=>hk ⟨q2,q3⟩));have hf:c.parent=aP:=by
   have :c.kind=1\/c.kind=3\/c.kind=4\/c.kind=5\/c.kind=6\/c.kind=7:=oO
   rcases this with q|q|q|q|q|q;rw[Ch c q]at e3;exact e3;rw[Oj c q]at e3;exact e3;rw[IY c q]at e3;exact e3;rw[Ol c q]at e3;exact e3;rw[Om c q]at e3;exact e3;rw[Fl c q]at e3;exact e3
  exact absurd q (hz _ hf)
 have ajq:(c.cQ.p=d\/c.dc.p=d)↔∃e,e∈(if fC c.kind=true then[(c.cQ,185),(c.dc,185)]else([]:List (bQ×Nat)))/\e.1.p=d:=by
  by_cases hk:fC c.kind=true;rw[ag hk];constructor;rintro(q|q);exact⟨(c.cQ,185),by simp,q⟩;exact⟨(c.dc,185),by simp,q⟩;rintro⟨e,he,q⟩;simp only[aL,gQ,or_false]at he;rcases he with rfl|rfl;exact .inl q;exact .inr q;rw[af hk];have h56:¬c.kind=5/\¬c.kind=6:=by constructor<;>intro q<;>exact hk (by simp[fC,q])
  have hf:c.cQ=aP/\c.dc=aP:=by
   have :c.kind=1\/c.kind=2\/c.kind=3\/c.kind=4\/c.kind=7:=oO
   rcases this with q|q|q|q|q;rw[Ch c q]at e7 e8;exact⟨e7,e8⟩;rw[Oi c q]at e7 e8;exact⟨e7,e8⟩;rw[Oj c q]at e7 e8;exact⟨e7,e8⟩;rw[IY c q]at e7 e8;exact⟨e7,e8⟩;rw[Fl c q]at e7 e8;exact⟨e7,e8⟩
  exact⟨λq=>q.elim (λq=>absurd q (hz _ hf.1)) (λq=>absurd q (hz _ hf.2)),λ⟨e,he,_⟩=>by cases he⟩
 rw[<-abL,<-hpar,<-ajq];constructor;rintro(q|q|q|q|q);exact .inl q;exact .inr (.inl q);exact .inr (.inr (.inl (.inl q)));exact .inr (.inr (.inl (.inr q)));exact .inr (.inr (.inr q));rintro(q|q|(q|q)|q);exact .inl q;exact .inr (.inl q);exact .inr (.inr (.inl q));exact .inr (.inr (.inr (.inl q)));exact .inr (.inr (.inr (.inr q)))
theorem AU {d:Dg}:∀{l:List bQ}{acc:List Dg},d∈l.foldl xN acc↔d∈acc\/(d≠aZ/\∃x,x∈l/\x.p=d)
 |[],acc=>by simp
 |x::l,acc=>by have ih:=AU (d:=d) (l:=l) (acc:=xN acc x);rw[fN,ih];unfold xN;by_cases hx:x.p=aZ;rw[ag hx];constructor;rintro(h|⟨h,y,hy,e⟩);exact .inl h;exact .inr ⟨h,y,dG _ hy,e⟩;rintro(h|⟨h,y,hy,e⟩);exact .inl h;rcases aL.1 hy with rfl|hy;exact absurd (e.symm.trans hx) h;exact .inr ⟨h,y,hy,e⟩;rw[af hx,Jy];constructor;rintro((rfl|h)|⟨h,y,hy,e⟩);exact .inr ⟨hx,x,by simp,rfl⟩;exact .inl h;exact .inr ⟨h,y,dG _ hy,e⟩;rintro(h|⟨h,y,hy,e⟩);exact .inl (.inr h);rcases aL.1 hy with rfl|hy;exact .inl (.inl e.symm);exact .inr ⟨h,y,hy,e⟩
theorem JI {p:gr}(h:sV p):dB (BF (Cs p))=bC p:=by
 refine RK (Fs (Ua _)) (XX p) λd=>?_;rw[AS,XR];unfold bC Cs;rw[af (λg=>g h.ok),bk,AU,XP];have he:=h.SI.each;have hc:(∃c,c∈p.changes/\d∈Eh c)↔d≠aZ/\∃x,x∈p.changes.flatMap refsOf/\x.p=d:=by
  constructor;rintro⟨c,hc,hd⟩;unfold Eh at hd;obtain⟨h1,h2⟩:=om.1 hd;obtain⟨e,h3,h4⟩:=aJ.1 h1;have hz:d≠aZ:=by simpa using h2
  obtain⟨x,h5,h6⟩:=(RR (he c hc) hz).2 ⟨e,h3,h4⟩;exact⟨hz,x,jc.2 ⟨c,hc,h5⟩,h6⟩;rintro⟨hz,x,hx,hp⟩;obtain⟨c,hc,hx⟩:=jc.1 hx;obtain⟨e,h3,h4⟩:=(RR (he c hc) hz).1 ⟨x,hx,hp⟩;refine⟨c,hc,?_⟩;unfold Eh;exact om.2 ⟨aJ.2 ⟨e,h3,h4⟩,by simpa using hz⟩
 rw[jc,<-hc];simp
inductive Reach (s:List fD)(p:Dg):Dg->Prop where|self:Reach s p p|step {d e:Dg}:Reach s p d->e∈ajp s d->Reach s p e
theorem Mw {s:List fD}(hA:rN s):∀(n:Nat)(out:List Dg),(∀x,x∈s->x.id∈out->x.id∉bC x.pat)->∀x,x∈s->x.id∈xZ s n out->x.id∉bC x.pat
 |0,out,h=>h
 |n+1,out,h=>by
  unfold xZ;cases hf:s.find? (uG out)with
  |none=>exact h
  |some y=>refine Mw hA n _ λx hx hm=>?_;rcases bk.1 hm with hm|hm;exact h x hx hm;have hy:=lD hf;have hn:=jN hf;obtain rfl:=OO hA hx hy (aO.1 hm);unfold uG at hn;simp only[bn,ek,decide_eq_false_iff_not,mV,bD,decide_eq_true_eq]at hn;exactλg=>hn.1 (hn.2 _ g)
theorem Wb {s:List fD}(h:OkS s){x:fD}(hx:x∈s):x.id∉bC x.pat:=by refine Mw h.Hy s.length [] (λy _ hm=>by cases hm) x hx ?_;rw[Hz h.Hy];exact(AT h x.id).2 (aJ.2 ⟨x,hx,rfl⟩)
theorem Mx:∀(l:List dw)(own:List bR),KY own->(iG l own).2=0->KY (iG l own).1|[],own,h,_=>h|c::l,own,hn,h=>by rw[iQ]at h⊢;by_cases h1:cG c≠0;rw[ag h1]at h;exact absurd h h1;rw[af h1]at h⊢;by_cases h2:jA c own≠0;rw[ag h2]at h;exact absurd h h2;rw[af h2]at h⊢;exact Mx l _ (Jv hn c) h
theorem ya {p:gr}(h:sV p):KY (di p).1:=by rw[h.SI.all];refine Mx _ _ (λn hn=>absurd hn (jL _)) ?_;rw[<-h.SI.all];exact h.YQ
theorem Fz:∀{l:List bQ},wq l=true->Jx l|[],_=>List.Pairwise.nil|[_],_=>List.pairwise_singleton _ _|a::b::r,h=>by rw[wq,bn,decide_eq_true_eq]at h;have ih:=Fz h.2;refine dS.2 ⟨λx hx=>?_,ih⟩;rcases aL.1 hx with rfl|hx;exact h.1;exact pG h.1 ((dS.1 ih).1 x hx)
theorem JJ {c:dw}(h:cG c=0)(h5:c.kind≠5):wq c.over=true:=by
 unfold cG at h;by_cases h1:c.kind<1\/7<c.kind;rw[ag h1]at h;exact absurd h dD;rw[af h1]at h;by_cases h2:bG (eS c)=false;rw[ag h2]at h;exact absurd h dD;rw[af h2]at h;by_cases h3:c.kind=1/\(c.type<1\/4<c.type);rw[ag h3]at h;exact absurd h dD;rw[af h3]at h;by_cases h4:c.kind=2/\gM c.name=false;rw[ag h4]at h;exact absurd h dD;rw[af h4]at h;by_cases h6:c.kind=3/\(c.mode<0\/511<c.mode);rw[ag h6]at h;exact absurd h dD;rw[af h6]at h;by_cases h7:65536<c.data.length;rw[ag h7]at h;exact absurd h dD;rw[af h7,af h5]at h;by_cases h8:c.kind=7/\c.over.length=0;rw[ag h8]at h;exact absurd h dD;rw[af h8]at h;by_cases h9:400<c.over.length;rw[ag h9]at h;exact absurd h dD;rw[af h9]at h;cases ha:wq c.over with
 |true=>rfl
 |false=>rw[ha,ag rfl]at h;exact absurd h dD
theorem RS {c:dw}(h:cG c=0)(f:Nat):∀a,a∈cu c f->a.over=[]\/(a.over=c.over/\c.kind≠5):=by
 intro a ha;unfold cu at ha;by_cases e:c.kind=5;rw[ag e]at ha;rcases bk.1 ha with ha|ha;obtain⟨i,-,rfl⟩:=aJ.1 ha;exact .inl rfl;obtain⟨i,-,rfl⟩:=aJ.1 ha;exact .inl rfl;rw[af e]at ha;obtain rfl:=aO.1 ha;unfold dU;repeat' split
 all_goals first|exact .inr ⟨rfl,e⟩|exact .inl rfl
theorem My:∀(l:List dw)(own:List bR),(iG l own).2=0->∀a,a∈(iG l own).1->a∈own\/a.over=[]\/∃c,c∈l/\a.over=c.over/\wq c.over=true|[],own,_,a,ha=>.inl ha|c::l,own,h,a,ha=>by rw[iQ]at h ha;by_cases h1:cG c≠0;rw[ag h1]at h;exact absurd h h1;rw[af h1]at h ha;by_cases h2:jA c own≠0;rw[ag h2]at h;exact absurd h h2;rw[af h2]at h ha;have h1:cG c=0:=cK.1 h1;rcases My l _ h a ha with q|q|⟨c',hc',q⟩;rcases bk.1 q with q|q;exact .inl q;rcases RS h1 _ a q with q|⟨q,h5⟩;exact .inr (.inl q);exact .inr (.inr ⟨c,by simp,q,JJ h1 h5⟩);exact .inr (.inl q);exact .inr (.inr ⟨c',dG _ hc',q⟩)
theorem Mz {α β:Type}{f:α->β}:∀{l:List α},l.Nodup->(∀x y,x∈l->y∈l->f x=f y->x=y)->(l.map f).Nodup|[],_,_=>tU|x::l,h,hi=>by rw[tI]at h;rw[bB,tI];refine⟨λhm=>?_,Mz h.2 λa b ha hb=>hi a b (dG _ ha) (dG _ hb)⟩;obtain⟨y,hy,e⟩:=aJ.1 hm;have :=hi y x (dG _ hy) (by simp) e;subst this;exact h.1 hy
theorem JK {p:gr}(h:sV p){d:Dg}(hd:d∉bC p):∀a,a∈(di p).1->(a.over.map λx=>aS x d).Nodup:=by
 intro a ha;have hz:(iG p.changes []).2=0:=by rw[<-h.SI.all];exact h.YQ
 rw[h.SI.all]at ha;rcases My _ _ hz a ha with q|q|⟨c,hc,q,Uj⟩;cases q;rw[q];exact tU;rw[q];have hn:∀x,x∈c.over->x.p≠aZ->x.p∈bC p:=λx hx hp=>by unfold bC;rw[af (λg=>g h.ok)];exact AU.2 (.inr ⟨hp,x,jc.2 ⟨c,hc,by unfold refsOf;exact bk.2 (.inr hx)⟩,rfl⟩)
 refine Mz ((Fz Uj).imp λ{a b} h e=>by subst e;exact pS a h) λx y hx hy e=>?_;have mixed:∀x y:bQ,x∈c.over->¬(x.p=aZ/\0<=x.n)->0<=y.n->x≠⟨d,y.n⟩:=λx y hx h1 h2 e=>by
  have hp:x.p=d:=by rw[e]
  have Rv:x.n=y.n:=by rw[e]
  have :x.p≠aZ:=λg=>h1 ⟨g,by rw[Rv];exact h2⟩;exact hd (hp▸hn x hx this)
 unfold aS at e;by_cases h1:x.p=aZ/\0<=x.n;rw[ag h1]at e;by_cases h2:y.p=aZ/\0<=y.n;rw[ag h2]at e;injection e with _ e;cases x;cases y;simp_all;rw[af h2]at e;exact absurd e.symm (mixed y x hy h2 h1.2);rw[af h1]at e;by_cases h2:y.p=aZ/\0<=y.n;rw[ag h2]at e;exact absurd e (mixed x y hx h1 h2.2);rw[af h2]at e;exact e
structure HA (s:List fD):Prop where
 fit:alB s
 ok:OkS s
 q:∀x,x∈s->sV x.pat
theorem HA.idE {s:List fD}(h:HA s){x:fD}(hx:x∈s):jB x.pat=(x.id,0):=h.ok.id x hx
def iB (p:gr):List bR:=(nL p).1
theorem sL {p:gr}(h:sV p):iB p=(di p).1.map (cM (jB p).1):=by unfold iB nL;rw[af (show¬(jB p).2≠0 by rw[TY h.ok];simp)]
theorem ae4 {s:List fD}(h:HA s):ae3 iB s:=λx hx=>by
 have hd:(jB x.pat).1∉bC x.pat:=by rw[h.idE hx];exact Wb h.ok hx
 rw[sL (h.q x hx)];exact JC (h.q x hx) (JK (h.q x hx) hd) (ya (h.q x hx))
theorem Ej (d:Dg)(a:bR):(cM d a).id=⟨d,a.id.n⟩:=by
 unfold cM Ks Cj Ci st2 st1;repeat' split
 all_goals rfl
theorem OP {α β:Type}{f:α->β}{l:List β}{m:List α}(e:l=m.map f)(n:Nat)(h1:n<l.length)(h2:n<m.length):l[n]=f m[n]:=by subst e;exact qA _
theorem Wc {s:List fD}(h:HA s){x:fD}(hx:x∈s)(n:Nat)(hn:n<(iB x.pat).length):n<(di x.pat).1.length:=by have e:=sL (h.q x hx);rw[e,aj]at hn;exact hn
theorem ae5 {s:List fD}(h:HA s){x:fD}(hx:x∈s)(n:Nat)(a b:bR)(h1:a=cM (jB x.pat).1 b)(h2:b.id=⟨aZ,(n:Int)⟩):a.id=⟨x.id,(n:Int)⟩:=by have h3:=h.idE hx;rw[h1,Ej,h2,h3]
theorem Cw {s:List fD}(h:HA s){x:fD}(hx:x∈s)(n:Nat)(hn:n<(iB x.pat).length):(iB x.pat)[n].id=⟨x.id,(n:Int)⟩:=ae5 h hx n _ _ (OP (sL (h.q x hx)) n hn (Wc h hx n hn)) (ya (h.q x hx) n (Wc h hx n hn))
theorem XY {d:Dg}{i j:Int}(h:i<j):gb ⟨d,i⟩ ⟨d,j⟩<0:=by unfold gb;rw[rK,af dD,ag h];decide
theorem XZ {x y:bQ}(h:dy x.p y.p<0):gb x y<0:=by unfold gb;rw[ag oO];exact h
structure yb where
 id:Dg
 cS:List Dg deriving DecidableEq,Inhabited
structure jj where
 pats:List yb
 atoms:List bR deriving DecidableEq,Inhabited
def gi (k:yb):List AV:=cD k.id++[.sl (pe k.cS)]
def ij (x:jj):List AV:=[.sl (x.pats.map gi),.sl (gI x.atoms)]
def iU:jj:=⟨[],[]⟩
def leK (a b:yb):Bool:=decide (dy a.id b.id<=0)
def leA (a b:bR):Bool:=decide (gb a.id b.id<=0)
def sW (x:jj)(d:Dg)(n:List Dg)(l:List bR):jj:=⟨x.pats.merge [⟨d,n⟩] leK,x.atoms.merge l leA⟩
def lE (x:jj)(p:fD):jj:=sW x p.id (bC p.pat) (iB p.pat)
def ab3 (s:List fD):jj:=s.foldl lE iU
theorem vw {α:Type}{le:α->α->Bool}{l:List α}:∀{A B:List α},(∀a,a∈A->∀b,b∈l->le a b=true)->(A++B).merge l le=A++B.merge l le
 |[],B,_=>rfl
 |a::A,B,h=>by
  have ih:=vw (l:=l) (A:=A) (B:=B) λx hx=>h x (.tail _ hx);cases l with
  |nil=>simp
  |cons b l=>rw[cr,cr,Ek,ag (h a (.head _) b (.head _)),ih]
theorem yc {α:Type}{le:α->α->Bool}{B:List α}:∀{l:List α},(∀a,a∈B->∀b,b∈l->le a b=false)->B.merge l le=l++B
 |[],_=>by simp
 |b::l,h=>by
  have ih:=yc (B:=B) (l:=l) λx hx y hy=>h x hx y (.tail _ hy);cases B with
  |nil=>simp
  |cons a B=>rw[Ek,af (by rw[h a (.head _) b (.head _)];decide),ih];rfl
def knF (x:fD):yb:=⟨x.id,bC x.pat⟩
def sM (s:List fD):jj:=⟨s.map knF,s.flatMap λx=>iB x.pat⟩
theorem AW {a b:bQ}(h:dy a.p b.p<0):gb a b<0:=by unfold gb;rw[ag (show dy a.p b.p≠0 by omega)];exact h
theorem ae8 {a b:Dg}(h:a≠b)(h2:¬dy a b<0):dy b a<0:=by have :=iI a b;have h3:dy a b≠0:=λe=>h (jo e);omega
def ae9 (s:List fD):Prop:=∀x,x∈s->∀a,a∈iB x.pat->a.id.p=x.id
theorem JL {x:fD}(hx:∀a,a∈iB x.pat->a.id.p=x.id):∀{s:List fD},rN s->ae9 s->(∀y,y∈s->y.id≠x.id)->lE (sM s) x=sM (nM s x)
 |[],_,_,_=>by simp[lE,sW,sM,nM,knF]
 |y::s,hA,ho,hn=>by
  have hA':=dS.1 hA;have ih:=JL hx (s:=s) hA'.2 (λz hz=>ho z (.tail _ hz)) (λz hz=>hn z (.tail _ hz));have hp:=aY jj.pats ih;have ha:=aY jj.atoms ih;simp only[lE,sW,sM]at hp ha;unfold nM;by_cases h:dy y.id x.id<0;rw[ag h];simp only[lE,sW,sM,bB,mQ,jj.mk.injEq];refine⟨?_,?_⟩;have :=vw (le:=leK) (l:=[⟨x.id,bC x.pat⟩]) (A:=[knF y]) (B:=s.map knF) (λa q b r=>by rw[aO.1 q,aO.1 r];exact ah (show dy y.id x.id<=0 by omega));rw[hp]at this;exact this;rw[vw (le:=leA) (λa q b r=>by have :=AW (a:=a.id) (b:=b.id) (by rw[ho y (.head _) a q,hx b r];exact h);exact ah (show gb a.id b.id<=0 by omega)),ha];rw[af h];have hlt:∀z,z∈y::s->dy x.id z.id<0:=λz hz=>by have h1:=ae8 (hn y (.head _)) h;rcases aL.1 hz with rfl|hz;exact h1;exact gF h1 (hA'.1 z hz)
  have e1:=yc (le:=leK) (l:=[⟨x.id,bC x.pat⟩]) (B:=(y::s).map knF) (λa q b r=>by obtain⟨z,hz,rfl⟩:=aJ.1 q;rw[aO.1 r];have :=hlt z hz;have :=iI x.id z.id;exact ai (show¬dy z.id x.id<=0 by omega));have e2:=yc (le:=leA) (l:=iB x.pat) (B:=(y::s).flatMap λz=>iB z.pat) (λa q b r=>by obtain⟨z,hz,q⟩:=jc.1 q;have :=AW (a:=b.id) (b:=a.id) (by rw[ho z hz a q,hx b r];exact hlt z hz);have :=ov a.id b.id;exact ai (show¬gb a.id b.id<=0 by omega));unfold lE sW;simp only[sM];rw[e1,e2];rfl
theorem RT:∀(l t:List fD),rN (t++l)->ae9 (t++l)->l.foldl lE (sM t)=sM (t++l)
 |[],t,_,_=>by rw[bh];rfl
 |x::l,t,hA,ho=>by
  have hlt:∀y,y∈t->dy y.id x.id<0:=λy hy=>(List.pairwise_append.1 hA).2.2 y hy x (.head _);have h1:lE (sM t) x=sM (t++[x]):=by rw[JL (ho x (by simp)) (List.pairwise_append.1 hA).1 (λy hy=>ho y (by simp[hy])) (λy hy e=>by have :=hlt y hy;rw[e]at this;exact ji _ this)];have :=Rn t [] x hlt;rw[bh]at this;rw[this];rfl
  rw[fN,h1,RT l (t++[x]) (by simpa using hA) (by simpa using ho)];simp
theorem Ya {s:List fD}(hA:rN s)(ho:ae9 s):ab3 s=sM s:=RT s [] hA ho
theorem OQ {p:gr}(h:sV p):∀a,a∈iB p->a.id.p=(jB p).1:=λa ha=>by rw[sL h]at ha;obtain⟨b,-,rfl⟩:=aJ.1 ha;rw[Ej]
theorem OR {s:List fD}(h:HA s):ae9 s:=λx hx a ha=>by rw[OQ (h.q x hx) a ha,h.idE hx]
def qM (f:bQ)(b:bR):Bool:=decide (b.id=f)||fk f b
def fF (k:Int)(f:bQ)(b:bR):Bool:=decide (k=7)||(decide (b.kind=k)&&decide (b.file=f))
def oQ (a:bR):List (bQ×(bR->Bool)):=(if a.kind≠1/\a.kind≠7 then[(a.file,bg a.kind)]else[])++((if a.kind=2/\a.parent≠iS then[(a.parent,jg)]else[])++((if a.kind=6 then[(a.fr,qM a.file),(a.to,qM a.file)]else[])++a.over.map λi=>(i,fF a.kind a.file)))
def gJ (x:jj)(i:bQ):Option bR:=x.atoms.find? λa=>decide (a.id=i)
def stepG (L:bQ->Option bR)(d:Dg)(r:bQ×(bR->Bool)):Int:=if r.1.p=d then 0 else match L r.1 with|none=>7|some b=>if r.2 b=true then 0 else 8
def kj (p:gr)(i:Nat):Nat:=((p.changes.take i).map λc=>(cu c 0).length).sum
def El (p:gr)(d:Dg)(l:List bR)(i:Nat):bR:=let a:=l.getD (kj p i) dK;let c:=p.changes.getD i default;if c.kind=5 then⟨a.id,6,a.file,0,aP,[],0,[],[],aS c.cQ d,aS c.dc d,[]⟩else a
def Lh (x:jj)(p:fD):Int:=bf ((List.range p.pat.changes.length).flatMap λi=>(oQ (El p.pat p.id (iB p.pat) i)).map (stepG (gJ x) p.id))
def lN (x:jj):List Dg:=x.pats.map λk=>k.id
def qN (x:jj)(p:fD):jj×Int:=if(jB p.pat).2≠0 then(iU,(jB p.pat).2)else if(jB p.pat).1≠p.id then(iU,13)else if p.id∈lN x then(iU,6)else if mV (lN x) (bC p.pat)=false then(iU,19)else if Lh x p≠0 then(iU,Lh x p)else if 400<=x.pats.length then(iU,4)else(lE x p,0)
def Uk (x:jj×Int):AV:=.eN [.agg (ij x.1),.int .i64 x.2]
def gR {α:Type}(f:α->List AV)(l:List α):List FV:=aH (l.map f).flatten
section
variable {α:Type}{f:α->List AV}{e:Nat}
theorem yf (h:∀x,(f x).length=e)(l:List α):(gR f l).length=l.length*e:=by unfold gR;rw[jf,ic (e:=e) λzs hz=>by obtain⟨x,-,rfl⟩:=aJ.1 hz;exact h x];simp
theorem acm (l m:List α):gR f (l++m)=gR f l++gR f m:=by unfold gR;rw[aD,tQ,eZ,eZ,eZ,aD]
theorem ajH (l:List α)(o:Nat):FV.fu o (gR f l)=gR f l:=js o _
theorem OW (l m:List α)(o:Nat):FV.fu o (gR f l++aH (m.map f).flatten)=gR f (l++m):=by rw[acm];show FV.fu o (gR f l++gR f m)=_;rw[<-acm];exact ajH _ _
end
theorem afg (x:yb)(y:AV)(h:y∈gi x):y.one=true:=bD.1 (show(gi x).all AV.one=true from rfl) y h
theorem acn (l:List yb):∀ys,ys∈l.map gi->ys.length=33/\∀y,y∈ys->y.one=true:=by intro ys h;obtain⟨x,-,rfl⟩:=aJ.1 h;exact⟨rfl,λy hy=>afg x y hy⟩
theorem iu {l:List yb}:∀ys,ys∈l.map gi->ys.length=33:=λys h=>(acn l ys h).1
theorem AZ {aK:List (Nat×List FV)}{o:Nat}{xs ys:List FV}{v v':FV}(h:Qv.getObj aK o=some (xs++[v]))(e:xs++[v']=ys)(hw:bw v v'):∃zs,Qv.getObj aK o=some zs/\zs.length=ys.length/\∀(i:Nat)(x y:FV),zs[i]?=some x->ys[i]?=some y->bw x y:=by
 subst e;refine⟨_,h,by simp,λi x y h1 h2=>?_⟩;by_cases hi:i<xs.length;rw[cF hi]at h1 h2;rw[h1]at h2;obtain rfl:=aq h2;exact bw.refl _;rw[dN oO]at h1 h2;cases hj:i-xs.length with
 |zero=>rw[hj]at h1 h2;cases h1;cases h2;exact hw
 |succ n=>rw[hj]at h1;cases h1
theorem uI {aK:List (Nat×List FV)}{o:Nat}{v1 v2 w1 w2:FV}(h:Qv.getObj aK o=some [v1,v2])(h1:bw v1 w1)(h2:bw v2 w2):∃zs,Qv.getObj aK o=some zs/\zs.length=[w1,w2].length/\∀(i:Nat)(x y:FV),zs[i]?=some x->[w1,w2][i]?=some y->bw x y:=by
 refine⟨_,h,rfl,λi x y a b=>?_⟩;match i with
  |0=>cases a;cases b;exact h1
  |1=>cases a;cases b;exact h2
  |n+2=>cases a
theorem oR {s:List fD}{x y:fD}:y∈nM s x↔y=x\/y∈s:=by
 induction s with
 |nil=>simp[nM]
 |cons z l ih=>unfold nM;split;simp only[aL,ih];constructor;rintro(g|g|g);exact .inr (.inl g);exact .inl g;exact .inr (.inr g);rintro(g|g|g);exact .inr (.inl g);exact .inl g;exact .inr (.inr g);simp only[aL]
theorem JO (x:fD):∀s:List fD,(nM s x).length=s.length+1|[]=>rfl|y::l=>by unfold nM;split;rw[aW,JO x l,aW];rfl
theorem JP {x:fD}:∀{s:List fD},rN s->(∀y,y∈s->y.id≠x.id)->rN (nM s x)
 |[],_,_=>List.pairwise_singleton _ _
 |y::l,h,hn=>by
  have h1:=dS.1 h;unfold nM;by_cases e:dy y.id x.id<0;rw[ag e];refine dS.2 ⟨λz hz=>?_,JP h1.2 λz hz=>hn z (dG _ hz)⟩;rcases oR.1 hz with rfl|hz;exact e;exact h1.1 z hz;rw[af e];have hxy:dy x.id y.id<0:=by have h2:=iI y.id x.id;have h3:dy y.id x.id≠0:=λg=>hn y (by simp) (jo g);omega
  refine dS.2 ⟨λz hz=>?_,h⟩;rcases aL.1 hz with rfl|hz;exact hxy;exact gF hxy (h1.1 z hz)
theorem En {s:List fD}{x:fD}{d:Dg}:d∈iz (nM s x)↔d=x.id\/d∈iz s:=by unfold iz;simp only[aJ,oR];constructor;rintro⟨y,rfl|hy,rfl⟩;exact .inl rfl;exact .inr ⟨y,hy,rfl⟩;rintro(rfl|⟨y,hy,rfl⟩);exact⟨x,.inl rfl,rfl⟩;exact⟨y,.inr hy,rfl⟩
theorem ab9 {s:List fD}{x:fD}(hA:rN s)(hn:x.id∉iz s){d:Dg}(hd:d≠x.id):wC (nM s x) d=wC s d:=by have hA2:rN (nM s x):=JP hA λy hy e=>hn (e▸aJ.2 ⟨y,hy,rfl⟩);by_cases h:d∈iz s;obtain⟨y,hy,rfl⟩:=aJ.1 h;rw[sw hA hy,sw hA2 (oR.2 (.inr hy))];rw[Fy h,Fy (λg=>(En.1 g).elim hd h)]
theorem Yd {s:List fD}{x:fD}(hA:rN s)(hn:x.id∉iz s){i:bQ}(hi:i.p≠x.id):iT (nM s x) i=iT s i:=by unfold iT;rw[ab9 hA hn hi]
theorem wH {p:gr}(h:(mg p).2=0){c:dw}(hc:c∈p.changes){i:bQ}(hi:i∈refsOf c)(hz:i.p≠aZ):i.p∈bC p:=by unfold bC;rw[af (λg=>g h)];exact AU.2 (.inr ⟨hz,i,jc.2 ⟨c,hc,hi⟩,rfl⟩)
theorem afc {s:List fD}{x:fD}(hA:rN s)(hn:x.id∉iz s){p:gr}(hp:(mg p).2=0)(hne:x.id∉bC p){c:dw}(hc:c∈p.changes)(d:Dg):chE (nM s x) c d=chE s c d:=by
 have key:∀i,i∈refsOf c->¬i.p=aZ->iT (nM s x) i=iT s i:=λi hi hz=>Yd hA hn λe=>hne (e▸wH hp hc hi hz);have e1:c.file∈refsOf c:=by unfold refsOf;simp
 have e2:c.parent∈refsOf c:=by unfold refsOf;simp
 have e3:c.cQ∈refsOf c:=by unfold refsOf;simp
 have e4:c.dc∈refsOf c:=by unfold refsOf;simp
 have e5:∀i,i∈c.over->i∈refsOf c:=λi hi=>by unfold refsOf;simp[hi]
 have hend:∀i,i∈refsOf c->TQ (nM s x) i c.file d=TQ s i c.file d:=λi hi=>by unfold TQ;by_cases g:i.p=aZ\/i=c.file;rw[ag g,ag g];rw[af g,af g,key i hi λq=>g (.inl q)]
 have Aa:c.over.map (ovE (nM s x) c d)=c.over.map (ovE s c d):=en λi hi=>by unfold ovE;by_cases g:i.p=aZ;rw[ag g,ag g];rw[af g,af g,key i (e5 i hi) g]
 have hfi:(if c.file.p=aZ then(0:Int)else if(iT (nM s x) c.file).2=false then 7 else if bg c.kind (iT (nM s x) c.file).1=false then 8 else 0)=(if c.file.p=aZ then 0 else if(iT s c.file).2=false then 7 else if bg c.kind (iT s c.file).1=false then 8 else 0):=by by_cases g:c.file.p=aZ;rw[ag g,ag g];rw[af g,af g,key _ e1 g]
 have hpa:(if c.parent.p=aZ then(0:Int)else if(iT (nM s x) c.parent).2=false then 7 else if jg (iT (nM s x) c.parent).1=false then 8 else 0)=(if c.parent.p=aZ then 0 else if(iT s c.parent).2=false then 7 else if jg (iT s c.parent).1=false then 8 else 0):=by by_cases g:c.parent.p=aZ;rw[ag g,ag g];rw[af g,af g,key _ e2 g]
 unfold chE;rw[hfi,hpa,hend _ e3,hend _ e4,Aa]
theorem MB {s:List fD}{x:fD}(hA:rN s)(hn:x.id∉iz s){p:gr}(hp:(mg p).2=0)(hne:x.id∉bC p)(d:Dg):qE (nM s x) p d=qE s p d:=by unfold qE;rw[en λc hc=>afc hA hn hp hne hc d]
def AY (s:List fD)(o:List Dg):Prop:=∀(a b:List Dg)(e:Dg),o=a++e::b->∀y,y∈s->y.id=e->∀q,q∈bC y.pat->q∈a
theorem Gy {s:List fD}{o:List Dg}(h:AY s o){e:Dg}(he:∀y,y∈s->y.id=e->∀q,q∈bC y.pat->q∈o):AY s (o++[e]):=by
 intro a b e' hab y hy Zb q hq;rcases List.eq_nil_or_concat b with rfl|⟨b',z,rfl⟩;have h1:=List.append_inj' hab rfl;obtain⟨rfl,h2⟩:=h1;injection h2 with h2 _;subst h2;exact he y hy Zb q hq;have h1:o++[e]=(a++e'::b')++[z]:=by rw[hab];simp
 have h2:=(List.append_inj' h1 rfl).1;exact h a b' e' h2 y hy Zb q hq
theorem Gz {s:List fD}(hA:rN s):∀(n:Nat)(out:List Dg),AY s out->AY s (xZ s n out)
 |0,out,h=>h
 |n+1,out,h=>by
  unfold xZ;cases hf:s.find? (uG out)with
  |none=>exact h
  |some x=>refine Gz hA n _ (Gy h λy hy Zb q hq=>?_);have hx:=lD hf;obtain rfl:=OO hA hy hx Zb;have hn:=jN hf;unfold uG at hn;simp only[bn,ek,decide_eq_false_iff_not,mV,bD,decide_eq_true_eq]at hn;exact hn.2 q hq
theorem OT {s:List fD}(hA:rN s):AY s (sJ s):=by unfold sJ;rw[<-Hz hA];exact Gz hA _ _ λa b e h=>by simp at h
theorem MC {out:List Dg}{P:Dg->Prop}:∀{o:List Dg}{d:Dg},d∈o->d∉out->P d->∃a e b,o=a++e::b/\e∉out/\P e/\∀q,q∈a->q∈out\/¬P q|x::o,d,hd,hn,hp=>by by_cases hx:x∉out/\P x;exact⟨[],x,o,rfl,hx.1,hx.2,λq hq=>by cases hq⟩;have hdo:d∈o:=(aL.1 hd).resolve_left λe=>hx ⟨e▸hn,e▸hp⟩;obtain⟨a,e,b,h1,h2,h3,h4⟩:=MC hdo hn hp;refine⟨x::a,e,b,by rw[h1];rfl,h2,h3,λq hq=>?_⟩;rcases aL.1 hq with rfl|hq;by_cases g:q∈out;exact .inl g;exact .inr λgp=>hx ⟨g,gp⟩;exact h4 q hq
theorem Uo {t:List fD}(hA:rN t)(hc:∀x,x∈t->∀d,d∈bC x.pat->d∈iz t){o:List Dg}(ho:AY t o)(hall:∀d,d∈iz t->d∈o):(sJ t).length=t.length:=by
 have go:∀(n:Nat)(out:List Dg),out.Nodup->(∀d,d∈out->d∈iz t)->out.length+n=t.length->(xZ t n out).length=t.length:=λn=>by
  induction n with
  |zero=>intro out _ _ h;exact h
  |succ n ih=>
   intro out hn hm hl;have hex:∃d,d∈iz t/\d∉out:=by refine iE λg=>?_;have :∀d,d∈iz t->d∈out:=λd hd=>iE λq=>g ⟨d,hd,q⟩;have :=JG (Wa hA) this;unfold iz at this;rw[aj]at this;omega
   obtain⟨d,hd,hdo⟩:=hex;obtain⟨a,e,b,h1,h2,h3,h4⟩:=MC (P:=λq=>q∈iz t) (hall d hd) hdo hd;obtain⟨y,hy,Zb⟩:=aJ.1 h3;have hny:uG out y=true:=by unfold uG;simp only[bn,ek,decide_eq_false_iff_not,mV,bD,decide_eq_true_eq];refine⟨by rw[Zb];exact h2,λq hq=>?_⟩;have :=ho a b e h1 y hy Zb q hq;rcases h4 q this with g|g;exact g;exact absurd (hc y hy q hq) g
   unfold xZ;cases hf:t.find? (uG out)with
   |none=>rw[ow]at hf;exact absurd hny (hf y hy)
   |some x=>have hx:=lD hf;have oG:=jN hf;unfold uG at oG;simp only[bn,ek,decide_eq_false_iff_not]at oG;refine ih (out++[x.id]) ?_ (λq hq=>?_) (by rw[aA,fc];omega);rw[og];refine⟨hn,by simp,λu hu v hv e=>?_⟩;rw[aO.1 hv]at e;exact oG.1 (e▸hu);rcases bk.1 hq with hq|hq;exact hm q hq;rw[aO.1 hq];exact aJ.2 ⟨x,hx,rfl⟩
 unfold sJ;rw[<-Hz hA];exact go t.length [] tU (λd h=>by cases h) (by simp)
theorem afd {s:List fD}(h:OkS s){p:gr}{d:Dg}(hl:s.length<400)(hid:jB p=(d,0))(hp:(mg p).2=0)(hnew:(wC s d).2=false)(hn:mV (iz s) (bC p)=true)(hr:qE s p d=0):OkS (nM s ⟨d,p⟩):=by
 have hdn:d∉iz s:=λg=>by obtain⟨y,hy,rfl⟩:=aJ.1 g;rw[sw h.Hy hy]at hnew;cases hnew
 have Vv:∀q,q∈bC p->q∈iz s:=λq hq=>by unfold mV at hn;simpa using bD.1 hn q hq
 have hA:rN (nM s ⟨d,p⟩):=JP h.Hy λy hy e=>hdn (by rw[<-(show y.id=d from e)];exact aJ.2 ⟨y,hy,rfl⟩);have hc:∀x,x∈nM s ⟨d,p⟩->∀q,q∈bC x.pat->q∈iz (nM s ⟨d,p⟩):=λx hx q hq=>by rcases oR.1 hx with rfl|hx;exact En.2 (.inr (Vv q hq));exact En.2 (.inr (h.cS x hx q hq))
 have ajD:∀y,y∈s->(mg y.pat).2=0:=λy hy=>by have :=h.id y hy;unfold jB at this;by_cases g:(mg y.pat).2≠0;rw[ag g]at this;exact absurd (aY Prod.snd this) g;exact cK.1 g
 refine⟨by rw[JO];omega,hA,λx hx=>?_,hc,?_,λx hx=>?_⟩;rcases oR.1 hx with rfl|hx;exact hid;exact h.id x hx;refine Uo hA hc (o:=sJ s++[d]) (Gy (λa b e hab y hy Zb q hq=>?_) λy hy Zb q hq=>?_) λq hq=>?_;rcases oR.1 hy with rfl|hy;exfalso;have he:e∈sJ s:=by rw[hab];simp
 exact hdn (by rw[show d=e from Zb];exact(AT h e).1 he);exact OT h.Hy a b e hab y hy Zb q hq;rcases oR.1 hy with rfl|hy;exact(AT h q).2 (Vv q hq);exact absurd (show d∈iz s from by rw[<-(show y.id=d from Zb)];exact aJ.2 ⟨y,hy,rfl⟩) hdn;rcases En.1 hq with rfl|hq;simp;exact jJ _ ((AT h q).2 hq);rcases oR.1 hx with rfl|hx;rw[MB h.Hy hdn hp (λg=>hdn (Vv _ g))];exact hr;rw[MB h.Hy hdn (ajD x hx) (λg=>hdn (h.cS x hx _ g))];exact h.refs x hx
theorem Wd {s:List fD}(h:HA s){p:gr}(hf:DW p)(ahl:(di p).1.length<=100000)(h0:(KW s p).2.2=0):HA (KW s p).1/\(KW s p).1=nM s ⟨(jB p).1,p⟩/\(KW s p).2.1=(jB p).1/\jB p=((KW s p).2.1,0)/\(jB p).1∉iz s:=by
 unfold KW at h0⊢;by_cases h1:(jB p).2≠0;rw[ag h1]at h0;exact absurd h0 h1;rw[af h1]at h0⊢;by_cases h2:(wC s (jB p).1).2=true;rw[ag h2]at h0;exfalso;split at h0;exact absurd h0 dD;exact absurd h0 dD;rw[af h2]at h0⊢;by_cases h3:mV (iz s) (bC p)=false;rw[ag h3]at h0;exact absurd h0 dD;rw[af h3]at h0⊢;by_cases h4:qE s p (jB p).1≠0;rw[ag h4]at h0;exact absurd h0 h4;rw[af h4]at h0⊢;by_cases h5:400<=s.length;rw[ag h5]at h0;exact absurd h0 dD;rw[af h5]at h0⊢;have hid:jB p=((jB p).1,0):=Prod.ext rfl (cK.1 h1);have adz:(mg p).2=0:=by have :=hid;unfold jB at this;by_cases g:(mg p).2≠0;exfalso;rw[ag g]at this;exact g (aY Prod.snd this);exact cK.1 g
 have hnew:(wC s (jB p).1).2=false:=by simpa using h2
 have hdn:(jB p).1∉iz s:=λg=>by obtain⟨y,hy,e⟩:=aJ.1 g;rw[<-e,sw h.ok.Hy hy]at hnew;cases hnew
 have hok:=afd h.ok (p:=p) (d:=(jB p).1) oO hid adz hnew (by simpa using h3) (cK.1 h4);refine⟨⟨⟨by rw[JO];omega,λx hx=>?_⟩,hok,λx hx=>?_⟩,rfl,rfl,hid,hdn⟩;rcases oR.1 hx with rfl|hx;exact hf;exact h.fit.each x hx;rcases oR.1 hx with rfl|hx;exact⟨hf,adz,ahl⟩;exact h.q x hx
def iy (L:bQ->Option bR)(i:bQ)(f:bR->Bool):Int:=if i.p=aZ then 0 else match L i with|none=>7|some b=>if f b=true then 0 else 8
def Ao (L:bQ->Option bR)(x file:bQ)(d:Dg):Int:=if x=file then 0 else iy L x (fk (aS file d))
def chL (L:bQ->Option bR)(c:dw)(d:Dg):Int:=bf (iy L c.file (bg c.kind)::iy L c.parent jg::Ao L c.cQ c.file d::Ao L c.dc c.file d::c.over.map λi=>iy L i (dR c.kind (aS c.file d)))
def mA (s:List fD)(i:bQ):Option bR:=if(iT s i).2=true then some (iT s i).1 else none
theorem We (s:List fD)(i:bQ)(f:bR->Bool):(if i.p=aZ then(0:Int)else if(iT s i).2=false then 7 else if f (iT s i).1=false then 8 else 0)=iy (mA s) i f:=by
 unfold iy mA;by_cases h:i.p=aZ;rw[ag h,ag h];rw[af h,af h];cases h2:(iT s i).2 with
 |false=>rfl
 |true=>
  rw[af dD,ag rfl];cases h3:f (iT s i).1 with
  |false=>simp[h3]
  |true=>simp[h3]
theorem acd (s:List fD)(c:dw)(d:Dg):chE s c d=chL (mA s) c d:=by
 have he:∀x,TQ s x c.file d=Ao (mA s) x c.file d:=λx=>by have :=We s x (fk (aS c.file d));unfold TQ Ao;by_cases h:x=c.file;rw[ag (.inr h),ag h];rw[af h,<-this];by_cases h2:x.p=aZ;rw[ag (.inl h2),ag h2];rw[af h2,af (λg=>g.elim h2 h)]
 unfold chE chL;rw[he,he,We,We,bh];congr 5;exact en λi _=>We s i _
theorem sx {L L':bQ->Option bR}{i:bQ}(h:i.p≠aZ->L i=L' i)(f:bR->Bool):iy L i f=iy L' i f:=by unfold iy;by_cases g:i.p=aZ;rw[ag g,ag g];rw[af g,af g,h g]
theorem Ye {L L':bQ->Option bR}{c:dw}(h:∀i,i∈refsOf c->i.p≠aZ->L i=L' i)(d:Dg):chL L c d=chL L' c d:=by
 have e1:c.file∈refsOf c:=by unfold refsOf;simp
 have e2:c.parent∈refsOf c:=by unfold refsOf;simp
 have e3:c.cQ∈refsOf c:=by unfold refsOf;simp
 have e4:c.dc∈refsOf c:=by unfold refsOf;simp
 have e5:∀i,i∈c.over->i∈refsOf c:=λi hi=>by unfold refsOf;simp[hi]
 unfold chL Ao;rw[sx (h _ e1),sx (h _ e2),sx (h _ e3),sx (h _ e4)];rw[en λi hi=>sx (h _ (e5 i hi)) _]
structure Clean (c:dw):Prop where
 lo:1<=c.kind
 hi:c.kind<=7
 par:c.kind≠2->c.parent=aP
 ends:¬(c.kind=5\/c.kind=6)->c.cQ=aP/\c.dc=aP
 file:c.kind=1\/c.kind=7->c.file=aP
 over:c.kind=1\/c.kind=5->c.over=[]
 Hy:Jx c.over
theorem RW {c:dw}(h:cG c=0):Clean c:=by
 obtain⟨g1,g2,-,-,g5,-⟩:=eD h;have Uj:c.kind≠5->Jx c.over:=λh5=>Fz (JJ h h5);have h7:c.kind=1\/c.kind=2\/c.kind=3\/c.kind=4\/c.kind=5\/c.kind=6\/c.kind=7:=oO
 cases c with
 |mk kind file type parent name mode data cQ dc lines over=>simp only at h7 Uj;rcases h7 with rfl|rfl|rfl|rfl|rfl|rfl|rfl<;>simp[bG,eS]at g5<;>exact⟨g1,g2,by simp_all,by simp_all,by simp_all,by simp_all,by first|exact Uj dD|(simp_all)⟩
theorem vL {α:Type}{P:α->Bool}{g:α->Int}:∀{l:List α},(∀x,x∈l->P x=false->g x=0)->bf (l.map g)=bf ((l.filter P).map g)
 |[],_=>rfl
 |x::l,h=>by
  have ih:=vL (l:=l) λy hy=>h y (.tail _ hy);cases hp:P x with
  |true=>rw[List.filter_cons_of_pos hp,bB,bB,bf,bf,ih]
  |false=>rw[List.filter_cons_of_neg (by rw[hp];decide),bB,dz (h x (.head _) hp),ih]
theorem kn:∀(a b:List Int),bf (a++b)=if bf a≠0 then bf a else bf b
 |[],b=>by simp[bf]
 |e::a,b=>by rw[cr,bf,bf,kn a b];by_cases h:e=0;simp[h];simp[h]
section
variable {L:bQ->Option bR}{d:Dg}
theorem Yf {i:bQ}(h:i.p=aZ)(hn:0<=i.n)(f:bR->Bool):stepG L d (aS i d,f)=0:=by rw[show aS i d=⟨d,i.n⟩from ag ⟨h,hn⟩];exact ag rfl
theorem uH {i:bQ}(h0:i.p=aZ->0<=i.n)(h1:i.p≠aZ->i.p≠d)(f:bR->Bool):stepG L d (aS i d,f)=iy L i f:=by by_cases h:i.p=aZ;rw[Yf h (h0 h)];exact(ag h).symm;rw[show aS i d=i from af λg=>h g.1];unfold stepG iy;rw[af (h1 h),af h]<;>rfl
theorem Up {l:List bQ}(ha:Jx l)(h0:∀i,i∈l->i.p=aZ->0<=i.n)(h1:∀i,i∈l->i.p≠aZ->i.p≠d)(f:bR->Bool):bf ((DV d l).map λi=>stepG L d (i,f))=bf (l.map λi=>iy L i f):=by
 have e:(DV d l).filter (λi=>!decide (i.p=d))=l.filter λi=>!decide (i.p=aZ):=by refine Gu ((Ms .nil).filter _) (ha.filter _) λx=>?_;simp only[om,ek,decide_eq_false_iff_not,DV,Fq,aJ,gQ,or_false];constructor;rintro⟨⟨y,hy,rfl⟩,h⟩;by_cases g:y.p=aZ;rw[show aS y d=⟨d,y.n⟩from ag ⟨g,h0 y hy g⟩]at h;exact absurd rfl h;rw[show aS y d=y from af λq=>g q.1];exact⟨hy,g⟩;rintro⟨hx,h⟩;exact⟨⟨x,hx,af λq=>h q.1⟩,h1 x hx h⟩
 rw[vL (P:=λi=>!decide (i.p=d)) (l:=DV d l) (λi _ hi=>by
  have hi:i.p=d:=by simpa using hi
  exact ag hi),e,vL (P:=λi=>!decide (i.p=aZ)) (l:=l) (λi _ hi=>by
  have hi:i.p=aZ:=by simpa using hi
  exact ag hi)];congr 1;refine en λi hi=>?_;obtain⟨q1,q2⟩:=om.1 hi;have q2:i.p≠aZ:=by simpa using q2
 unfold stepG iy;rw[af (h1 i q1 q2),af q2]<;>rfl
end
def sX (d:Dg)(c:dw)(f:Nat):bR:=let a:=cM d ((cu c f).headD dK);if c.kind=5 then⟨a.id,6,a.file,0,aP,[],0,[],[],aS c.cQ d,aS c.dc d,[]⟩else a
structure RX (L:bQ->Option bR)(c:dw)(d:Dg):Prop where
 ids:∀i b,L i=some b->b.id=i
 ne:∀i,i∈refsOf c->i.p≠aZ->i.p≠d
 own:∀i,i∈c.file::c.cQ::c.dc::c.over->i.p=aZ->0<=i.n
 par:c.parent.p=aZ->c.parent=iS\/0<=c.parent.n
 clean:Clean c
 lines:c.kind=5->c.lines≠[]
theorem Cz {c:dw}(hc:Clean c)(hl:c.kind=5->c.lines≠[])(d:Dg)(f:Nat):oQ (sX d c f)=(if c.kind≠1/\c.kind≠7 then[(aS c.file d,bg c.kind)]else[])++((if c.kind=2/\aS c.parent d≠iS then[(aS c.parent d,jg)]else[])++((if c.kind=5\/c.kind=6 then[(aS c.cQ d,qM (aS c.file d)),(aS c.dc d,qM (aS c.file d))]else[])++(DV d c.over).map λi=>(i,fF c.kind (aS c.file d)))):=by
 have h7:c.kind=1\/c.kind=2\/c.kind=3\/c.kind=4\/c.kind=5\/c.kind=6\/c.kind=7:=by have :=hc.lo;have :=hc.hi;omega
 have ho:=hc.over;cases c with
 |mk kind file type parent name mode data cQ dc lines over=>
  simp only at h7 hl ho⊢;have h56:bg 5=bg 6:=by funext x;simp[bg,fC]
  have al0:∀g g':bQ,fF 7 g=fF 7 g':=λg g'=>by funext b;simp[fF]
  rcases h7 with rfl|rfl|rfl|rfl|rfl|rfl|rfl;have :over=[]:=ho (.inl rfl);subst this;simp[sX,cu,dU,cM,st1,st2,Ci,Cj,Ks,oQ,DV];simp[sX,cu,dU,cM,st1,st2,Ci,Cj,Ks,oQ];simp[sX,cu,dU,cM,st1,st2,Ci,Cj,Ks,oQ];simp[sX,cu,dU,cM,st1,st2,Ci,Cj,Ks,oQ];have :over=[]:=ho (.inr rfl);subst this;have hl:=hl rfl;cases lines with
  |nil=>exact absurd rfl hl
  |cons t ts=>simp[sX,cu,nK,List.range_succ_eq_map,cM,st1,st2,Ci,Cj,Ks,oQ,DV,h56]
  simp[sX,cu,dU,cM,st1,st2,Ci,Cj,Ks,oQ];simp[sX,cu,dU,cM,st1,st2,Ci,Cj,Ks,oQ];intro i _;exact al0 _ _
theorem ahs {L:bQ->Option bR}{c:dw}{d:Dg}(h:RX L c d)(f:Nat):bf ((oQ (sX d c f)).map (stepG L d))=chL L c d:=by
 have hc:=h.clean;have m1:c.file∈refsOf c:=by unfold refsOf;simp
 have m2:c.parent∈refsOf c:=by unfold refsOf;simp
 have m3:c.cQ∈refsOf c:=by unfold refsOf;simp
 have m4:c.dc∈refsOf c:=by unfold refsOf;simp
 have m5:∀i,i∈c.over->i∈refsOf c:=λi hi=>by unfold refsOf;simp[hi]
 have eF:stepG L d (aS c.file d,bg c.kind)=iy L c.file (bg c.kind):=uH (h.own _ (by simp)) (h.ne _ m1) _;have eO:bf (((DV d c.over).map λi=>(i,fF c.kind (aS c.file d))).map (stepG L d))=bf (c.over.map λi=>iy L i (dR c.kind (aS c.file d))):=by
  have :=Up (L:=L) (d:=d) hc.Hy (λi hi=>h.own i (by simp[hi])) (λi hi=>h.ne i (m5 i hi)) (fF c.kind (aS c.file d));rw[fP];have e:fF c.kind (aS c.file d)=dR c.kind (aS c.file d):=by
   funext b;unfold fF dR zT;by_cases g:c.kind=7;simp[g];have :=hc.lo;have g0:¬c.kind=0:=oO
   simp[g,g0]
  rw[<-e];exact this
 have eP:bf ((if c.kind=2/\aS c.parent d≠iS then[(aS c.parent d,jg)]else[]).map (stepG L d))=iy L c.parent jg:=by by_cases g:c.kind=2/\aS c.parent d≠iS;rw[ag g];have hn:c.parent.p=aZ->0<=c.parent.n:=λq=>(h.par q).elim (λe=>absurd (by rw[e];rfl) g.2) id;rw[xV,uH hn (h.ne _ m2)];unfold bf bf;split<;>simp_all;rw[af g];show(0:Int)=_;by_cases k:c.kind=2;have e:aS c.parent d=iS:=cK.1 λq=>g ⟨k,q⟩;have hp:c.parent.p=aZ:=iE λq=>q (by rw[<-show aS c.parent d=c.parent from af λr=>q r.1,e];rfl);exact(ag hp).symm;rw[hc.par k];rfl
 have eE:∀x,x∈refsOf c->(x.p=aZ->0<=x.n)->c.kind=5\/c.kind=6->iy L c.file (bg c.kind)=0->stepG L d (aS x d,qM (aS c.file d))=Ao L x c.file d:=λx hx hn hk hF=>by
  rw[uH hn (h.ne _ hx)];unfold Ao;by_cases e:x=c.file;rw[ag e];subst e;unfold iy at hF⊢;by_cases g:c.file.p=aZ;exact ag g;rw[af g]at hF⊢;rw[show aS c.file d=c.file from af λq=>g q.1];cases hL:L c.file with
  |none=>rw[hL]at hF;exact absurd (show(7:Int)=0 from hF) dD
  |some b=>show(if qM c.file b=true then(0:Int)else 8)=0;rw[ag];unfold qM;rw[ah (h.ids _ _ hL)];rfl
  rw[af e];unfold iy;by_cases g:x.p=aZ;rw[ag g,ag g];rw[af g,af g];cases hL:L x with
  |none=>rfl
  |some b=>
   have hb:=h.ids _ _ hL;have hne:¬b.id=aS c.file d:=by rw[hb];by_cases q:c.file.p=aZ;rw[show aS c.file d=⟨d,c.file.n⟩from ag ⟨q,h.own _ (by simp) q⟩];intro r;exact h.ne _ hx g (by rw[r]);rw[show aS c.file d=c.file from af λr=>q r.1];exact e
   show(if qM (aS c.file d) b=true then(0:Int)else 8)=if fk (aS c.file d) b=true then 0 else 8;unfold qM;rw[ai hne,gA]
 rw[Cz hc h.lines];unfold chL;rw[aD,aD,aD,kn,kn,kn,eO,eP];have e17:bf ((if c.kind≠1/\c.kind≠7 then[(aS c.file d,bg c.kind)]else[]).map (stepG L d))=iy L c.file (bg c.kind):=by by_cases g:c.kind≠1/\c.kind≠7;rw[ag g,xV,eF];unfold bf bf;split<;>simp_all;rw[af g,hc.file oO];rfl
 rw[e17];by_cases hF:iy L c.file (bg c.kind)=0;rotate_left;rw[ag hF,ee hF];rw[af (λg=>g hF),dz hF];have e56:bf ((if c.kind=5\/c.kind=6 then[(aS c.cQ d,qM (aS c.file d)),(aS c.dc d,qM (aS c.file d))]else[]).map (stepG L d))=bf [Ao L c.cQ c.file d,Ao L c.dc c.file d]:=by
  by_cases g:c.kind=5\/c.kind=6;rw[ag g,bB,xV,eE _ m3 (h.own _ (by simp)) g hF,eE _ m4 (h.own _ (by simp)) g hF];rw[af g,(hc.ends g).1,(hc.ends g).2];have :Ao L aP c.file d=0:=by unfold Ao;split;rfl;rfl
  rw[this];rfl
 rw[e56,show∀a b:Int,∀l,bf (iy L c.parent jg::a::b::l)=bf ([iy L c.parent jg]++([a,b]++l))fromλ_ _ _=>rfl,kn,kn];have :∀e:Int,bf [e]=e:=λe=>by unfold bf bf;split<;>simp_all
 rw[this]
theorem JT (c:dw)(a b:Nat):(cu c a).length=(cu c b).length:=by rw[wA,wA]
theorem Ux {c:dw}(a:Nat):∃x r,cu c a=x::r:=by
 cases h:cu c a with
 |cons x r=>exact⟨x,r,rfl⟩
 |nil=>have :=aY List.length h;rw[wA]at this;split at this<;>simp at this
theorem As:∀(l:List dw)(own:List bR),(iG l own).2=0->∃r,(iG l own).1=own++r|[],own,_=>⟨[],(bh _).symm⟩|c::l,own,h=>by rw[iQ]at h⊢;by_cases h1:cG c≠0;rw[ag h1]at h;exact absurd h h1;rw[af h1]at h⊢;by_cases h2:jA c own≠0;rw[ag h2]at h;exact absurd h h2;rw[af h2]at h⊢;obtain⟨r,hr⟩:=As l _ h;exact⟨cu c own.length++r,by rw[hr,bq]⟩
theorem GD:∀(l:List dw)(own:List bR)(i:Nat)(hi:i<l.length),(iG l own).2=0->(iG l own).1[own.length+((l.take i).map λc=>(cu c 0).length).sum]?=some ((cu l[i] (own.length+((l.take i).map λc=>(cu c 0).length).sum)).headD dK)
 |c::l,own,i,hi,h=>by
  rw[iQ]at h⊢;by_cases h1:cG c≠0;rw[ag h1]at h;exact absurd h h1;rw[af h1]at h⊢;by_cases h2:jA c own≠0;rw[ag h2]at h;exact absurd h h2;rw[af h2]at h⊢;cases i with
  |zero=>obtain⟨r,hr⟩:=As l _ h;obtain⟨x,q,hx⟩:=Ux (c:=c) own.length;rw[hr];simp only[List.take_zero,fM,List.sum_nil,qi,List.getElem_cons_zero];rw[hx];simp
  |succ i=>
   have ih:=GD l (own++cu c own.length) i (by simpa using hi) h;have e:(own++cu c own.length).length+((l.take i).map λc=>(cu c 0).length).sum=own.length+(((c::l).take (i+1)).map λc=>(cu c 0).length).sum:=by rw[xd,bB,qq,aA,JT c own.length 0,fL]
   rw[e]at ih;exact ih
theorem MG {p:gr}(h:sV p){i:Nat}(hi:i<p.changes.length):(iB p)[kj p i]?=some (cM (jB p).1 ((cu p.changes[i] (kj p i)).headD dK)):=by have h2:=h.YQ;rw[h.SI.all]at h2;have :=GD p.changes [] i hi h2;rw[bt,dF]at this;rw[sL h,aM,h.SI.all];show((iG p.changes []).1[kj p i]?).map _=_;rw[show(iG p.changes []).1[kj p i]?=_ from this];rfl
theorem RZ {p:gr}(h:sV p){i:Nat}(hi:i<p.changes.length)(d:Dg)(hd:(jB p).1=d):El p d (iB p) i=sX d p.changes[i] (kj p i):=by
 subst hd;have h1:=MG h hi;have e1:(iB p).getD (kj p i) dK=cM (jB p).1 ((cu p.changes[i] (kj p i)).headD dK):=by rw[dr,h1];rfl
 have e2:p.changes.getD i default=p.changes[i]:=by rw[dr,ay hi];rfl
 unfold El sX;simp only[e1,e2]
end Qv
