/- Part 42 of the proof: its lemmas. No condition. -/
import Derived.Test.YtlbofhenpfnenaaGreatDoorV7
import Derived.Test.YtlbofhenpfnenaaGreatDoorV12
import Derived.Test.YtlbofhenpfnenaaGreatDoorV16
set_option maxRecDepth 10000
set_option maxHeartbeats 80000000
set_option linter.all false
open Go Go.Proofs Go.RowKit
namespace Qv
def vA:Code->Option (Array Tmp×Code×Code)
 |.seq a b=>match vA a with|some x=>some x|none=>vA b
 |.block _ c=>vA c
 |.loop c=>vA c
 |.cond _ x y=>match vA x with|some r=>some r|none=>vA y
 |.rangeFunc _ ps a b=>some (ps,a,b)
 |_=>none
noncomputable def ZA:pE:=match Tryz.f148.body with
 |some c=>match vA c with|some (ps,a,b)=>sR jC (uM CJ (jc CJ 6) jC a) (uM CJ (jc CJ 6) jC b) ps.toList 0 0|none=>jC
 |none=>jC
theorem alD (p:ga)(k:Nat)(b:Bool)(own:List bD)(x:bD)(hn:own.length<=2^31)(hb:b=false->own=[])(hx:x.over=[]):YJ ZA p k [] [] b own true x:=by
 obtain⟨a1,a2,a3,a4,a5,a6,a7,a8,a9,Lg,Lh,a12⟩:=x;obtain rfl:a12=[]:=hx;intro K' uF;refine⟨rfl,?_⟩;cases b with
 |false=>obtain rfl:=hb rfl;refine vw 61 2000 [(1,.ptr 1 0),(6,.ptr 6 0),(11,.ptr 2011 0),(20,.p (.sl (p.changes.map cC))),(21,.p (.int .i64 ((p.changes.map cC).length:Int))),(22,.p (.int .i64 k))] ((2011,(aH (cA ⟨a1,a2,a3,a4,a5,a6,a7,a8,a9,Lg,Lh,[]⟩)).take 171++[.full []])::ry p false []) [(144,1000,[]),(61,0,ru p k)] [.busy] kK wS oS ⟨rfl,trivial,rfl,wS,trivial⟩ ?_;refine⟨mu _ _,(λzs h=>by rw[aS.1 h];rfl),(show 1*296<=140737488355328 by decide),bW [⟨a1,a2,a3,a4,a5,a6,a7,a8,a9,Lg,Lh,[]⟩],rfl,?_⟩;exact uF _ (bw kK trivial oS ⟨rfl,jd p k,trivial⟩ trivial)
 |true=>refine vw 61 2000 [(1,.ptr 1 0),(6,.ptr 6 0),(11,.ptr 2011 0),(20,.p (.sl (p.changes.map cC))),(21,.p (.int .i64 ((p.changes.map cC).length:Int))),(22,.p (.int .i64 k))] ((2011,(aH (cA ⟨a1,a2,a3,a4,a5,a6,a7,a8,a9,Lg,Lh,[]⟩)).take 171++[.full []])::ry p true own) [(144,1000,[]),(61,0,ru p k)] [.busy] kK wS ⟨aC kK,aC kK,aC kK,tG 2011 kK,trivial⟩ ⟨rfl,trivial,rfl,wS,trivial⟩ ?_;refine⟨own.length,DZ own _,(λzs h=>by rw[aS.1 h];rfl),by show(own.length+1)*296<=_;omega,bW (own++[⟨a1,a2,a3,a4,a5,a6,a7,a8,a9,Lg,Lh,[]⟩]),HE own ⟨a1,a2,a3,a4,a5,a6,a7,a8,a9,Lg,Lh,[]⟩ _ _,?_⟩;exact uF _ (bw kK trivial oS ⟨rfl,jd p k,trivial⟩ trivial)
theorem acj (p:ga)(k:Nat)(b:Bool)(own:List bD)(x:bD)(hn:own.length<=2^31)(hb:b=false->own=[]):YJ ZA p k [] [] b own false x:=by
 obtain⟨a1,a2,a3,a4,a5,a6,a7,a8,a9,Lg,Lh,a12⟩:=x;intro K' uF;refine⟨rfl,?_⟩;cases b with
 |false=>obtain rfl:=hb rfl;refine vw 61 2000 [(1,.ptr 1 0),(6,.ptr 6 0),(11,.ptr 2011 0),(20,.p (.sl (p.changes.map cC))),(21,.p (.int .i64 ((p.changes.map cC).length:Int))),(22,.p (.int .i64 k))] ((2011,aH (cA ⟨a1,a2,a3,a4,a5,a6,a7,a8,a9,Lg,Lh,a12⟩))::ry p false []) [(144,1000,[]),(61,0,ru p k)] [.busy] kK wS oS ⟨rfl,trivial,rfl,wS,trivial⟩ ?_;refine⟨mu _ _,(λzs h=>by rw[aS.1 h];rfl),(show 1*296<=140737488355328 by decide),bW [⟨a1,a2,a3,a4,a5,a6,a7,a8,a9,Lg,Lh,a12⟩],rfl,?_⟩;exact uF _ (bw kK trivial oS ⟨rfl,jd p k,trivial⟩ trivial)
 |true=>refine vw 61 2000 [(1,.ptr 1 0),(6,.ptr 6 0),(11,.ptr 2011 0),(20,.p (.sl (p.changes.map cC))),(21,.p (.int .i64 ((p.changes.map cC).length:Int))),(22,.p (.int .i64 k))] ((2011,aH (cA ⟨a1,a2,a3,a4,a5,a6,a7,a8,a9,Lg,Lh,a12⟩))::ry p true own) [(144,1000,[]),(61,0,ru p k)] [.busy] kK wS ⟨aC kK,aC kK,aC kK,tG 2011 kK,trivial⟩ ⟨rfl,trivial,rfl,wS,trivial⟩ ?_;refine⟨own.length,DZ own _,(λzs h=>by rw[aS.1 h];rfl),by show(own.length+1)*296<=_;omega,bW (own++[⟨a1,a2,a3,a4,a5,a6,a7,a8,a9,Lg,Lh,a12⟩]),HE own ⟨a1,a2,a3,a4,a5,a6,a7,a8,a9,Lg,Lh,a12⟩ _ _,?_⟩;exact uF _ (bw kK trivial oS ⟨rfl,jd p k,trivial⟩ trivial)
theorem yJ1 (p:ga)(k:Nat)(c:eG)(n:Nat)(ls:List Bytes)(j:Nat)(b:Bool)(own:List bD)(x:bD)(hn:own.length<=2^31)(hb:b=false->own=[])(hx:x.over=[]):YJ ZA p k (Mh c n ls j) [] b own true x:=by
 obtain⟨a1,a2,a3,a4,a5,a6,a7,a8,a9,Lg,Lh,a12⟩:=x;obtain rfl:a12=[]:=hx;intro K' uF;refine⟨rfl,?_⟩;cases b with
 |false=>obtain rfl:=hb rfl;refine vw 61 2000 [(1,.ptr 1 0),(6,.ptr 6 0),(11,.ptr 2011 0),(20,.p (.sl (p.changes.map cC))),(21,.p (.int .i64 ((p.changes.map cC).length:Int))),(22,.p (.int .i64 k))] ((2011,(aH (cA ⟨a1,a2,a3,a4,a5,a6,a7,a8,a9,Lg,Lh,[]⟩)).take 171++[.full []])::ry p false []) [(144,1000,Mh c n ls j),(61,0,ru p k)] [.busy] kK wS oS ⟨rfl,wS,rfl,wS,trivial⟩ ?_;refine⟨mu _ _,(λzs h=>by rw[aS.1 h];rfl),(show 1*296<=140737488355328 by decide),bW [⟨a1,a2,a3,a4,a5,a6,a7,a8,a9,Lg,Lh,[]⟩],rfl,?_⟩;exact uF _ (bw kK wS oS ⟨rfl,jd p k,trivial⟩ trivial)
 |true=>refine vw 61 2000 [(1,.ptr 1 0),(6,.ptr 6 0),(11,.ptr 2011 0),(20,.p (.sl (p.changes.map cC))),(21,.p (.int .i64 ((p.changes.map cC).length:Int))),(22,.p (.int .i64 k))] ((2011,(aH (cA ⟨a1,a2,a3,a4,a5,a6,a7,a8,a9,Lg,Lh,[]⟩)).take 171++[.full []])::ry p true own) [(144,1000,Mh c n ls j),(61,0,ru p k)] [.busy] kK wS ⟨aC kK,aC kK,aC kK,tG 2011 kK,trivial⟩ ⟨rfl,wS,rfl,wS,trivial⟩ ?_;refine⟨own.length,DZ own _,(λzs h=>by rw[aS.1 h];rfl),by show(own.length+1)*296<=_;omega,bW (own++[⟨a1,a2,a3,a4,a5,a6,a7,a8,a9,Lg,Lh,[]⟩]),HE own ⟨a1,a2,a3,a4,a5,a6,a7,a8,a9,Lg,Lh,[]⟩ _ _,?_⟩;exact uF _ (bw kK wS oS ⟨rfl,jd p k,trivial⟩ trivial)
theorem yJ2 (p:ga)(k:Nat)(c:eG)(n L j:Nat)(fr to:bg)(own:List bD)(x:bD)(hn:own.length<=2^31)(hx:x.over=[]):YJ ZA p k (RI c n L j) (ob5 fr to) true own true x:=by obtain⟨a1,a2,a3,a4,a5,a6,a7,a8,a9,Lg,Lh,a12⟩:=x;obtain rfl:a12=[]:=hx;intro K' uF;refine⟨rfl,?_⟩;refine vw 61 2000 [(1,.ptr 1 0),(6,.ptr 6 0),(11,.ptr 2011 0),(20,.p (.sl (p.changes.map cC))),(21,.p (.int .i64 ((p.changes.map cC).length:Int))),(22,.p (.int .i64 k))] ((2011,(aH (cA ⟨a1,a2,a3,a4,a5,a6,a7,a8,a9,Lg,Lh,[]⟩)).take 171++[.full []])::(ob5 fr to++ry p true own)) [(144,1000,RI c n L j),(61,0,ru p k)] [.busy] kK wS ⟨aC kK,aC kK,aC kK,aC kK,aC kK,tG 2011 kK,trivial⟩ ⟨rfl,wS,rfl,wS,trivial⟩ ?_;refine⟨own.length,DZ own _,(λzs h=>by rw[aS.1 h];rfl),by show(own.length+1)*296<=_;omega,bW (own++[⟨a1,a2,a3,a4,a5,a6,a7,a8,a9,Lg,Lh,[]⟩]),HE own ⟨a1,a2,a3,a4,a5,a6,a7,a8,a9,Lg,Lh,[]⟩ _ _,?_⟩;exact uF _ (bw kK wS oS ⟨rfl,jd p k,trivial⟩ trivial)
theorem RJ (p:ga)(c:eG)(k:Nat)(K:FV->ai->Prop)(b:Bool)(own:List bD)(hn:own.length<=2^30)(hb:b=false->own=[])(h:dc c=0)(hK:∀r,K r (PB p k true (own++fc c own.length))):jc CJ 6 ZA 217 [.ni 1000000,.p (.imp [.int .i64 (own.length:Int)]),.p (.imp (cC c))] K (PB p k b own):=by
 obtain⟨g1,g2,g3,g4,g5,-⟩:=gw h;have hn2:own.length<=2^31:=oO
 by_cases h1:c.kind=1;rw[abw c _ h1]at hK;exact ahr p c k ZA K b own h1 hn (alD p k b own _ hn2 hb rfl) hK;by_cases h2:c.kind=2;rw[aby c _ h2]at hK;exact ahs p c k ZA K b own h2 hn (acj p k b own _ hn2 hb) hK;by_cases h3:c.kind=3;rw[abA c _ h3]at hK;exact aht p c k ZA K b own h3 hn (acj p k b own _ hn2 hb) hK;by_cases h4:c.kind=4;rw[abC c _ h4]at hK;exact ahu p c k ZA K b own h4 hn (acj p k b own _ hn2 hb) hK;by_cases h6:c.kind=6;rw[abE c _ h6]at hK;exact ahv p c k ZA K b own h6 hn (acj p k b own _ hn2 hb) hK;by_cases h7:c.kind=7;rw[abG c _ h7]at hK;exact ahw p c k ZA K b own h7 hn (acj p k b own _ hn2 hb) hK;have h5:c.kind=5:=oO
 rw[abI c _ h5]at hK;exact ahx p c k ZA K b own h5 hn hb c.lines rfl (g3 h5).1 (RH h h5) (λj b yg x hl hb hx=>yJ1 p k c own.length c.lines j b yg x hl hb hx) (λj fr to Bf x hl hx=>yJ2 p k c own.length c.lines.length j fr to Bf x hl hx) hK
theorem Uo (p:ga)(hz:SS p)(ajt:(yf p).2=0->ak C 189 [.agg (cP p)] (λr=>r=.val (.eV [.str (eX (kE p)),.int .i64 0]))):ak C 148 [.agg (cP p)] (λr=>exR p (yf p) r):=by
 obtain⟨E,hEE⟩:∃E,yf p=E:=⟨_,rfl⟩;rw[hEE]at ajt⊢;have hEE:E=yf p:=hEE.symm;unfold yf at hEE;have bad:∀e:Int,e≠0->E=([],e)->exR p E (.val (.eV [.sl [],.str [],.int .i64 e])):=λe h h2=>by unfold exR;rw[h2,af h]
 refine lJ {vu with opens:=[45]} [2,16] Tryz.func148 rfl rfl rfl ?_;refine cl (ab2 p hz).dN ?_;refine⟨_,bM.refl _,?_⟩;refine cF (λh=>?_) (λh=>?_);rw[af h]at hEE;exact bad _ h hEE;have h:yK p=0:=h;rw[aa (λg=>g h)]at hEE;have jH:1<=p.changes.length/\p.changes.length<=400:=Yt h;have hze:=hz.each;have hcP:cP p=[.str p.eW,.str p.message,.int .i64 p.time,.sl (jo p.deps),.sl (yR p.changes)]:=rfl;refine bu 61 (λx:Nat×Bool×List bD=>[(1,.ptr 1 0),(6,.ptr 6 0),(20,.p (.sl (p.changes.map cC))),(21,.p (.int .i64 ((p.changes.map cC).length:Int))),(22,.p (.int .i64 x.1))]) (λx=>(1,aH (cP p))::ajp x.2.1 x.2.2) (λx=>x.1<=p.changes.length/\x.2.2.length<=4001*x.1/\(x.2.1=false->x.1=0/\x.2.2=[])/\E=Ag (p.changes.drop x.1) x.2.2) (λx=>p.changes.length-x.1) (0,false,[]) ⟨zL,zL,λ_=>⟨rfl,rfl⟩,hEE⟩ rfl wS oS ?_;rintro⟨k,b,own⟩ ⟨hk,hn,hb,hE⟩;have hk:k<=p.changes.length:=hk;have hn:own.length<=4001*k:=hn;have hE:E=Ag (p.changes.drop k) own:=hE;refine bQ (λhlt=>?_) (λhge=>?_);have hc:=hze _ (aK hlt);have iX:(p.changes.map cC)[((k:Nat):Int).toNat]?=some (cC p.changes[k]):=ct rfl hlt;rw[bL hlt,GF]at hE;generalize p.changes[k]=c at hc iX hE;cases b with
 |false=>
  obtain⟨hk0,ho0⟩:=hb rfl;have hk0:k=0:=hk0;obtain rfl:own=[]:=ho0;refine⟨oO,_,iX,rfl,?_⟩;refine cl (yL c hc).dN ?_;refine cF (λh=>?_) (λh=>?_);rw[af h]at hE;exact bad _ h hE;have h:dc c=0:=h;rw[aa (λg=>g h)]at hE;obtain⟨g1,g2,g3,g4,g5,-⟩:=gw h;obtain⟨o5,o6⟩:=qZ g5 g1 g2;have o1:c.kind=1\/c.kind=5->c.over=[]:=λq=>q.elim (λq=>Mg g5 q) o5;have o4:c.over.length<=400:=by by_cases q:c.kind=5;rw[o5 q];exact zL;exact g4 q
  refine cl (Bu c [] g1 g2 (zL) o4 o1).dN ?_;refine cF (λh2=>?_) (λh2=>?_);rw[af h2]at hE;exact bad _ h2 hE;have h2:yd c []=0:=h2;rw[aa (λg=>g h2)]at hE;have hE:E=Ag (p.changes.drop (k+1)) (fc c 0):=hE;refine cl (Jz c 0).dN ?_;have hml:=DN h ([]:List bD).length;refine kO (T:=PB p k false []) (bw kK wS oS trivial trivial) ?_;refine RJ p c k _ false [] (by show 0<=2^30;decide) (λ_=>rfl) h λr=>?_;exact nx (k+1) (aO (k+1,true,[]++fc c ([]:List bD).length) ⟨hlt,by show([]++fc c ([]:List bD).length).length<=4001*(k+1);rw[aq];simp only[br]at hml⊢;omega,(λh=>nomatch h),hE⟩ (by show p.changes.length-(k+1)<p.changes.length-k;omega) rfl wS oS)
 |true=>
  refine⟨oO,_,iX,rfl,?_⟩;refine cl (yL c hc).dN ?_;refine cF (λh=>?_) (λh=>?_);rw[af h]at hE;exact bad _ h hE;have h:dc c=0:=h;rw[aa (λg=>g h)]at hE;obtain⟨g1,g2,g3,g4,g5,-⟩:=gw h;obtain⟨o5,o6⟩:=qZ g5 g1 g2;have o1:c.kind=1\/c.kind=5->c.over=[]:=λq=>q.elim (λq=>Mg g5 q) o5;have o4:c.over.length<=400:=by by_cases q:c.kind=5;rw[o5 q];exact zL;exact g4 q
  refine .inr (.inl (.inr ⟨[.agg (cC c),.sl (eU own)],_,.cons (.plain rfl) (.cons (.fe rfl (.plain (by rw[qw];exact bk _)) (jW own)) .nil),(Bu c own g1 g2 oO o4 o1).dN,λr hr=>?_⟩));subst hr;refine⟨⟨_,rfl,rfl⟩,?_⟩;refine cF (λh2=>?_) (λh2=>?_);rw[af h2]at hE;exact bad _ h2 hE;have h2:yd c own=0:=h2;rw[aa (λg=>g h2)]at hE;refine⟨own.length,DZ own _,?_⟩;refine cl (Jz c own.length).dN ?_;have hml:=DN h (own:List bD).length;refine kO (T:=PB p k true own) (bw kK wS ⟨aC kK,aC kK,afi 1000000 8 kK,trivial⟩ trivial trivial) ?_;refine RJ p c k _ true own oO (λh=>nomatch h) h λr=>?_;exact nx (k+1) (aO (k+1,true,own++fc c (own:List bD).length) ⟨hlt,by show(own++fc c (own:List bD).length).length<=4001*(k+1);rw[aq];omega,(λh=>nomatch h),hE⟩ (by show p.changes.length-(k+1)<p.changes.length-k;omega) rfl wS oS)
 have hE0:E=(own,0):=by rw[hE,cU (show p.changes.length<=k by omega)];rfl
 obtain rfl:k=p.changes.length:=oO
 cases b with
 |false=>have :=(hb rfl).1;omega
 |true=>
  refine cl (ajt (by rw[hE0])).dN ?_;refine⟨none,?_⟩;refine cF (λh=>absurd rfl h) (λ_=>?_);refine az (λh=>?_) (λh=>?_);have h:¬(eX (kE p)).length<=65536:=by have :((eX (kE p)).length:Int)>65536:=h;omega
  show exR p E (.val (.eV [.sl [],.str [],.int .i64 4]));unfold exR;rw[hE0,aa (λg=>g rfl),aa h];have h:(eX (kE p)).length<=65536:=by have :¬((eX (kE p)).length:Int)>65536:=h;omega
  refine⟨eU own,jW own,bk _,?_⟩;show exR p E (.own (some [.str (eX (kE p)),.int .i64 0]) 48 172 (eU own));unfold exR;rw[hE0,aa (λg=>g rfl),af h]
theorem Ut (c:eG)(f:Nat):(od c f).id=dr f:=by
 unfold od;repeat' split
 all_goals rfl
theorem Yx (c:eG)(f:Nat):∀(i:Nat)(h:i<(fc c f).length),(fc c f)[i].id=dr ((f+i:Nat):Int):=by
 intro i h;unfold fc at h⊢;by_cases h5:c.kind=5;simp only[af h5]at h⊢;by_cases hi:i<c.lines.length;rw[yh (by simpa using hi)];simp[sk];rw[Ec (by simpa using hi)];simp only[aj,tf,xT,List.getElem_range,nD,dr];congr 2;omega;simp only[aa h5]at h⊢;obtain rfl:i=0:=by simpa using h
 exact Ut c f
theorem RR {own:List bD}(h:OG own)(c:eG):OG (own++fc c own.length):=by intro n hn;by_cases hl:n<own.length;rw[yh hl];exact h n hl;rw[Ec oO,Yx];show(⟨bF,_⟩:bg)=_;congr 2;omega
theorem Ml:∀(l:List eG)(own:List bD),(ic l own).2=0->∃t,(ic l own).1=own++t|[],own,_=>⟨[],(aY _).symm⟩|c::l,own,h=>by rw[jM]at h⊢;by_cases h1:dc c≠0;rw[af h1]at h;exact absurd h h1;rw[aa h1]at h⊢;by_cases h2:mY c own≠0;rw[af h2]at h;exact absurd h h2;rw[aa h2]at h⊢;obtain⟨t,ht⟩:=Ml l _ h;exact⟨fc c own.length++t,by rw[ht,bf]⟩
theorem Mm:∀(l:List eG)(own:List bD),OG own->(ic l own).2=0->(ic l own).1.length<=100000->Ag l own=ic l own
 |[],own,_,_,_=>rfl
 |c::l,own,hn,h,hl=>by
  obtain⟨t,ht⟩:=Ml _ _ h;have hlen:own.length<=100000:=by rw[ht,aq]at hl;omega
  rw[GF,Ys c own hlen hn];rw[jM]at h hl⊢;by_cases h1:dc c≠0;rw[af h1]at h;exact absurd h h1;rw[aa h1]at h hl;rw[aa h1,aa h1];by_cases h2:mY c own≠0;rw[af h2]at h;exact absurd h h2;rw[aa h2]at h hl;rw[aa h2,aa h2];exact Mm l _ (RR hn c) h hl
structure KD (p:ga):Prop where
 fit:DQ p
 ok:(oB p).2=0
 OK:(dw p).1.length<=100000
theorem KD.ZU {p:ga}(h:KD p):(dw p).2=0:=by have :=h.ok;unfold oB at this;by_cases g:(dw p).2≠0;rw[af g]at this;exact absurd this g;exact fE.1 g
theorem KD.Yy {p:ga}(h:KD p):Ub p:=va h.ZU
theorem KD.len {p:ga}(h:KD p):(eX (kE p)).length<=65536:=by have :=h.ok;unfold oB at this;rw[aa (λg=>g h.ZU)]at this;by_cases g:(eX (kE p)).length<=65536;exact g;rw[aa g]at this;exact absurd this dD
theorem KD.alN {p:ga}(h:KD p):yf p=dw p:=by have hc:=h.ZU;have hf:=h.OK;rw[Um]at hc hf⊢;unfold yf;by_cases g:yK p≠0;rw[af g]at hc;exact absurd hc g;rw[aa g]at hc hf;rw[aa g,aa g];exact Mm _ _ (λn hn=>absurd hn (ia _)) hc hf
theorem Yz {p:ga}(h:Ub p):∀d,d∈p.deps->d≠bF:=by
 intro d hd e;have hde:=h.deps;unfold mZ at hde;by_cases g:100<p.deps.length;rw[af g]at hde;exact absurd hde dD;rw[aa g]at hde;obtain⟨i,hi,rfl⟩:=gz hd;have key:∀{l:List Int},eo l=0->∀e,e∈l->e=0:=by
  intro l;induction l with
  |nil=>intro _ e h;cases h
  |cons a l ih=>intro h e he;by_cases h0:a=0;rw[eZ h0]at h;rcases aQ.1 he with rfl|he;exact h0;exact ih h e he;rw[eu h0]at h;exact absurd h h0
 have :=key hde (zY p.deps i) (aI.2 ⟨i,iR.2 hi,rfl⟩);rw[Om hi,af e]at this;exact absurd this dD
theorem afu {p:ga}(h:KD p):ak C 189 [.agg (cP p)] (λr=>r=.val (.eV [.str (eX (kE p)),.int .i64 0])):=by have ho:=h.Yy;refine Us p (h.fit.enc ho) (by have :=Ab ho;omega) (Yz ho) (by have :=ho.changes;omega) λc hc=>?_;obtain⟨g1,g2,g3,g4,g5,-⟩:=gw (ho.each c hc);obtain⟨k1,k2⟩:=qZ g5 g1 g2;refine⟨g1,g2,?_,?_⟩;by_cases h5:c.kind=5;have :=(g3 h5).1;omega;rw[k2 h5];exact zL;by_cases h5:c.kind=5;rw[k1 h5];exact zL;have :=g4 h5;omega
theorem Aj {p:ga}(h:KD p):ak C 148 [.agg (cP p)] (λr=>r=.own (some [.str (eX (kE p)),.int .i64 0]) 48 172 (eU (dw p).1)):=by have hx:=Uo p h.fit.sz λ_=>afu h;rw[h.alN]at hx;refine ak.mono hx λr hr=>?_;unfold exR at hr;rw[aa (λg=>g h.ZU),af h.len]at hr;exact hr
theorem Uu {p:ga}(h:(oB p).2=0):oe p=(Ri (eX (kE p)),0):=by unfold oe;rw[aa (λg=>g h),(On h).2]
theorem OL {p:ga}(h:KD p):ak C 190 [.agg (cP p)] (λr=>r=.val (.eV [.str (eX (kE p)),.int .i64 0])):=by refine bn vu [] Tryz.func190 rfl rfl rfl ?_;refine cl (Aj h).dN ?_;exact⟨_,rfl,rfl⟩
theorem RS {p:ga}(h:KD p):ak C 280 [.agg (cP p)] (λr=>r=.val (.int .i64 0)):=by refine bn vu [] Tryz.func280 rfl rfl rfl ?_;refine cl (Aj h).dN ?_;exact⟨_,rfl,rfl⟩
theorem acp {p:ga}(h:KD p):ak C 149 [.agg (cP p)] (λr=>r=.val (idR (oe p))):=by rw[Uu h.ok];refine ag Tryz.func149 rfl rfl rfl ?_;refine cl (OL h) ?_;refine cF (λg=>absurd rfl g) (λ_=>?_);refine cl (aev (eX (kE p)) (by have :=h.len;omega)) ?_;exact rfl
end Qv
