/- Part 15 of the proof: its lemmas. No condition. -/
import Derived.Test.YtiboombocnfngaaGreatDoorZ2
import Derived.Test.YtiboombocnfngaaGreatDoorZ8
set_option maxRecDepth 10000
set_option maxHeartbeats 80000000
set_option linter.all false
open Go Go.Proofs Go.RowKit
namespace Qv
def iH (s:List fk)(x:bB):bO×Bool:=if x.n<0\/((wB (uW s x.p).1).1.length:Int)<=x.n then(de,false)else((wB (uW s x.p).1).1.getD x.n.toNat de,true)
def SJ (s:List fk)(x file:bB)(d:Dg):Int:=if x.p=bg\/x=file then 0 else if(iH s x).2=false then 7 else if gH (bz file d) (iH s x).1=false then 8 else 0
def ovE (s:List fk)(c:dH)(d:Dg)(x:bB):Int:=if x.p=bg then 0 else if(iH s x).2=false then 7 else if gj c.kind (bz c.file d) (iH s x).1=false then 8 else 0
def ZZ (s:List fk)(c:dH)(d:Dg):Int:=bk ((if c.file.p=bg then 0 else if(iH s c.file).2=false then 7 else if bH c.kind (iH s c.file).1=false then 8 else 0)::(if c.parent.p=bg then 0 else if(iH s c.parent).2=false then 7 else if lJ (iH s c.parent).1=false then 8 else 0)::SJ s c.eH c.file d::SJ s c.eY c.file d::(c.over.map (ovE s c d)++[]))
def pJ (s:List fk)(p:iA)(d:Dg):Int:=bk (p.changes.map (λc=>ZZ s c d)++[])
def mQ:List fk->fk->List fk|[],x=>[x]|y::l,x=>if dA y.id x.id<0 then y::mQ l x else x::y::l
theorem PW:∀(a b:List fk)(x:fk),(∀y,y∈a->dA y.id x.id<0)->mQ (a++b) x=a++mQ b x|[],b,x,_=>rfl|y::a,b,x,h=>by rw[cr,mQ,af (h y (by simp)),PW a b x λz hz=>h z (by simp[hz])];rfl
theorem ac4 {l:List fk}:∀zs,zs∈l.map mP->zs.length=37:=by intro zs h;obtain⟨x,-,rfl⟩:=aB.1 h;rfl
theorem Iy (p:iA):(bU p).length<=2^20:=by unfold bU;by_cases h:(sA p).2≠0;rw[af h];exact zL;rw[aa h];have ho:=(UR (by simpa using h)).1;have h1:=yK (p.changes.flatMap refsOf) (p.deps.foldl yH []);have h2:=yJ p.deps [];have h3:=PV ho p.changes.length (av _);rw[aP]at h3;have h4:=Dc ho;have h5:=ho.changes.2;simp only[bA]at h2;omega
def Kf (s:List fk)(p:iA):List fk×Dg×Int:=if(mA p).2≠0 then([],bg,(mA p).2)else if(uW s (mA p).1).2=true then(if p=(uW s (mA p).1).1 then([],bg,6)else([],bg,14))else if oM (gO s) (bU p)=false then([],bg,19)else if pJ s p (mA p).1≠0 then([],bg,pJ s p (mA p).1)else if 400<=s.length then([],bg,4)else(mQ s ⟨(mA p).1,p⟩,(mA p).1,0)
def afY (out:List Dg)(x:fk):Option fk->Bool|none=>!decide (x.id∈out)&&oM out (bU x.pat)|some y=>!decide (x.id∈out)&&(oM out (bU x.pat)&&decide (dA x.id y.id<0))
def Iz (out:List Dg):List fk->Option fk->Option fk|[],b=>b|x::l,b=>if afY out x b=true then Iz out l (some x)else Iz out l b
def qM (s:List fk):Nat->List Dg->List Dg|0,out=>out|n+1,out=>match Iz out s none with|none=>out|some x=>qM s n (out++[x.id])
def rG (s:List fk):List Dg:=qM s s.length []
def uw:fk:=⟨bg,US⟩
def aaa (s:List fk)(i:Nat):Int:=if(mA (s.getD i uw).pat).2≠0 then(mA (s.getD i uw).pat).2 else if(mA (s.getD i uw).pat).1≠(s.getD i uw).id then 13 else if 0<i/\0<=dA (s.getD (i-1) uw).id (mA (s.getD i uw).pat).1 then 9 else 0
def aab (s:List fk):Int:=if 400<s.length then 4 else if bk ((List.range s.length).map (aaa s))≠0 then bk ((List.range s.length).map (aaa s))else if s.all (λx=>oM (gO s) (bU x.pat))=false then 19 else if(rG s).length<s.length then 20 else bk (s.map (λx=>pJ s x.pat x.id)++[])
theorem Bm {d:Nat}:∀{l:List Sx},(∀x,x∈l->dX x<=d)->WE l<=d|[],_=>zL|y::l,h=>by have h1:=h y (by simp);have h2:=Bm (l:=l) λx hx=>h x (cg _ hx);show max (dX y) (WE l)<=d;omega
theorem Bn {d:Nat}:∀{l:List Sx},(∀x,x∈l->aX x<=d)->aXs l<=d|[],_=>zL|y::l,h=>by have h1:=h y (by simp);have h2:=Bn (l:=l) λx hx=>h x (cg _ hx);show max (aX y) (aXs l)<=d;omega
theorem Nl (a b:List Sx):uS (a++b)=uS a+uS b:=by rw[uj,uj,uj,aF,wA]
theorem afZ {m:Nat}(hm:m<=2^40)(x:Sx):aX x<=m->(eX x).length<=nX x*(m+24):=by
 induction x using Sx.ind with
 |h1 s=>intro h;have h:s.length<=m:=h;have l1:=Lib.itoa_length_le (s.length:Int) oO oO;show(Lib.itoa (s.length:Int)++[58]++s).length<=1*(m+24);simp only[ay,aS,bA];omega
 |h2 l ih=>
  intro h;have h:aXs l<=m:=h;have hs:∀l':List Sx,(∀x,x∈l'->(eX x).length<=nX x*(m+24))->(Lb l').length<=uS l'*(m+24):=by
   intro l';induction l' with
   |nil=>intro _;exact zL
   |cons y l' ih2=>intro g;have g1:=g y (by simp);have g2:=ih2 λx hx=>g x (by simp[hx]);show(eX y++Lb l').length<=(nX y+uS l')*(m+24);rw[ay,bC];omega
  have g:=hs l λx hx=>ih x hx (by have :=Nf hx;omega);show([40]++Lb l++[41]).length<=(1+uS l)*(m+24);rw[bC];simp only[ay,aS,bA];omega
theorem PX (n:Int):(WH n).length<=40:=by unfold WH;split;have :=Lib.itoa_length_le n oO oO;omega;exact zL
theorem UT (d:Dg):(dgB d).length<=40:=by unfold dgB;split;exact zL;rw[d.2];decide
theorem Nn (n:Int):dX (iB n)<=3/\aX (iB n)<=65536:=⟨by show 1<=3;decide,by have :=PX n;show(WH n).length<=_;omega⟩
theorem aac (x:bB):aX (fH x)<=65536:=by have h1:=PX x.n;have h2:=UT x.p;show max (dgB x.p).length (max (WH x.n).length 0)<=_;omega
theorem No (x:bB):dX (fH x)<=3/\aX (fH x)<=65536:=⟨by show 1+max 1 (max 1 0)<=3;decide,aac x⟩
theorem aad (s:Bytes)(h:s.length<=65536):dX (.atom s)<=3/\aX (.atom s)<=65536:=⟨by show 1<=3;decide,h⟩
theorem ahX (l:List bB):dX (AE l)<=3/\aX (AE l)<=65536:=by
 constructor;show 1+WE (l.map fH)<=3;have :=Bm (d:=2) (l:=l.map fH) λx hx=>by obtain⟨y,-,rfl⟩:=aB.1 hx;show 1+max 1 (max 1 0)<=2;decide
 omega;exact Bn (l:=l.map fH) λx hx=>by obtain⟨y,-,rfl⟩:=aB.1 hx;exact aac y
theorem ahY (l:List Bytes)(h:l.all qZ=true):dX (Yg l)<=3/\aX (Yg l)<=65536:=by
 constructor;show 1+WE (l.map Sx.atom)<=3;have :=Bm (d:=1) (l:=l.map Sx.atom) λx hx=>by obtain⟨y,-,rfl⟩:=aB.1 hx;exact av 1
 omega;exact Bn (l:=l.map Sx.atom) λx hx=>by obtain⟨y,hy,rfl⟩:=aB.1 hx;have :=br.1 h y hy;simp only[qZ,aR,decide_eq_true_eq]at this;show y.length<=_;omega
theorem ahZ (l:List bB):nX (AE l)=1+3*l.length:=by
 show 1+uS (l.map fH)=_;have :uS (l.map fH)=3*l.length:=by
  induction l with
  |nil=>rfl
  |cons y l ih=>show nX (fH y)+uS (l.map fH)=_;rw[ih,aS];show 3+3*l.length=_;omega
 rw[this]
theorem ah0 (l:List Bytes):nX (Yg l)=1+l.length:=by
 show 1+uS (l.map Sx.atom)=_;have :uS (l.map Sx.atom)=l.length:=by
  induction l with
  |nil=>rfl
  |cons y l ih=>show 1+uS (l.map Sx.atom)=_;rw[ih,aS];omega
 rw[this]
theorem Np {c:dH}(h:cF c=0)(hk:c.kind=2):iq c.name=true:=by
 cases hn:iq c.name with
 |true=>rfl
 |false=>unfold cF at h;rw[aa (show¬(c.kind<1\/7<c.kind)by omega)]at h;by_cases h2:bN (fI c)=false;rw[af h2]at h;exact absurd h dD;rw[aa h2,aa (show¬(c.kind=1/\(c.type<1\/4<c.type))by omega),af ⟨hk,hn⟩]at h;exact absurd h dD
theorem Ld {s:Bytes}(h:iq s=true):s.length<=40:=by simp only[iq,aR,decide_eq_true_eq]at h;exact h.1.2
theorem aae {c:dH}(h:cF c=0):∀x,x∈qa c->dX x<=3/\aX x<=65536:=by obtain⟨g1,g2,g3,-,-,g6⟩:=fZ h;intro x hx;unfold qa at hx;rcases bf.1 hx with hx|hx;obtain rfl:=aL.1 hx;exact Nn _;rcases bf.1 hx with hx|hx;by_cases e1:c.kind=1;rw[af e1]at hx;cases hx;rw[aa e1]at hx;by_cases e7:c.kind=7;rw[af e7]at hx;cases hx;rw[aa e7]at hx;obtain rfl:=aL.1 hx;exact No _;rcases bf.1 hx with hx|hx;by_cases e1:c.kind=1;rw[af e1]at hx;obtain rfl:=aL.1 hx;exact Nn _;rw[aa e1]at hx;by_cases e2:c.kind=2;rw[af e2]at hx;have hn:=Ld (Np h e2);simp only[aC,gy,or_false]at hx;rcases hx with rfl|rfl;exact No _;exact aad _ oO;rw[aa e2]at hx;by_cases e3:c.kind=3;rw[af e3]at hx;obtain rfl:=aL.1 hx;exact Nn _;rw[aa e3]at hx;by_cases e4:c.kind=4;rw[af e4]at hx;obtain rfl:=aL.1 hx;exact aad _ g6;rw[aa e4]at hx;by_cases e5:c.kind=5\/c.kind=6;rw[af e5]at hx;simp only[aC,gy,or_false]at hx;rcases hx with rfl|rfl;exact No _;exact No _;rw[aa e5]at hx;cases hx;by_cases e5:c.kind=5;rw[af e5]at hx;obtain rfl:=aL.1 hx;exact ahY _ (g3 e5).2;rw[aa e5]at hx;by_cases e1:c.kind=1;rw[af e1]at hx;cases hx;rw[aa e1]at hx;obtain rfl:=aL.1 hx;exact ahX _
def chN (c:dH):Nat:=12+c.lines.length+3*c.over.length
theorem af0 (c:dH):nX (sx c)<=chN c:=by
 show 1+uS (qa c)<=_;unfold qa chN;rw[Nl,Nl,Nl];have a1:uS [iB c.kind]=1:=rfl;have a2:uS (if c.kind=1 then[]else if c.kind=7 then[]else[fH c.file])<=3:=by split;exact zL;split;exact zL;exact av 3
 have a3:uS (if c.kind=1 then[iB c.type]else if c.kind=2 then[fH c.parent,.atom c.name]else if c.kind=3 then[iB c.mode]else if c.kind=4 then[.atom c.data]else if c.kind=5\/c.kind=6 then[fH c.eH,fH c.eY]else[])<=6:=by
  repeat' split
  all_goals first|exact zL|exact av 6|(show 1<=6;decide)|(show 4<=6;decide)
 have a4:uS (if c.kind=5 then[Yg c.lines]else if c.kind=1 then[]else[AE c.over])<=1+c.lines.length+3*c.over.length:=by split;show nX (Yg c.lines)+0<=_;rw[ah0];omega;split;exact zL;show nX (AE c.over)+0<=_;rw[ahZ];omega
 omega
def BdP (p:iA):Prop:=(p.changes.map chN).sum<=19000
theorem af1 {p:iA}(hb:BdP p)(h:OkP p):OkX (pI p):=by
 have hd:=Dc h;have hname:=Ld h.name;have anE:=h.message;have ha:aX (pI p)<=65536:=by
  refine Bn λx hx=>?_;simp only[aC,gy,or_false]at hx;rcases hx with rfl|rfl|rfl|rfl|rfl|rfl;show q1B.length<=_;decide;show p.ja.length<=_;omega;show p.message.length<=_;omega;exact(Nn _).2;exact Bn λx hx=>by obtain⟨y,-,rfl⟩:=aB.1 hx;have :=UT y;show(dgB y).length<=_;omega
  exact Bn λx hx=>by obtain⟨c,hc,rfl⟩:=aB.1 hx;exact Bn λy hy=>(aae (h.each c hc) y hy).2
 have hn:nX (pI p)<=20000:=by
  have e1:uS (p.deps.map ri)=p.deps.length:=by
   generalize p.deps=l;induction l with
   |nil=>rfl
   |cons y l ih=>show 1+uS (l.map ri)=_;rw[ih,aS];omega
  have e2:uS (p.changes.map sx)<=(p.changes.map chN).sum:=by
   generalize p.changes=l;induction l with
   |nil=>exact av _
   |cons y l ih=>have :=af0 y;show nX (sx y)+uS (l.map sx)<=chN y+(l.map chN).sum;omega
  show 1+(1+(1+(1+(1+((1+uS (p.deps.map ri))+((1+uS (p.changes.map sx))+0))))))<=_;unfold BdP at hb;omega
 refine⟨hn,?_,ha,?_⟩;show 1+WE _<=12;have :=Bm (d:=11) (l:=[.atom q1B,.atom p.ja,.atom p.message,iB p.time,.list (p.deps.map ri),.list (p.changes.map sx)]) λx hx=>by
  simp only[aC,gy,or_false]at hx;rcases hx with rfl|rfl|rfl|rfl|rfl|rfl;show 1<=11;decide;show 1<=11;decide;show 1<=11;decide;show 1<=11;decide;show 1+WE (p.deps.map ri)<=11;have :=Bm (d:=1) (l:=p.deps.map ri) λx hx=>by obtain⟨y,-,rfl⟩:=aB.1 hx;exact av 1
  omega;show 1+WE (p.changes.map sx)<=11;have :=Bm (d:=4) (l:=p.changes.map sx) λx hx=>by obtain⟨c,hc,rfl⟩:=aB.1 hx;show 1+WE (qa c)<=4;have :=Bm (d:=3) (l:=qa c) λy hy=>(aae (h.each c hc) y hy).1;omega
  omega
 omega;have :=afZ (m:=65536) dD (pI p) ha;have h2:nX (pI p)*(65536+24)<=20000*(65536+24):=ew _ hn;omega
theorem aaf {p:iA}(h:Nd p=false):BdP p:=by
 unfold Nd at h;simp only[nA,decide_eq_false_iff_not]at h;obtain⟨⟨⟨h1,-⟩,-⟩,h4⟩:=h;have :=PM chN 172 p.changes λc hc=>by
  have hb:ac2 c=false:=by
   cases hq:ac2 c with
   |false=>rfl
   |true=>rw[fC.2 ⟨c,hc,hq⟩]at h1;exact absurd h1 dD
  unfold ac2 ZP at hb;simp only[nA,decide_eq_false_iff_not]at hb;obtain⟨⟨g1,-⟩,g2⟩:=hb;unfold chN;omega
 have h2:p.changes.length*172<=20*172:=ew _ oO;unfold BdP;omega
theorem UU {p:iA}(hz:SzP p)(hb:BdP p):WI p:=⟨hz,af1 hb⟩
theorem SK (d:Dg)(a:bO):(iT d a).over=UQ d a.over:=by unfold iT ZW;show UQ d (Nk d (Nj d (st2 d (st1 d a)))).over=_;rw[PS,PR,PO];rfl
def PY (out:List bO)(a:bO):Bool:=out.any λb=>decide (b.kind=7)&&decide (a.id∈b.over)
def qy (a:bO)(out:List bO):List bO:=if PY out a=true then out else a::out
def oc (l:List bO):List bO:=l.foldr qy []
theorem SL {l:List bO}{k:Nat}(h:k<l.length):oc (l.drop k)=qy l[k] (oc (l.drop (k+1))):=by rw[bM h];rfl
theorem EB:∀l:List bO,(oc l).length<=l.length|[]=>av _|a::l=>by have :=EB l;show(qy a (oc l)).length<=_;unfold qy;split;simp only[aS];omega;simp only[aS];omega
theorem zK {x:bO}:∀{l:List bO},x∈oc l->x∈l
 |[],h=>by cases h
 |a::l,h=>by have h:x∈qy a (oc l):=h;unfold qy at h;split at h;exact cg _ (zK h);rcases aC.1 h with rfl|h;simp;exact cg _ (zK h)
theorem FG (s:List fk):∀(n:Nat)(out:List Dg),(qM s n out).length<=out.length+n|0,out=>av _|n+1,out=>by unfold qM;split;omega;rename_i x _;have :=FG s n (out++[x.id]);rw[ay]at this;simp only[aS,bA]at this;omega
theorem SM (s:List fk):(rG s).length<=s.length:=by have :=FG s s.length [];simpa[rG]using this
theorem fG (x:bB):au C 113 [.agg (cI x)] (λr=>r=.val (.bool (decide (x.p=bg)))):=by exact aq Tryz.func113 rfl rfl rfl ⟨vp,cR,uf,rfl,rfl,CR (a:=x.p) (b:=bg) rfl⟩
theorem IA (l:List Sx):au C 296 [.sl (uv l)] (λr=>r=.val (.agg (cX (.list l)))):=by exact aq Tryz.func296 rfl rfl rfl rfl
theorem pK (s:Bytes):au C 297 [.str s] (λr=>r=.val (.agg (cX (.atom s)))):=by exact aq Tryz.func297 rfl rfl rfl rfl
abbrev qz:Extra:={opens:=[],Mg:=[],full:=false}
theorem Nq (w:World)(k:Nat)(os:Array Obj):RowKit.Below w.heap.size w (Sort.grow (w.drewN k) os):=⟨rfl,rfl,rfl,by simp[Sort.grow],λi hi=>by show(w.heap++os)[i]?=w.heap[i]?;rw[rW hi]⟩
theorem PZ (n:Int)(h0:-9223372036854775808<=n)(h1:n<=9223372036854775807):au C 347 [.int .i64 n] (λr=>r=.val (.str (Lib.itoa n))):=by
 refine⟨⟨_,Tryz.func347,rfl,rfl⟩,λbh w vs hJ hn hi hl hr=>?_⟩;match vs,hl with
  |[v0],_=>
   have h:=hr 0 v0 _ rfl rfl;obtain rfl:v0=.int .i64 n:=by cases h;rfl
   refine(Tryz.strconv_Itoa n h0 h1 w hJ.1).mono ?_;rintro e w' ⟨rfl,k,os,rfl⟩;exact⟨_,_,rfl,rfl,.str _,Nq w k os⟩
theorem zM (n:Int):au C 299 [.int .i64 n] (λr=>r=.val (.agg (cX (iB n)))):=by
 have key:au C 336 [.int .i64 n] (λr=>r=.val (.eS [.agg (cX (iB n)),.int .i64 (if-1099511627776<=n/\n<=1099511627776 then 0 else 2)])):=by refine aq Tryz.func336 rfl rfl rfl ⟨none,?_⟩;unfold iB WH;refine aQ (λh=>?_) (λh=>aQ (λh2=>?_) (λh2=>?_));have h:n< -1099511627776:=h;rw[aa (show¬(-1099511627776<=n/\n<=1099511627776)by omega),aa (show¬(-1099511627776<=n/\n<=1099511627776)by omega)];exact rfl;have h2:n>1099511627776:=h2;rw[aa (show¬(-1099511627776<=n/\n<=1099511627776)by omega),aa (show¬(-1099511627776<=n/\n<=1099511627776)by omega)];exact rfl;have h:¬n< -1099511627776:=h;have h2:¬n>1099511627776:=h2;rw[af (show-1099511627776<=n/\n<=1099511627776 by omega),af (show-1099511627776<=n/\n<=1099511627776 by omega)];exact cl (PZ n oO oO) rfl
 exact aq Tryz.func299 rfl rfl rfl (cl key rfl)
theorem ac5 (x:bO):au C 181 [.agg (cA x)] (λr=>r=.val (.bool (decide (x.kind=1)))):=by refine aq Tryz.func181 rfl rfl rfl (aH (λh=>?_) (λh=>?_));show fN.val (.bool true)=_;rw[ai (show x.kind=1 from h)];show fN.val (.bool false)=_;rw[ah (show¬x.kind=1 from h)]
theorem ac6 (x:bO):au C 182 [.agg (cA x)] (λr=>r=.val (.bool (decide (x.kind=1)&&(decide (x.type=2)||decide (x.type=3))))):=by refine aq Tryz.func182 rfl rfl rfl ⟨none,aH (λh=>aH (λh2=>?_) (λh2=>aH (λh3=>?_) (λh3=>?_))) (λh=>?_)⟩;show fN.val (.bool true)=_;rw[ai (show x.kind=1 from h),ai (show x.type=2 from h2)];rfl;show fN.val (.bool true)=_;rw[ai (show x.kind=1 from h),ah (show¬x.type=2 from h2),ai (show x.type=3 from h3)];rfl;show fN.val (.bool false)=_;rw[ai (show x.kind=1 from h),ah (show¬x.type=2 from h2),ah (show¬x.type=3 from h3)];rfl;show fN.val (.bool false)=_;rw[ah (show¬x.kind=1 from h)];rfl
theorem ac7 (x:bO):au C 183 [.agg (cA x)] (λr=>r=.val (.bool (decide (x.kind=1)&&decide (x.type=1)))):=by refine aq Tryz.func183 rfl rfl rfl ⟨none,aH (λh=>aH (λh2=>?_) (λh2=>?_)) (λh=>?_)⟩;show fN.val (.bool true)=_;rw[ai (show x.kind=1 from h),ai (show x.type=1 from h2)];rfl;show fN.val (.bool false)=_;rw[ai (show x.kind=1 from h),ah (show¬x.type=1 from h2)];rfl;show fN.val (.bool false)=_;rw[ah (show¬x.kind=1 from h)];rfl
theorem ac8 (x:bO):au C 184 [.agg (cA x)] (λr=>r=.val (.bool (decide (x.kind=1)&&decide (x.type=4)))):=by refine aq Tryz.func184 rfl rfl rfl ⟨none,aH (λh=>aH (λh2=>?_) (λh2=>?_)) (λh=>?_)⟩;show fN.val (.bool true)=_;rw[ai (show x.kind=1 from h),ai (show x.type=4 from h2)];rfl;show fN.val (.bool false)=_;rw[ai (show x.kind=1 from h),ah (show¬x.type=4 from h2)];rfl;show fN.val (.bool false)=_;rw[ah (show¬x.kind=1 from h)];rfl
theorem ac9 (x:bO)(c:dH):au C 185 [.agg (cA x),.imp (cC c)] (λr=>r=.val (.bool (decide (x.id=c.file)||(decide (x.kind=5)&&decide (x.file=c.file))))):=by refine aq Tryz.func185 rfl rfl rfl ⟨none,pZ (jH (a:=x.id) (b:=c.file) ?_)⟩;by_cases h:x.id=c.file;rw[ai h];exact rfl;rw[ah h];refine aH (λh2=>?_) (λh2=>?_);refine pZ (jH (a:=x.file) (b:=c.file) ?_);show fN.val _=_;rw[ai (show x.kind=5 from h2)];rfl;show fN.val (.bool false)=_;rw[ah (show¬x.kind=5 from h2)];rfl
theorem aar (k:Int)(hk:k=2\/k=3\/k=4\/k=6):au C 187 [.int .i64 k] (λr=>r=.val (.int .i64 k)):=by
 have uX:dZ Tryz.prog 40 3=some [.int .i64]:=kK
 have jN:∀{L:List gC}{l:List (AV×FV)},(l.all λp=>ij false L p.1)=true->∀p,p∈l->ij false L p.1=true:=λh p hp=>br.1 h p hp;refine aq Tryz.func187 rfl rfl rfl ⟨[.int .i64],uX,rfl,(λp hp=>nomatch hp),_,rfl,[.int .i64],uX,rfl,jN rfl,_,rfl,[.int .i64],uX,rfl,jN rfl,_,rfl,[.int .i64],uX,rfl,jN rfl,_,rfl,?_⟩;rcases hk with rfl|rfl|rfl|rfl;all_goals exact⟨[.int .i64],uX,rfl,jN rfl,_,rfl,rfl⟩
theorem ada (x:bO)(c:dH)(hk:c.kind=2\/c.kind=3\/c.kind=4\/c.kind=6\/c.kind=7):au C 186 [.agg (cA x),.imp (cC c)] (λr=>r=.val (.bool (gj c.kind c.file x))):=by
 refine aq Tryz.func186 rfl rfl rfl (cw 19 kK (aH (λh=>?_) (λh=>?_)));have h:c.kind=7:=h;show fN.val (.bool true)=_;simp[gj,Ir,h];have h:c.kind≠7:=h;refine⟨_,aar c.kind oO,?_⟩;have hw:Ir c.kind=c.kind:=aa h;have h0:¬c.kind=0:=oO
 refine aH (λh2=>?_) (λh2=>?_);have h2:x.kind=c.kind:=h2;refine pZ (jH (a:=x.file) (b:=c.file) ?_);show fN.val _=_;rw[gj,hw,ah h0,ai h2];rfl;have h2:¬x.kind=c.kind:=h2;show fN.val (.bool false)=_;rw[gj,hw,ah h0,ah h2];rfl
theorem IB (s:Bytes)(hs:s.length<=2^50):au C 294 [.str s] (λr=>r=.val (.bool (iq s))):=by
 refine aq Tryz.func294 rfl rfl rfl (bW 63 (λk:Nat=>[(0,.p (.str s)),(6,.p (.int .i64 (s.length:Int))),(7,.p (.int .i64 k))]) (λ_=>[]) (λk=>k<=s.length/\∀i c,i<k->s[i]?=some c->nZ c.toNat) (λk=>s.length-k) 0 ⟨zL,λi c h=>absurd h (kC _)⟩ rfl wS trivial ?_);rintro k ⟨hk,hall⟩;have hw:IntKind.i64.wrap ((k:Int)+1)=((k+1:Nat):Int):=by rw[wrap64 oO oO];omega
 refine aQ (λhlt=>?_) (λhge=>?_)
 ·have hlt:k<s.length:=by have :(k:Int)<(s.length:Int):=hlt;omega
  obtain⟨c,hc⟩:∃c,s[k]?=some c:=⟨_,an hlt⟩;refine⟨oO,c,GC rfl hc,?_⟩;have bad:¬nZ c.toNat->iq s=false:=λh=>jB (.inr (.inr (.inr (.inr ⟨c,bP hc,h⟩))));have good:nZ c.toNat->k+1<=s.length/\∀i d,i<k+1->s[i]?=some d->nZ d.toNat:=λh=>⟨hlt,λi d hi hd=>by by_cases hik:i=k;subst hik;rw[hc]at hd;obtain rfl:=ak hd;exact h;exact hall i d oO hd⟩;refine⟨none,?_⟩;have ZN:¬nZ c.toNat->fN.val (.bool false)=fN.val (.bool (iq s)):=λh=>by rw[bad h]
  repeat' (first|refine aQ (λh=>?_) (λh=>?_)|refine eD (λh=>?_) (λh=>?_)|refine bR ?_)
  all_goals first|exact ZN (by unfold nZ;omega)|exact⟨_,hw,aU (k+1) (good (by unfold nZ;omega)) oO rfl wS trivial⟩
 have hge:¬k<s.length:=by intro h;exact hge (show(k:Int)<(s.length:Int)by omega)
 have hn:∀c,c∈s->nZ c.toNat:=λc hc=>by obtain⟨i,hi⟩:=iL hc;exact hall i c (by have :=(aG.1 hi).1;omega) hi
 refine⟨none,Ew (λhne=>?_) (λhne=>?_)⟩;refine aQ (λh2=>?_) (λh2=>?_);refine Ew (λh3=>?_) (λh3=>?_);refine Ew (λh4=>?_) (λh4=>?_);rw[Ip hne h3 h4 oO hn];exact rfl;rw[jB (.inr (.inr (.inl h4)))];exact rfl;rw[jB (.inr (.inl h3))];exact rfl;rw[jB (.inr (.inr (.inr (.inl oO))))];exact rfl;rw[jB (.inl hne)];exact rfl
theorem tC (c:UInt8):∀l:Bytes,(Lib.indexByte l c<0)↔c∉l
 |[]=>by simp[Lib.indexByte]
 |b::l=>by
  have ih:=tC c l;have hge:=Lib.indexByte_ge l c;unfold Lib.indexByte;by_cases hb:b=c;subst hb;simp;have hb':(b==c)=false:=by simpa using hb
  rw[hb'];simp only[rP,if_false,aC,not_or];by_cases h1:Lib.indexByte l c=-1;rw[h1];simp only[beq_self_eq_true,if_true];refine⟨λ_=>⟨λe=>hb e.symm,ih.1 oO⟩,λ_=>dD⟩;have :(Lib.indexByte l c==-1)=false:=by simpa using h1
  rw[this];simp only[rP,if_false];refine⟨λh=>oO,λh=>?_⟩;have :=ih.2 h.2;omega
theorem De (s:Bytes)(c:UInt8):au C 232 [.str s,.int .u8 (c.toNat:Int)] (λr=>r=.val (.int .i64 (Lib.indexByte s c))):=by
 refine⟨⟨_,Tryz.func232,rfl,rfl⟩,λbh w vs hJ hn hi hl hr=>?_⟩;match vs,hl with
  |[v0,v1],_=>
   have h0:=hr 0 v0 _ rfl rfl;have h1:=hr 1 v1 _ rfl rfl;obtain rfl:v0=.string ⟨s.toArray⟩:=by cases h0;rfl
   obtain rfl:v1=.int .u8 (c.toNat:Int):=by cases h1;rfl
   refine(Tryz.strings_IndexByte ⟨s.toArray⟩ (c.toNat:Int) w).mono ?_;rintro e w' ⟨rfl,rfl⟩;have hc:((c.toNat:Int)).toNat.toUInt8=c:=by simp
   exact⟨_,_,rfl,rfl,by rw[hc];exact .int _ _,RowKit.Below.refl _ _⟩
theorem WJ (s:Bytes)(hs:s.length<=2^47):au C 165 [.str s] (λr=>r=.val (.bool (qZ s))):=by
 have key:∀x:UInt8,x∉s↔(s.all λc=>c !=x)=true:=λx=>by rw[br];exact⟨λh c hc=>by simp only[bne_iff_ne,ne_eq];exactλe=>h (e▸hc),λh hm=>by simpa using h x hm⟩
 have mG:yE s 10 0=((s.all λc=>c !=10)&&(s.all λc=>c !=0)):=by unfold yE;rw[jq];simp only[br,aR];exact⟨λh=>⟨λc hc=>(h c hc).1,λc hc=>(h c hc).2⟩,λh c hc=>⟨h.1 c hc,h.2 c hc⟩⟩
 refine aq Tryz.func165 rfl rfl rfl ⟨none,?_⟩;unfold qZ;rw[mG];refine aQ (λh=>?_) (λh=>?_);have h:s.length<=1000:=by have :(s.length:Int)<=1000:=h;omega
 refine cl (De s 10) (aQ (λh2=>?_) (λh2=>?_));have h2:=(key 10).1 ((tC 10 s).1 h2);refine cl (De s 0) (aQ (λh3=>?_) (λh3=>?_));have h3:=(key 0).1 ((tC 0 s).1 h3);show fN.val _=_;simp only[h,h2,h3,decide_true,Bool.and_self];have h3:(s.all λc=>c !=0)=false:=by
  cases hq:s.all λc=>c !=0 with
  |false=>rfl
  |true=>exact absurd ((tC 0 s).2 ((key 0).2 hq)) h3
 show fN.val _=_;simp only[h3,sB];have h2:(s.all λc=>c !=10)=false:=by
  cases hq:s.all λc=>c !=10 with
  |false=>rfl
  |true=>exact absurd ((tC 10 s).2 ((key 10).2 hq)) h2
 show fN.val _=_;simp only[h2,sB,pL];have h:¬s.length<=1000:=by have :¬(s.length:Int)<=1000:=h;omega
 show fN.val _=_;simp only[h,decide_false,pL]
def xx (p:iA):Int:=if iq p.ja=false then 5 else if 1000<p.message.length then 4 else if p.time<0\/1099511627776<p.time then 2 else if rj p.deps≠0 then rj p.deps else if p.changes.length=0 then 1 else if 400<p.changes.length then 4 else 0
theorem SN (p:iA):eM p=if xx p≠0 then([],xx p)else kH p.changes []:=by unfold eM xx;by_cases h1:iq p.ja=false;simp only[af h1];rfl;simp only[aa h1];by_cases h2:1000<p.message.length;simp only[af h2];rfl;simp only[aa h2];by_cases h3:p.time<0\/1099511627776<p.time;simp only[af h3];rfl;simp only[aa h3];by_cases h4:rj p.deps≠0;simp only[af h4];simp only[aa h4];by_cases h5:p.changes.length=0;simp only[af h5];rfl;simp only[aa h5];by_cases h6:400<p.changes.length;simp only[af h6];rfl;simp only[aa h6];rfl
theorem aag (p:iA)(hz:SzP p):au C 249 [.agg (cP p)] (λr=>r=.val (.int .i64 (xx p))):=by
 obtain⟨ja,message,time,deps,changes⟩:=p;have hza:=hz.ja;have hzd:=hz.deps;have Gz:=hz.len;obtain⟨E,hE⟩:∃E,xx ⟨ja,message,time,deps,changes⟩=E:=⟨_,rfl⟩;rw[hE];unfold xx at hE;simp only at hE hza hzd Gz;refine aq Tryz.func249 rfl rfl rfl (cl (IB ja oO) (bR ?_));cases hn:iq ja with
 |false=>rw[af hn]at hE;subst hE;exact rfl
 |true=>
  rw[aa (by rw[hn];decide)]at hE;refine aQ (λh=>?_) (λh=>?_);rw[af (show 1000<message.length by have :(message.length:Int)>1000:=h;omega)]at hE;subst hE;exact rfl;rw[aa (show¬1000<message.length by have :¬(message.length:Int)>1000:=h;omega)]at hE;refine⟨none,aQ (λh=>?_) (λh3=>?_)⟩;rw[af (show time<0\/1099511627776<time from .inl h)]at hE;subst hE;exact rfl;refine aQ (λh=>?_) (λh4=>?_);rw[af (show time<0\/1099511627776<time from .inr h)]at hE;subst hE;exact rfl;rw[aa (show¬(time<0\/1099511627776<time)fromλg=>g.elim h3 h4)]at hE;have he:(((deps.map cD).length:Nat):Int)=(deps.length:Int):=by rw[aj]
  refine aQ (λh=>?_) (λh=>?_);have h1:100<deps.length:=by have :(((deps.map cD).length:Nat):Int)>100:=h;omega
  have hd:rj deps=4:=by rw[rj,af h1]
  rw[af (by rw[hd];decide),hd]at hE;subst hE;exact rfl;have h1:¬100<deps.length:=by have :¬(((deps.map cD).length:Nat):Int)>100:=h;omega
  refine bW 64 (λk:Nat=>[(1,.ptr 1 0),(31,.p (.sl (deps.map cD))),(32,.p (.int .i64 ((deps.map cD).length:Int))),(33,.p (.int .i64 k))]) (λ_=>[(1,aI (cP ⟨ja,message,time,deps,changes⟩))]) (λk=>k<=deps.length/\∀i,i<k->Iv deps i=0) (λk=>deps.length-k) 0 ⟨zL,λi h=>absurd h (kC _)⟩ rfl wS oS ?_;rintro k ⟨hk,hall⟩;refine cu (λhlt=>?_) (λhge=>?_)
  ·have hb:=UP hlt;have bad:Iv deps k≠0->fN.val (.int .i64 (Iv deps k))=fN.val (.int .i64 E):=λh=>by
    have hd:rj deps=Iv deps k:=by rw[rj,aa h1,Ni (Iv deps) deps.length k hlt hall h]
    rw[af (by rw[hd];exact h),hd]at hE;rw[hE]
   have next:Iv deps k=0->k+1<=deps.length/\∀i,i<k+1->Iv deps i=0:=λh=>⟨hlt,λi hi=>by by_cases hik:i=k;rw[hik];exact h;exact hall i oO⟩;refine ix hlt ⟨vp,cR,uf,rfl,rfl,CR (a:=deps[k]) (b:=bg) ?_⟩;by_cases hz:deps[k]=bg;rw[ai hz];rw[af hz]at hb;have :=bad (by rw[hb];decide);rw[hb]at this;exact this;rw[ah hz];rw[aa hz]at hb;refine cw 13 kK (aQ (λh0=>?_) (λh0=>?_))
   ·have h0:0<k:=by have :(k:Int)>0:=h0;omega
    have hlt':k-1<deps.length:=oO
    have hg:deps.getD (k-1) bg=deps[k-1]:=by simp[List.getD,hlt']
    rw[hg]at hb;refine nx (k-1) (ix hlt' ⟨_,Io deps[k-1] deps[k],aQ (λh2=>?_) (λh2=>?_)⟩);rw[af ⟨h0,h2⟩]at hb;have :=bad (by rw[hb];decide);rw[hb]at this;exact this;rw[aa λh=>h2 h.2]at hb;exact nx (k+1) (aU (k+1) (next hb) oO rfl wS oS)
   have h0:¬0<k:=by have :¬(k:Int)>0:=h0;omega
   rw[aa λh=>h0 h.1]at hb;exact nx (k+1) (aU (k+1) (next hb) oO rfl wS oS)
  have hd:rj deps=0:=by rw[rj,aa h1];exact Kb _ _ λi hi=>hall i oO
  rw[aa (by rw[hd];decide)]at hE;have hec:(((changes.map cC).length:Nat):Int)=(changes.length:Int):=by rw[aj]
  refine aH (λh=>?_) (λh=>?_);rw[af (by have :(((changes.map cC).length:Nat):Int)=0:=h;omega)]at hE;subst hE;exact rfl;rw[aa (by have :¬(((changes.map cC).length:Nat):Int)=0:=h;omega)]at hE;refine aQ (λh=>?_) (λh=>?_);rw[af (by have :(((changes.map cC).length:Nat):Int)>400:=h;omega)]at hE;subst hE;exact rfl;rw[aa (by have :¬(((changes.map cC).length:Nat):Int)>400:=h;omega)]at hE;subst hE;exact rfl
def aah (l:List Int):List (List AV):=l.map λn=>[.int .i64 n]
def oy (x:Int):List Int->Int|[]=>-1|y::l=>if x=y then 0 else if oy x l<0 then-1 else oy x l+1
theorem EC (x:Int):∀l,-1<=oy x l|[]=>Int.le_refl _|y::l=>by have :=EC x l;unfold oy;split;omega;split<;>omega
theorem IC (x:Int):∀(a b:List Int),x∉a->oy x (a++b)=if oy x b<0 then-1 else oy x b+a.length
 |[],b,h=>by have :=EC x b;simp only[dS,bA];split<;>omega
 |y::a,b,h=>by have hx:x≠y:=λe=>h (by rw[e];simp);have ih:=IC x a b (λhm=>h (by simp[hm]));rw[cr,oy,aa hx,ih];have :=EC x b;simp only[aS];split;rename_i h1;rw[af oO];rename_i h1;rw[aa oO];omega
theorem yN (x:Int):∀(a:List Int),x∉a->oy x a=-1|[],h=>rfl|y::a,h=>by have hx:x≠y:=λe=>h (by rw[e];simp);rw[oy,aa hx,yN x a (λhm=>h (by simp[hm]))];rfl
theorem ID (x:Int)(l:List Int):(0<=oy x l)↔x∈l:=by
 constructor;intro h;refine kI λhn=>?_;rw[yN x l hn]at h;omega;intro h;induction l with
 |nil=>cases h
 |cons y l ih=>unfold oy;split;omega;rename_i hne;rcases aC.1 h with rfl|h;exact absurd rfl hne;have :=ih h;rw[aa oO];omega
theorem aai (l:List Int)(x:Int)(hl:l.length<=2^40):au C 346 [.sl (aah l),.int .i64 x] (λr=>r=.val (.int .i64 (oy x l))):=by
 unfold aah;refine aq Tryz.func346 rfl rfl rfl (bW 19 (λk:Nat=>[(0,.p (.sl (l.map λn=>[.int .i64 n]))),(1,.p (.int .i64 x)),(7,.p (.int .i64 ((l.map λn=>[AV.int .i64 n]).length:Int))),(8,.p (.int .i64 k))]) (λ_=>[]) (λk=>k<=l.length/\x∉l.take k) (λk=>l.length-k) 0 ⟨zL,by simp⟩ rfl wS trivial ?_);rintro k ⟨hk,hx⟩;refine cu (λhlt=>?_) (λhge=>?_);refine ix hlt (aH (λh=>?_) (λh=>?_));have h:x=l[k]:=h;have e:l=l.take k++l[k]::l.drop (k+1):=by rw[List.getElem_cons_drop,dU]
 have :oy x l=k:=by
  conv=>lhs;rw[e]
  rw[IC x _ _ hx,oy,af h,aa oO,aN];omega
 rw[this];exact rfl;exact nx (k+1) (aU (k+1) ⟨hlt,sw hlt hx (λe=>h e.symm)⟩ oO rfl wS trivial);obtain rfl:k=l.length:=oO
 rw[aP]at hx;rw[yN x l hx];exact rfl
theorem Nr (l:List Int)(x:Int)(hl:l.length<=2^40):au C 325 [.sl (aah l),.int .i64 x] (λr=>r=.val (.bool (decide (x∈l)))):=by refine aq Tryz.func325 rfl rfl rfl (cl (aai l x hl) (aQ (λh=>?_) (λh=>?_)));rw[ai ((ID x l).1 h)];exact rfl;rw[ah λhm=>h ((ID x l).2 hm)];exact rfl
theorem WK (l:List Int)(x:Int)(hl:l.length<=2^40):au C 324 [.sl (aah l),.imp [.int .i64 x]] (λr=>r=.val (.bool (decide (x∈l)))):=by exact aq Tryz.func324 rfl rfl rfl (cl (Nr l x hl) rfl)
theorem iC (l:List Int)(x:Int)(b:Bool)(hl:l.length<=2^40)(h:decide (x∈l)=b):au C 324 [.sl (aah l),.imp [.int .i64 x]] (λr=>r=.val (.bool b)):=by subst h;exact WK l x hl
theorem aap (file:bB)(type:Int)(parent:bB)(name:Bytes)(mode:Int)(data:Bytes)(eH eY:bB)(lines:List Bytes)(over:List bB)(hl:lines.length<=2^47)(ho:over.length<=2^47):au C 295 [.agg (cC ⟨7,file,type,parent,name,mode,data,eH,eY,lines,over⟩)] (λr=>r=.val (.bool (bN (fI ⟨7,file,type,parent,name,mode,data,eH,eY,lines,over⟩)))):=by
 rw[show fI ⟨7,file,type,parent,name,mode,data,eH,eY,lines,over⟩=_ from rfl];unfold fI;simp only[Int.reduceEq,if_true,if_false];refine bn qz [] Tryz.func295 rfl rfl rfl ⟨[3],cZ (cells:=[.p (.int .i64 7)]) (ys:=[.int .i64 7]) rfl rfl rfl ⟨none,cl (iC [1] 7 false dD dD).dY ?_⟩⟩;refine aH (λdN=>?_) (λdN=>?_);rotate_left;have dN:type≠0:=dN;show fN.val (.bool false)=_;simp[bN,dN];have dN:type=0:=dN;refine cl (iC [2,3,4,5,6] 7 false dD dD).dY ?_;refine pZ (jH (a:=file) (b:=aM) ?_);by_cases wC:file=aM;rotate_left;rw[ah wC];show fN.val (.bool false)=_;simp[bN,wC];rw[ai wC];refine cl (iC [2] 7 false dD dD).dY ?_;refine pZ (jH (a:=parent) (b:=aM) ?_);by_cases eN:parent=aM;rotate_left;rw[ah eN];show fN.val (.bool false)=_;simp[bN,eN];rw[ai eN];refine aH (λdK=>?_) (λdK=>?_);rotate_left;have dK:name≠[]:=dK;show fN.val (.bool false)=_;simp[bN,dK];have dK:name=[]:=dK;refine cl (iC [3] 7 false dD dD).dY ?_;refine aH (λdL=>?_) (λdL=>?_);rotate_left;have dL:mode≠0:=dL;show fN.val (.bool false)=_;simp[bN,dL];have dL:mode=0:=dL;refine cl (iC [4] 7 false dD dD).dY ?_;refine aH (λdM=>?_) (λdM=>?_);rotate_left;have dM:data≠[]:=dM;show fN.val (.bool false)=_;simp[bN,dM];have dM:data=[]:=dM;refine cl (iC [5,6] 7 false dD dD).dY ?_;refine pZ (jH (a:=eH) (b:=aM) ?_);by_cases mE:eH=aM;rotate_left;rw[ah mE];show fN.val (.bool false)=_;simp[bN,mE];rw[ai mE];refine pZ (jH (a:=eY) (b:=aM) ?_);by_cases mF:eY=aM;rotate_left;rw[ah mF];show fN.val (.bool false)=_;simp[bN,mF];rw[ai mF];refine cl (iC [5] 7 false dD dD).dY ?_;refine aH (λcG=>?_) (λcG=>?_);rotate_left;have cG:lines≠[]:=λe=>cG (by rw[e];rfl);show fN.val (.bool false)=_;simp[bN,cG];have cG:lines=[]:=by have h:(((lines.map oL).length:Nat):Int)=0:=cG;rw[aj]at h;exact mh oO
 refine cl (iC [2,3,4,6,7] 7 true dD dD).dY ?_;show fN.val (.bool true)=_;simp[bN,dN,wC,eN,dK,dL,dM,mE,mF,cG]
end Qv
