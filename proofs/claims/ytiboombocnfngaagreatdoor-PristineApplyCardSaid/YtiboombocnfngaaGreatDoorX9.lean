/- Part 15 of the proof: its lemmas. No condition. -/
import Derived.Test.YtiboombocnfngaaGreatDoorX2
import Derived.Test.YtiboombocnfngaaGreatDoorX8
set_option maxRecDepth 10000
set_option maxHeartbeats 80000000
set_option linter.all false
open Go Go.Proofs Go.RowKit
namespace Qv
def iT (s:List fD)(x:bQ):bR×Bool:=if x.n<0\/((nL (wC s x.p).1).1.length:Int)<=x.n then(dK,false)else((nL (wC s x.p).1).1.getD x.n.toNat dK,true)
def TQ (s:List fD)(x file:bQ)(d:Dg):Int:=if x.p=aZ\/x=file then 0 else if(iT s x).2=false then 7 else if fk (aS file d) (iT s x).1=false then 8 else 0
def ovE (s:List fD)(c:dw)(d:Dg)(x:bQ):Int:=if x.p=aZ then 0 else if(iT s x).2=false then 7 else if dR c.kind (aS c.file d) (iT s x).1=false then 8 else 0
def chE (s:List fD)(c:dw)(d:Dg):Int:=bf ((if c.file.p=aZ then 0 else if(iT s c.file).2=false then 7 else if bg c.kind (iT s c.file).1=false then 8 else 0)::(if c.parent.p=aZ then 0 else if(iT s c.parent).2=false then 7 else if jg (iT s c.parent).1=false then 8 else 0)::TQ s c.cQ c.file d::TQ s c.dc c.file d::(c.over.map (ovE s c d)++[]))
def qE (s:List fD)(p:gr)(d:Dg):Int:=bf (p.changes.map (λc=>chE s c d)++[])
def nM:List fD->fD->List fD|[],x=>[x]|y::l,x=>if dy y.id x.id<0 then y::nM l x else x::y::l
theorem Rn:∀(a b:List fD)(x:fD),(∀y,y∈a->dy y.id x.id<0)->nM (a++b) x=a++nM b x|[],b,x,_=>rfl|y::a,b,x,h=>by rw[cr,nM,ag (h y (by simp)),Rn a b x λz hz=>h z (by simp[hz])];rfl
theorem aey {l:List fD}:∀zs,zs∈l.map mT->zs.length=37:=by intro zs h;obtain⟨x,-,rfl⟩:=aJ.1 h;rfl
theorem xO (p:gr):(bC p).length<=2^20:=by unfold bC;by_cases h:(mg p).2≠0;rw[ag h];exact zL;rw[af h];have ho:=(AP (by simpa using h)).1;have h1:=qC (p.changes.flatMap refsOf) (p.deps.foldl pz []);have h2:=qB p.deps [];have h3:=Ji ho p.changes.length (aB _);rw[aV]at h3;have h4:=wB ho;have h5:=ho.changes.2;simp only[bt]at h2;omega
def KW (s:List fD)(p:gr):List fD×Dg×Int:=if(jB p).2≠0 then([],aZ,(jB p).2)else if(wC s (jB p).1).2=true then(if p=(wC s (jB p).1).1 then([],aZ,6)else([],aZ,14))else if mV (iz s) (bC p)=false then([],aZ,19)else if qE s p (jB p).1≠0 then([],aZ,qE s p (jB p).1)else if 400<=s.length then([],aZ,4)else(nM s ⟨(jB p).1,p⟩,(jB p).1,0)
def ag0 (out:List Dg)(x:fD):Option fD->Bool|none=>!decide (x.id∈out)&&mV out (bC x.pat)|some y=>!decide (x.id∈out)&&(mV out (bC x.pat)&&decide (dy x.id y.id<0))
def Jj (out:List Dg):List fD->Option fD->Option fD|[],b=>b|x::l,b=>if ag0 out x b=true then Jj out l (some x)else Jj out l b
def rT (s:List fD):Nat->List Dg->List Dg|0,out=>out|n+1,out=>match Jj out s none with|none=>out|some x=>rT s n (out++[x.id])
def sJ (s:List fD):List Dg:=rT s s.length []
def vK:fD:=⟨aZ,VT⟩
def abu (s:List fD)(i:Nat):Int:=if(jB (s.getD i vK).pat).2≠0 then(jB (s.getD i vK).pat).2 else if(jB (s.getD i vK).pat).1≠(s.getD i vK).id then 13 else if 0<i/\0<=dy (s.getD (i-1) vK).id (jB (s.getD i vK).pat).1 then 9 else 0
def abv (s:List fD):Int:=if 400<s.length then 4 else if bf ((List.range s.length).map (abu s))≠0 then bf ((List.range s.length).map (abu s))else if s.all (λx=>mV (iz s) (bC x.pat))=false then 19 else if(sJ s).length<s.length then 20 else bf (s.map (λx=>qE s x.pat x.id)++[])
theorem Ck {d:Nat}:∀{l:List Sx},(∀x,x∈l->dX x<=d)->VP l<=d|[],_=>zL|y::l,h=>by have h1:=h y (by simp);have h2:=Ck (l:=l) λx hx=>h x (dG _ hx);show max (dX y) (VP l)<=d;omega
theorem Cl {d:Nat}:∀{l:List Sx},(∀x,x∈l->aX x<=d)->aXs l<=d|[],_=>zL|y::l,h=>by have h1:=h y (by simp);have h2:=Cl (l:=l) λx hx=>h x (dG _ hx);show max (aX y) (aXs l)<=d;omega
theorem Ot (a b:List Sx):tN (a++b)=tN a+tN b:=by rw[vp,vp,vp,aD,qw]
theorem ag1 {m:Nat}(hm:m<=2^40)(x:Sx):aX x<=m->(eX x).length<=nX x*(m+24):=by
 induction x using Sx.ind with
 |h1 s=>intro h;have h:s.length<=m:=h;have l1:=Lib.itoa_length_le (s.length:Int) oO oO;show(Lib.itoa (s.length:Int)++[58]++s).length<=1*(m+24);simp only[aA,aW,bt];omega
 |h2 l ih=>
  intro h;have h:aXs l<=m:=h;have hs:∀l':List Sx,(∀x,x∈l'->(eX x).length<=nX x*(m+24))->(Kr l').length<=tN l'*(m+24):=by
   intro l';induction l' with
   |nil=>intro _;exact zL
   |cons y l' ih2=>intro g;have g1:=g y (by simp);have g2:=ih2 λx hx=>g x (by simp[hx]);show(eX y++Kr l').length<=(nX y+tN l')*(m+24);rw[aA,bK];omega
  have g:=hs l λx hx=>ih x hx (by have :=Ht hx;omega);show([40]++Kr l++[41]).length<=(1+tN l)*(m+24);rw[bK];simp only[aA,aW,bt];omega
theorem Ro (n:Int):(Rg n).length<=40:=by unfold Rg;split;have :=Lib.itoa_length_le n oO oO;omega;exact zL
theorem VU (d:Dg):(dgB d).length<=40:=by unfold dgB;split;exact zL;rw[d.2];decide
theorem Ou (n:Int):dX (cT n)<=3/\aX (cT n)<=65536:=⟨by show 1<=3;decide,by have :=Ro n;show(Rg n).length<=_;omega⟩
theorem abw (x:bQ):aX (bU x)<=65536:=by have h1:=Ro x.n;have h2:=VU x.p;show max (dgB x.p).length (max (Rg x.n).length 0)<=_;omega
theorem Ov (x:bQ):dX (bU x)<=3/\aX (bU x)<=65536:=⟨by show 1+max 1 (max 1 0)<=3;decide,abw x⟩
theorem abx (s:Bytes)(h:s.length<=65536):dX (.atom s)<=3/\aX (.atom s)<=65536:=⟨by show 1<=3;decide,h⟩
theorem ai0 (l:List bQ):dX (sq l)<=3/\aX (sq l)<=65536:=by
 constructor;show 1+VP (l.map bU)<=3;have :=Ck (d:=2) (l:=l.map bU) λx hx=>by obtain⟨y,-,rfl⟩:=aJ.1 hx;show 1+max 1 (max 1 0)<=2;decide
 omega;exact Cl (l:=l.map bU) λx hx=>by obtain⟨y,-,rfl⟩:=aJ.1 hx;exact abw y
theorem ai1 (l:List Bytes)(h:l.all oP=true):dX (SG l)<=3/\aX (SG l)<=65536:=by
 constructor;show 1+VP (l.map Sx.atom)<=3;have :=Ck (d:=1) (l:=l.map Sx.atom) λx hx=>by obtain⟨y,-,rfl⟩:=aJ.1 hx;exact aB 1
 omega;exact Cl (l:=l.map Sx.atom) λx hx=>by obtain⟨y,hy,rfl⟩:=aJ.1 hx;have :=bD.1 h y hy;simp only[oP,bn,decide_eq_true_eq]at this;show y.length<=_;omega
theorem ai2 (l:List bQ):nX (sq l)=1+3*l.length:=by
 show 1+tN (l.map bU)=_;have :tN (l.map bU)=3*l.length:=by
  induction l with
  |nil=>rfl
  |cons y l ih=>show nX (bU y)+tN (l.map bU)=_;rw[ih,aW];show 3+3*l.length=_;omega
 rw[this]
theorem ai3 (l:List Bytes):nX (SG l)=1+l.length:=by
 show 1+tN (l.map Sx.atom)=_;have :tN (l.map Sx.atom)=l.length:=by
  induction l with
  |nil=>rfl
  |cons y l ih=>show 1+tN (l.map Sx.atom)=_;rw[ih,aW];omega
 rw[this]
theorem Ow {c:dw}(h:cG c=0)(hk:c.kind=2):gM c.name=true:=by
 cases hn:gM c.name with
 |true=>rfl
 |false=>unfold cG at h;rw[af (show¬(c.kind<1\/7<c.kind)by omega)]at h;by_cases h2:bG (eS c)=false;rw[ag h2]at h;exact absurd h dD;rw[af h2,af (show¬(c.kind=1/\(c.type<1\/4<c.type))by omega),ag ⟨hk,hn⟩]at h;exact absurd h dD
theorem Mc {s:Bytes}(h:gM s=true):s.length<=40:=by simp only[gM,bn,decide_eq_true_eq]at h;exact h.1.2
theorem aby {c:dw}(h:cG c=0):∀x,x∈qU c->dX x<=3/\aX x<=65536:=by obtain⟨g1,g2,g3,-,-,g6⟩:=eD h;intro x hx;unfold qU at hx;rcases bk.1 hx with hx|hx;obtain rfl:=aO.1 hx;exact Ou _;rcases bk.1 hx with hx|hx;by_cases e1:c.kind=1;rw[ag e1]at hx;cases hx;rw[af e1]at hx;by_cases e7:c.kind=7;rw[ag e7]at hx;cases hx;rw[af e7]at hx;obtain rfl:=aO.1 hx;exact Ov _;rcases bk.1 hx with hx|hx;by_cases e1:c.kind=1;rw[ag e1]at hx;obtain rfl:=aO.1 hx;exact Ou _;rw[af e1]at hx;by_cases e2:c.kind=2;rw[ag e2]at hx;have hn:=Mc (Ow h e2);simp only[aL,gQ,or_false]at hx;rcases hx with rfl|rfl;exact Ov _;exact abx _ oO;rw[af e2]at hx;by_cases e3:c.kind=3;rw[ag e3]at hx;obtain rfl:=aO.1 hx;exact Ou _;rw[af e3]at hx;by_cases e4:c.kind=4;rw[ag e4]at hx;obtain rfl:=aO.1 hx;exact abx _ g6;rw[af e4]at hx;by_cases e5:c.kind=5\/c.kind=6;rw[ag e5]at hx;simp only[aL,gQ,or_false]at hx;rcases hx with rfl|rfl;exact Ov _;exact Ov _;rw[af e5]at hx;cases hx;by_cases e5:c.kind=5;rw[ag e5]at hx;obtain rfl:=aO.1 hx;exact ai1 _ (g3 e5).2;rw[af e5]at hx;by_cases e1:c.kind=1;rw[ag e1]at hx;cases hx;rw[af e1]at hx;obtain rfl:=aO.1 hx;exact ai0 _
def chN (c:dw):Nat:=12+c.lines.length+3*c.over.length
theorem ag2 (c:dw):nX (mU c)<=chN c:=by
 show 1+tN (qU c)<=_;unfold qU chN;rw[Ot,Ot,Ot];have a1:tN [cT c.kind]=1:=rfl;have a2:tN (if c.kind=1 then[]else if c.kind=7 then[]else[bU c.file])<=3:=by split;exact zL;split;exact zL;exact aB 3
 have a3:tN (if c.kind=1 then[cT c.type]else if c.kind=2 then[bU c.parent,.atom c.name]else if c.kind=3 then[cT c.mode]else if c.kind=4 then[.atom c.data]else if c.kind=5\/c.kind=6 then[bU c.cQ,bU c.dc]else[])<=6:=by
  repeat' split
  all_goals first|exact zL|exact aB 6|(show 1<=6;decide)|(show 4<=6;decide)
 have a4:tN (if c.kind=5 then[SG c.lines]else if c.kind=1 then[]else[sq c.over])<=1+c.lines.length+3*c.over.length:=by split;show nX (SG c.lines)+0<=_;rw[ai3];omega;split;exact zL;show nX (sq c.over)+0<=_;rw[ai2];omega
 omega
def BdP (p:gr):Prop:=(p.changes.map chN).sum<=19000
theorem ag3 {p:gr}(hb:BdP p)(h:SH p):OkX (kC p):=by
 have hd:=wB h;have hname:=Mc h.name;have aox:=h.message;have ha:aX (kC p)<=65536:=by
  refine Cl λx hx=>?_;simp only[aL,gQ,or_false]at hx;rcases hx with rfl|rfl|rfl|rfl|rfl|rfl;show q1B.length<=_;decide;show p.fQ.length<=_;omega;show p.message.length<=_;omega;exact(Ou _).2;exact Cl λx hx=>by obtain⟨y,-,rfl⟩:=aJ.1 hx;have :=VU y;show(dgB y).length<=_;omega
  exact Cl λx hx=>by obtain⟨c,hc,rfl⟩:=aJ.1 hx;exact Cl λy hy=>(aby (h.each c hc) y hy).2
 have hn:nX (kC p)<=20000:=by
  have e1:tN (p.deps.map nA)=p.deps.length:=by
   generalize p.deps=l;induction l with
   |nil=>rfl
   |cons y l ih=>show 1+tN (l.map nA)=_;rw[ih,aW];omega
  have e2:tN (p.changes.map mU)<=(p.changes.map chN).sum:=by
   generalize p.changes=l;induction l with
   |nil=>exact aB _
   |cons y l ih=>have :=ag2 y;show nX (mU y)+tN (l.map mU)<=chN y+(l.map chN).sum;omega
  show 1+(1+(1+(1+(1+((1+tN (p.deps.map nA))+((1+tN (p.changes.map mU))+0))))))<=_;unfold BdP at hb;omega
 refine⟨hn,?_,ha,?_⟩;show 1+VP _<=12;have :=Ck (d:=11) (l:=[.atom q1B,.atom p.fQ,.atom p.message,cT p.time,.list (p.deps.map nA),.list (p.changes.map mU)]) λx hx=>by
  simp only[aL,gQ,or_false]at hx;rcases hx with rfl|rfl|rfl|rfl|rfl|rfl;show 1<=11;decide;show 1<=11;decide;show 1<=11;decide;show 1<=11;decide;show 1+VP (p.deps.map nA)<=11;have :=Ck (d:=1) (l:=p.deps.map nA) λx hx=>by obtain⟨y,-,rfl⟩:=aJ.1 hx;exact aB 1
  omega;show 1+VP (p.changes.map mU)<=11;have :=Ck (d:=4) (l:=p.changes.map mU) λx hx=>by obtain⟨c,hc,rfl⟩:=aJ.1 hx;show 1+VP (qU c)<=4;have :=Ck (d:=3) (l:=qU c) λy hy=>(aby (h.each c hc) y hy).1;omega
  omega
 omega;have :=ag1 (m:=65536) dD (kC p) ha;have h2:nX (kC p)*(65536+24)<=20000*(65536+24):=fG _ hn;omega
theorem TR {p:gr}(h:nI p=false):BdP p:=by
 unfold nI at h;simp only[mO,decide_eq_false_iff_not]at h;obtain⟨⟨⟨h1,-⟩,-⟩,h4⟩:=h;have :=DR chN 172 p.changes λc hc=>by
  have hb:KS c=false:=by
   cases hq:KS c with
   |false=>rfl
   |true=>rw[eA.2 ⟨c,hc,hq⟩]at h1;exact absurd h1 dD
  unfold KS Ce at hb;simp only[mO,decide_eq_false_iff_not]at hb;obtain⟨⟨g1,-⟩,g2⟩:=hb;unfold chN;omega
 have h2:p.changes.length*172<=20*172:=fG _ oO;unfold BdP;omega
theorem Ox {p:gr}(hz:Rc p)(hb:BdP p):DW p:=⟨hz,ag3 hb⟩
theorem Cm (d:Dg)(a:bR):(cM d a).over=DV d a.over:=by unfold cM Ks;show DV d (Cj d (Ci d (st2 d (st1 d a)))).over=_;rw[Jf,Je,Jd];rfl
theorem Gp (s:List fD):∀(n:Nat)(out:List Dg),(rT s n out).length<=out.length+n|0,out=>aB _|n+1,out=>by unfold rT;split;omega;rename_i x _;have :=Gp s n (out++[x.id]);rw[aA]at this;simp only[aW,bt]at this;omega
theorem TS (s:List fD):(sJ s).length<=s.length:=by have :=Gp s s.length [];simpa[sJ]using this
theorem fV (x:bQ):av C 113 [.agg (cI x)] (λr=>r=.val (.bool (decide (x.p=aZ)))):=by exact ak Tryz.func113 rfl rfl rfl ⟨sC,ct,pg,rfl,rfl,zN (a:=x.p) (b:=aZ) rfl⟩
theorem Jk (l:List Sx):av C 296 [.sl (mR l)] (λr=>r=.val (.agg (cX (.list l)))):=by exact ak Tryz.func296 rfl rfl rfl rfl
theorem qF (s:Bytes):av C 297 [.str s] (λr=>r=.val (.agg (cX (.atom s)))):=by exact ak Tryz.func297 rfl rfl rfl rfl
abbrev qZ:Extra:={opens:=[],Nj:=[],full:=false}
theorem Oy (w:World)(k:Nat)(os:Array Obj):RowKit.Below w.heap.size w (Sort.grow (w.drewN k) os):=⟨rfl,rfl,rfl,by simp[Sort.grow],λi hi=>by show(w.heap++os)[i]?=w.heap[i]?;rw[tn hi]⟩
theorem Rp (n:Int)(h0:-9223372036854775808<=n)(h1:n<=9223372036854775807):av C 347 [.int .i64 n] (λr=>r=.val (.str (Lib.itoa n))):=by
 refine⟨⟨_,Tryz.func347,rfl,rfl⟩,λbr w vs hJ hn hi hl hr=>?_⟩;match vs,hl with
  |[v0],_=>
   have h:=hr 0 v0 _ rfl rfl;obtain rfl:v0=.int .i64 n:=by cases h;rfl
   refine(Tryz.strconv_Itoa n h0 h1 w hJ.1).mono ?_;rintro e w' ⟨rfl,k,os,rfl⟩;exact⟨_,_,rfl,rfl,.str _,Oy w k os⟩
theorem AQ (n:Int):av C 299 [.int .i64 n] (λr=>r=.val (.agg (cX (cT n)))):=by
 have key:av C 336 [.int .i64 n] (λr=>r=.val (.eN [.agg (cX (cT n)),.int .i64 (if-1099511627776<=n/\n<=1099511627776 then 0 else 2)])):=by refine ak Tryz.func336 rfl rfl rfl ⟨none,?_⟩;unfold cT Rg;refine aF (λh=>?_) (λh=>aF (λh2=>?_) (λh2=>?_));have h:n< -1099511627776:=h;rw[af (show¬(-1099511627776<=n/\n<=1099511627776)by omega),af (show¬(-1099511627776<=n/\n<=1099511627776)by omega)];exact rfl;have h2:n>1099511627776:=h2;rw[af (show¬(-1099511627776<=n/\n<=1099511627776)by omega),af (show¬(-1099511627776<=n/\n<=1099511627776)by omega)];exact rfl;have h:¬n< -1099511627776:=h;have h2:¬n>1099511627776:=h2;rw[ag (show-1099511627776<=n/\n<=1099511627776 by omega),ag (show-1099511627776<=n/\n<=1099511627776 by omega)];exact cl (Rp n oO oO) rfl
 exact ak Tryz.func299 rfl rfl rfl (cl key rfl)
theorem aez (x:bR):av C 181 [.agg (cA x)] (λr=>r=.val (.bool (decide (x.kind=1)))):=by refine ak Tryz.func181 rfl rfl rfl (aC (λh=>?_) (λh=>?_));show dJ.val (.bool true)=_;rw[ah (show x.kind=1 from h)];show dJ.val (.bool false)=_;rw[ai (show¬x.kind=1 from h)]
theorem aeA (x:bR):av C 182 [.agg (cA x)] (λr=>r=.val (.bool (decide (x.kind=1)&&(decide (x.type=2)||decide (x.type=3))))):=by refine ak Tryz.func182 rfl rfl rfl ⟨none,aC (λh=>aC (λh2=>?_) (λh2=>aC (λh3=>?_) (λh3=>?_))) (λh=>?_)⟩;show dJ.val (.bool true)=_;rw[ah (show x.kind=1 from h),ah (show x.type=2 from h2)];rfl;show dJ.val (.bool true)=_;rw[ah (show x.kind=1 from h),ai (show¬x.type=2 from h2),ah (show x.type=3 from h3)];rfl;show dJ.val (.bool false)=_;rw[ah (show x.kind=1 from h),ai (show¬x.type=2 from h2),ai (show¬x.type=3 from h3)];rfl;show dJ.val (.bool false)=_;rw[ai (show¬x.kind=1 from h)];rfl
theorem aeB (x:bR):av C 183 [.agg (cA x)] (λr=>r=.val (.bool (decide (x.kind=1)&&decide (x.type=1)))):=by refine ak Tryz.func183 rfl rfl rfl ⟨none,aC (λh=>aC (λh2=>?_) (λh2=>?_)) (λh=>?_)⟩;show dJ.val (.bool true)=_;rw[ah (show x.kind=1 from h),ah (show x.type=1 from h2)];rfl;show dJ.val (.bool false)=_;rw[ah (show x.kind=1 from h),ai (show¬x.type=1 from h2)];rfl;show dJ.val (.bool false)=_;rw[ai (show¬x.kind=1 from h)];rfl
theorem aeC (x:bR):av C 184 [.agg (cA x)] (λr=>r=.val (.bool (decide (x.kind=1)&&decide (x.type=4)))):=by refine ak Tryz.func184 rfl rfl rfl ⟨none,aC (λh=>aC (λh2=>?_) (λh2=>?_)) (λh=>?_)⟩;show dJ.val (.bool true)=_;rw[ah (show x.kind=1 from h),ah (show x.type=4 from h2)];rfl;show dJ.val (.bool false)=_;rw[ah (show x.kind=1 from h),ai (show¬x.type=4 from h2)];rfl;show dJ.val (.bool false)=_;rw[ai (show¬x.kind=1 from h)];rfl
theorem aeD (x:bR)(c:dw):av C 185 [.agg (cA x),.imp (cC c)] (λr=>r=.val (.bool (decide (x.id=c.file)||(decide (x.kind=5)&&decide (x.file=c.file))))):=by refine ak Tryz.func185 rfl rfl rfl ⟨none,pW (jw (a:=x.id) (b:=c.file) ?_)⟩;by_cases h:x.id=c.file;rw[ah h];exact rfl;rw[ai h];refine aC (λh2=>?_) (λh2=>?_);refine pW (jw (a:=x.file) (b:=c.file) ?_);show dJ.val _=_;rw[ah (show x.kind=5 from h2)];rfl;show dJ.val (.bool false)=_;rw[ai (show¬x.kind=5 from h2)];rfl
theorem abK (k:Int)(hk:k=2\/k=3\/k=4\/k=6):av C 187 [.int .i64 k] (λr=>r=.val (.int .i64 k)):=by
 have wE:fB Tryz.prog 40 3=some [.int .i64]:=kK
 have kz:∀{L:List gZ}{l:List (AV×FV)},(l.all λp=>iJ false L p.1)=true->∀p,p∈l->iJ false L p.1=true:=λh p hp=>bD.1 h p hp;refine ak Tryz.func187 rfl rfl rfl ⟨[.int .i64],wE,rfl,(λp hp=>nomatch hp),_,rfl,[.int .i64],wE,rfl,kz rfl,_,rfl,[.int .i64],wE,rfl,kz rfl,_,rfl,[.int .i64],wE,rfl,kz rfl,_,rfl,?_⟩;rcases hk with rfl|rfl|rfl|rfl;all_goals exact⟨[.int .i64],wE,rfl,kz rfl,_,rfl,rfl⟩
theorem aeE (x:bR)(c:dw)(hk:c.kind=2\/c.kind=3\/c.kind=4\/c.kind=6\/c.kind=7):av C 186 [.agg (cA x),.imp (cC c)] (λr=>r=.val (.bool (dR c.kind c.file x))):=by
 refine ak Tryz.func186 rfl rfl rfl (bZ 19 kK (aC (λh=>?_) (λh=>?_)));have h:c.kind=7:=h;show dJ.val (.bool true)=_;simp[dR,zT,h];have h:c.kind≠7:=h;refine⟨_,abK c.kind oO,?_⟩;have hw:zT c.kind=c.kind:=af h;have h0:¬c.kind=0:=oO
 refine aC (λh2=>?_) (λh2=>?_);have h2:x.kind=c.kind:=h2;refine pW (jw (a:=x.file) (b:=c.file) ?_);show dJ.val _=_;rw[dR,hw,ai h0,ah h2];rfl;have h2:¬x.kind=c.kind:=h2;show dJ.val (.bool false)=_;rw[dR,hw,ai h0,ai h2];rfl
theorem Jl (s:Bytes)(hs:s.length<=2^50):av C 294 [.str s] (λr=>r=.val (.bool (gM s))):=by
 refine ak Tryz.func294 rfl rfl rfl (bJ 63 (λk:Nat=>[(0,.p (.str s)),(6,.p (.int .i64 (s.length:Int))),(7,.p (.int .i64 k))]) (λ_=>[]) (λk=>k<=s.length/\∀i c,i<k->s[i]?=some c->oN c.toNat) (λk=>s.length-k) 0 ⟨zL,λi c h=>absurd h (jL _)⟩ rfl wS trivial ?_);rintro k ⟨hk,hall⟩;have hw:IntKind.i64.wrap ((k:Int)+1)=((k+1:Nat):Int):=by rw[wrap64 oO oO];omega
 refine aF (λhlt=>?_) (λhge=>?_)
 ·have hlt:k<s.length:=by have :(k:Int)<(s.length:Int):=hlt;omega
  obtain⟨c,hc⟩:∃c,s[k]?=some c:=⟨_,ay hlt⟩;refine⟨oO,c,Hs rfl hc,?_⟩;have bad:¬oN c.toNat->gM s=false:=λh=>jS (.inr (.inr (.inr (.inr ⟨c,bW hc,h⟩))));have good:oN c.toNat->k+1<=s.length/\∀i d,i<k+1->s[i]?=some d->oN d.toNat:=λh=>⟨hlt,λi d hi hd=>by by_cases hik:i=k;subst hik;rw[hc]at hd;obtain rfl:=aq hd;exact h;exact hall i d oO hd⟩;refine⟨none,?_⟩;have aaN:¬oN c.toNat->dJ.val (.bool false)=dJ.val (.bool (gM s)):=λh=>by rw[bad h]
  repeat' (first|refine aF (λh=>?_) (λh=>?_)|refine cm (λh=>?_) (λh=>?_)|refine bF ?_)
  all_goals first|exact aaN (by unfold oN;omega)|exact⟨_,hw,aT (k+1) (good (by unfold oN;omega)) oO rfl wS trivial⟩
 have hge:¬k<s.length:=by intro h;exact hge (show(k:Int)<(s.length:Int)by omega)
 have hn:∀c,c∈s->oN c.toNat:=λc hc=>by obtain⟨i,hi⟩:=iX hc;exact hall i c (by have :=(aI.1 hi).1;omega) hi
 refine⟨none,BY (λhne=>?_) (λhne=>?_)⟩;refine aF (λh2=>?_) (λh2=>?_);refine BY (λh3=>?_) (λh3=>?_);refine BY (λh4=>?_) (λh4=>?_);rw[IU hne h3 h4 oO hn];exact rfl;rw[jS (.inr (.inr (.inl h4)))];exact rfl;rw[jS (.inr (.inl h3))];exact rfl;rw[jS (.inr (.inr (.inr (.inl oO))))];exact rfl;rw[jS (.inl hne)];exact rfl
theorem uE (c:UInt8):∀l:Bytes,(Lib.indexByte l c<0)↔c∉l
 |[]=>by simp[Lib.indexByte]
 |b::l=>by
  have ih:=uE c l;have hge:=Lib.indexByte_ge l c;unfold Lib.indexByte;by_cases hb:b=c;subst hb;simp;have hb':(b==c)=false:=by simpa using hb
  rw[hb'];simp only[tc,if_false,aL,not_or];by_cases h1:Lib.indexByte l c=-1;rw[h1];simp only[beq_self_eq_true,if_true];refine⟨λ_=>⟨λe=>hb e.symm,ih.1 oO⟩,λ_=>dD⟩;have :(Lib.indexByte l c==-1)=false:=by simpa using h1
  rw[this];simp only[tc,if_false];refine⟨λh=>oO,λh=>?_⟩;have :=ih.2 h.2;omega
theorem DX (s:Bytes)(c:UInt8):av C 232 [.str s,.int .u8 (c.toNat:Int)] (λr=>r=.val (.int .i64 (Lib.indexByte s c))):=by
 refine⟨⟨_,Tryz.func232,rfl,rfl⟩,λbr w vs hJ hn hi hl hr=>?_⟩;match vs,hl with
  |[v0,v1],_=>
   have h0:=hr 0 v0 _ rfl rfl;have h1:=hr 1 v1 _ rfl rfl;obtain rfl:v0=.string ⟨s.toArray⟩:=by cases h0;rfl
   obtain rfl:v1=.int .u8 (c.toNat:Int):=by cases h1;rfl
   refine(Tryz.strings_IndexByte ⟨s.toArray⟩ (c.toNat:Int) w).mono ?_;rintro e w' ⟨rfl,rfl⟩;have hc:((c.toNat:Int)).toNat.toUInt8=c:=by simp
   exact⟨_,_,rfl,rfl,by rw[hc];exact .int _ _,RowKit.Below.refl _ _⟩
theorem XD (s:Bytes)(hs:s.length<=2^47):av C 165 [.str s] (λr=>r=.val (.bool (oP s))):=by
 have key:∀x:UInt8,x∉s↔(s.all λc=>c !=x)=true:=λx=>by rw[bD];exact⟨λh c hc=>by simp only[bne_iff_ne,ne_eq];exactλe=>h (e▸hc),λh hm=>by simpa using h x hm⟩
 have mF:zR s 10 0=((s.all λc=>c !=10)&&(s.all λc=>c !=0)):=by unfold zR;rw[ot];simp only[bD,bn];exact⟨λh=>⟨λc hc=>(h c hc).1,λc hc=>(h c hc).2⟩,λh c hc=>⟨h.1 c hc,h.2 c hc⟩⟩
 refine ak Tryz.func165 rfl rfl rfl ⟨none,?_⟩;unfold oP;rw[mF];refine aF (λh=>?_) (λh=>?_);have h:s.length<=1000:=by have :(s.length:Int)<=1000:=h;omega
 refine cl (DX s 10) (aF (λh2=>?_) (λh2=>?_));have h2:=(key 10).1 ((uE 10 s).1 h2);refine cl (DX s 0) (aF (λh3=>?_) (λh3=>?_));have h3:=(key 0).1 ((uE 0 s).1 h3);show dJ.val _=_;simp only[h,h2,h3,decide_true,Bool.and_self];have h3:(s.all λc=>c !=0)=false:=by
  cases hq:s.all λc=>c !=0 with
  |false=>rfl
  |true=>exact absurd ((uE 0 s).2 ((key 0).2 hq)) h3
 show dJ.val _=_;simp only[h3,Bool.and_false];have h2:(s.all λc=>c !=10)=false:=by
  cases hq:s.all λc=>c !=10 with
  |false=>rfl
  |true=>exact absurd ((uE 10 s).2 ((key 10).2 hq)) h2
 show dJ.val _=_;simp only[h2,Bool.and_false,tO];have h:¬s.length<=1000:=by have :¬(s.length:Int)<=1000:=h;omega
 show dJ.val _=_;simp only[h,decide_false,tO]
def yI (p:gr):Int:=if gM p.fQ=false then 5 else if 1000<p.message.length then 4 else if p.time<0\/1099511627776<p.time then 2 else if nv p.deps≠0 then nv p.deps else if p.changes.length=0 then 1 else if 400<p.changes.length then 4 else 0
theorem Jm (p:gr):di p=if yI p≠0 then([],yI p)else iG p.changes []:=by unfold di yI;by_cases h1:gM p.fQ=false;simp only[ag h1];rfl;simp only[af h1];by_cases h2:1000<p.message.length;simp only[ag h2];rfl;simp only[af h2];by_cases h3:p.time<0\/1099511627776<p.time;simp only[ag h3];rfl;simp only[af h3];by_cases h4:nv p.deps≠0;simp only[ag h4];simp only[af h4];by_cases h5:p.changes.length=0;simp only[ag h5];rfl;simp only[af h5];by_cases h6:400<p.changes.length;simp only[ag h6];rfl;simp only[af h6];rfl
theorem abz (p:gr)(hz:Rc p):av C 249 [.agg (cP p)] (λr=>r=.val (.int .i64 (yI p))):=by
 obtain⟨fQ,message,time,deps,changes⟩:=p;have hza:=hz.fQ;have hzd:=hz.deps;have GQ:=hz.len;obtain⟨E,hE⟩:∃E,yI ⟨fQ,message,time,deps,changes⟩=E:=⟨_,rfl⟩;rw[hE];unfold yI at hE;simp only at hE hza hzd GQ;refine ak Tryz.func249 rfl rfl rfl (cl (Jl fQ oO) (bF ?_));cases hn:gM fQ with
 |false=>rw[ag hn]at hE;subst hE;exact rfl
 |true=>
  rw[af (by rw[hn];decide)]at hE;refine aF (λh=>?_) (λh=>?_);rw[ag (show 1000<message.length by have :(message.length:Int)>1000:=h;omega)]at hE;subst hE;exact rfl;rw[af (show¬1000<message.length by have :¬(message.length:Int)>1000:=h;omega)]at hE;refine⟨none,aF (λh=>?_) (λh3=>?_)⟩;rw[ag (show time<0\/1099511627776<time from .inl h)]at hE;subst hE;exact rfl;refine aF (λh=>?_) (λh4=>?_);rw[ag (show time<0\/1099511627776<time from .inr h)]at hE;subst hE;exact rfl;rw[af (show¬(time<0\/1099511627776<time)fromλg=>g.elim h3 h4)]at hE;have he:(((deps.map cD).length:Nat):Int)=(deps.length:Int):=by rw[aj]
  refine aF (λh=>?_) (λh=>?_);have h1:100<deps.length:=by have :(((deps.map cD).length:Nat):Int)>100:=h;omega
  have hd:nv deps=4:=by rw[nv,ag h1]
  rw[ag (by rw[hd];decide),hd]at hE;subst hE;exact rfl;have h1:¬100<deps.length:=by have :¬(((deps.map cD).length:Nat):Int)>100:=h;omega
  refine bJ 64 (λk:Nat=>[(1,.ptr 1 0),(31,.p (.sl (deps.map cD))),(32,.p (.int .i64 ((deps.map cD).length:Int))),(33,.p (.int .i64 k))]) (λ_=>[(1,aH (cP ⟨fQ,message,time,deps,changes⟩))]) (λk=>k<=deps.length/\∀i,i<k->zW deps i=0) (λk=>deps.length-k) 0 ⟨zL,λi h=>absurd h (jL _)⟩ rfl wS oS ?_;rintro k ⟨hk,hall⟩;refine cq (λhlt=>?_) (λhge=>?_)
  ·have hb:=On hlt;have bad:zW deps k≠0->dJ.val (.int .i64 (zW deps k))=dJ.val (.int .i64 E):=λh=>by
    have hd:nv deps=zW deps k:=by rw[nv,af h1,DU (zW deps) deps.length k hlt hall h]
    rw[ag (by rw[hd];exact h),hd]at hE;rw[hE]
   have next:zW deps k=0->k+1<=deps.length/\∀i,i<k+1->zW deps i=0:=λh=>⟨hlt,λi hi=>by by_cases hik:i=k;rw[hik];exact h;exact hall i oO⟩;refine ix hlt ⟨sC,ct,pg,rfl,rfl,zN (a:=deps[k]) (b:=aZ) ?_⟩;by_cases hz:deps[k]=aZ;rw[ah hz];rw[ag hz]at hb;have :=bad (by rw[hb];decide);rw[hb]at this;exact this;rw[ai hz];rw[af hz]at hb;refine bZ 13 kK (aF (λh0=>?_) (λh0=>?_))
   ·have h0:0<k:=by have :(k:Int)>0:=h0;omega
    have hlt':k-1<deps.length:=oO
    have hg:deps.getD (k-1) aZ=deps[k-1]:=by simp[List.getD,hlt']
    rw[hg]at hb;refine nx (k-1) (ix hlt' ⟨_,IT deps[k-1] deps[k],aF (λh2=>?_) (λh2=>?_)⟩);rw[ag ⟨h0,h2⟩]at hb;have :=bad (by rw[hb];decide);rw[hb]at this;exact this;rw[af λh=>h2 h.2]at hb;exact nx (k+1) (aT (k+1) (next hb) oO rfl wS oS)
   have h0:¬0<k:=by have :¬(k:Int)>0:=h0;omega
   rw[af λh=>h0 h.1]at hb;exact nx (k+1) (aT (k+1) (next hb) oO rfl wS oS)
  have hd:nv deps=0:=by rw[nv,af h1];exact BA _ _ λi hi=>hall i oO
  rw[af (by rw[hd];decide)]at hE;have hec:(((changes.map cC).length:Nat):Int)=(changes.length:Int):=by rw[aj]
  refine aC (λh=>?_) (λh=>?_);rw[ag (by have :(((changes.map cC).length:Nat):Int)=0:=h;omega)]at hE;subst hE;exact rfl;rw[af (by have :¬(((changes.map cC).length:Nat):Int)=0:=h;omega)]at hE;refine aF (λh=>?_) (λh=>?_);rw[ag (by have :(((changes.map cC).length:Nat):Int)>400:=h;omega)]at hE;subst hE;exact rfl;rw[af (by have :¬(((changes.map cC).length:Nat):Int)>400:=h;omega)]at hE;subst hE;exact rfl
def abA (l:List Int):List (List AV):=l.map λn=>[.int .i64 n]
def pE (x:Int):List Int->Int|[]=>-1|y::l=>if x=y then 0 else if pE x l<0 then-1 else pE x l+1
theorem Fm (x:Int):∀l,-1<=pE x l|[]=>Int.le_refl _|y::l=>by have :=Fm x l;unfold pE;split;omega;split<;>omega
theorem Jn (x:Int):∀(a b:List Int),x∉a->pE x (a++b)=if pE x b<0 then-1 else pE x b+a.length
 |[],b,h=>by have :=Fm x b;simp only[dM,bt];split<;>omega
 |y::a,b,h=>by have hx:x≠y:=λe=>h (by rw[e];simp);have ih:=Jn x a b (λhm=>h (by simp[hm]));rw[cr,pE,af hx,ih];have :=Fm x b;simp only[aW];split;rename_i h1;rw[ag oO];rename_i h1;rw[af oO];omega
theorem Ad (x:Int):∀(a:List Int),x∉a->pE x a=-1|[],h=>rfl|y::a,h=>by have hx:x≠y:=λe=>h (by rw[e];simp);rw[pE,af hx,Ad x a (λhm=>h (by simp[hm]))];rfl
theorem Jo (x:Int)(l:List Int):(0<=pE x l)↔x∈l:=by
 constructor;intro h;refine iE λhn=>?_;rw[Ad x l hn]at h;omega;intro h;induction l with
 |nil=>cases h
 |cons y l ih=>unfold pE;split;omega;rename_i hne;rcases aL.1 h with rfl|h;exact absurd rfl hne;have :=ih h;rw[af oO];omega
theorem abB (l:List Int)(x:Int)(hl:l.length<=2^40):av C 346 [.sl (abA l),.int .i64 x] (λr=>r=.val (.int .i64 (pE x l))):=by
 unfold abA;refine ak Tryz.func346 rfl rfl rfl (bJ 19 (λk:Nat=>[(0,.p (.sl (l.map λn=>[.int .i64 n]))),(1,.p (.int .i64 x)),(7,.p (.int .i64 ((l.map λn=>[AV.int .i64 n]).length:Int))),(8,.p (.int .i64 k))]) (λ_=>[]) (λk=>k<=l.length/\x∉l.take k) (λk=>l.length-k) 0 ⟨zL,by simp⟩ rfl wS trivial ?_);rintro k ⟨hk,hx⟩;refine cq (λhlt=>?_) (λhge=>?_);refine ix hlt (aC (λh=>?_) (λh=>?_));have h:x=l[k]:=h;have e:l=l.take k++l[k]::l.drop (k+1):=by rw[List.getElem_cons_drop,fH]
 have :pE x l=k:=by
  conv=>lhs;rw[e]
  rw[Jn x _ _ hx,pE,ag h,af oO,aR];omega
 rw[this];exact rfl;exact nx (k+1) (aT (k+1) ⟨hlt,xI hlt hx (λe=>h e.symm)⟩ oO rfl wS trivial);obtain rfl:k=l.length:=oO
 rw[aV]at hx;rw[Ad x l hx];exact rfl
theorem Oz (l:List Int)(x:Int)(hl:l.length<=2^40):av C 325 [.sl (abA l),.int .i64 x] (λr=>r=.val (.bool (decide (x∈l)))):=by refine ak Tryz.func325 rfl rfl rfl (cl (abB l x hl) (aF (λh=>?_) (λh=>?_)));rw[ah ((Jo x l).1 h)];exact rfl;rw[ai λhm=>h ((Jo x l).2 hm)];exact rfl
theorem XE (l:List Int)(x:Int)(hl:l.length<=2^40):av C 324 [.sl (abA l),.imp [.int .i64 x]] (λr=>r=.val (.bool (decide (x∈l)))):=by exact ak Tryz.func324 rfl rfl rfl (cl (Oz l x hl) rfl)
theorem iO (l:List Int)(x:Int)(b:Bool)(hl:l.length<=2^40)(h:decide (x∈l)=b):av C 324 [.sl (abA l),.imp [.int .i64 x]] (λr=>r=.val (.bool b)):=by subst h;exact XE l x hl
theorem abI (file:bQ)(type:Int)(parent:bQ)(name:Bytes)(mode:Int)(data:Bytes)(cQ dc:bQ)(lines:List Bytes)(over:List bQ)(hl:lines.length<=2^47)(ho:over.length<=2^47):av C 295 [.agg (cC ⟨7,file,type,parent,name,mode,data,cQ,dc,lines,over⟩)] (λr=>r=.val (.bool (bG (eS ⟨7,file,type,parent,name,mode,data,cQ,dc,lines,over⟩)))):=by
 rw[show eS ⟨7,file,type,parent,name,mode,data,cQ,dc,lines,over⟩=_ from rfl];unfold eS;simp only[Int.reduceEq,if_true,if_false];refine bu qZ [] Tryz.func295 rfl rfl rfl ⟨[3],dA (cells:=[.p (.int .i64 7)]) (ys:=[.int .i64 7]) rfl rfl rfl ⟨none,cl (iO [1] 7 false dD dD).eG ?_⟩⟩;refine aC (λeu=>?_) (λeu=>?_);rotate_left;have eu:type≠0:=eu;show dJ.val (.bool false)=_;simp[bG,eu];have eu:type=0:=eu;refine cl (iO [2,3,4,5,6] 7 false dD dD).eG ?_;refine pW (jw (a:=file) (b:=aP) ?_);by_cases xP:file=aP;rotate_left;rw[ai xP];show dJ.val (.bool false)=_;simp[bG,xP];rw[ah xP];refine cl (iO [2] 7 false dD dD).eG ?_;refine pW (jw (a:=parent) (b:=aP) ?_);by_cases fo:parent=aP;rotate_left;rw[ai fo];show dJ.val (.bool false)=_;simp[bG,fo];rw[ah fo];refine aC (λeo=>?_) (λeo=>?_);rotate_left;have eo:name≠[]:=eo;show dJ.val (.bool false)=_;simp[bG,eo];have eo:name=[]:=eo;refine cl (iO [3] 7 false dD dD).eG ?_;refine aC (λep=>?_) (λep=>?_);rotate_left;have ep:mode≠0:=ep;show dJ.val (.bool false)=_;simp[bG,ep];have ep:mode=0:=ep;refine cl (iO [4] 7 false dD dD).eG ?_;refine aC (λer=>?_) (λer=>?_);rotate_left;have er:data≠[]:=er;show dJ.val (.bool false)=_;simp[bG,er];have er:data=[]:=er;refine cl (iO [5,6] 7 false dD dD).eG ?_;refine pW (jw (a:=cQ) (b:=aP) ?_);by_cases nw:cQ=aP;rotate_left;rw[ai nw];show dJ.val (.bool false)=_;simp[bG,nw];rw[ah nw];refine pW (jw (a:=dc) (b:=aP) ?_);by_cases ny:dc=aP;rotate_left;rw[ai ny];show dJ.val (.bool false)=_;simp[bG,ny];rw[ah ny];refine cl (iO [5] 7 false dD dD).eG ?_;refine aC (λdm=>?_) (λdm=>?_);rotate_left;have dm:lines≠[]:=λe=>dm (by rw[e];rfl);show dJ.val (.bool false)=_;simp[bG,dm];have dm:lines=[]:=by have h:(((lines.map mL).length:Nat):Int)=0:=dm;rw[aj]at h;exact jM oO
 refine cl (iO [2,3,4,6,7] 7 true dD dD).eG ?_;show dJ.val (.bool true)=_;simp[bG,eu,xP,fo,eo,ep,er,nw,ny,dm]
end Qv
