/- Part 32 of the proof: its lemmas. No condition. -/
import Derived.Test.YtlbofhenpfnenaaGreatDoorV5
set_option maxRecDepth 10000
set_option maxHeartbeats 80000000
set_option linter.all false
open Go Go.Proofs Go.RowKit
namespace Qv
theorem gw {c:eG}(h:dc c=0):1<=c.kind/\c.kind<=7/\(c.kind=5->c.lines.length<=2000/\c.lines.all qk=true)/\(c.kind≠5->c.over.length<=400)/\bI (eD c)=true/\c.data.length<=65536:=by
 unfold dc at h;by_cases h1:c.kind<1\/7<c.kind;rw[af h1]at h;exact absurd h dD;rw[aa h1]at h;by_cases h2:bI (eD c)=false;rw[af h2]at h;exact absurd h dD;rw[aa h2]at h;by_cases h3:c.kind=1/\(c.type<1\/4<c.type);rw[af h3]at h;exact absurd h dD;rw[aa h3]at h;by_cases h4:c.kind=2/\iC c.name=false;rw[af h4]at h;exact absurd h dD;rw[aa h4]at h;by_cases h5:c.kind=3/\(c.mode<0\/511<c.mode);rw[af h5]at h;exact absurd h dD;rw[aa h5]at h;by_cases h6:65536<c.data.length;rw[af h6]at h;exact absurd h dD;rw[aa h6]at h;have he:bI (eD c)=true:=by simpa using h2
 by_cases h7:c.kind=5;rw[af h7]at h;refine⟨oO,oO,λ_=>?_,λg=>absurd h7 g,he,oO⟩;unfold zW at h;by_cases g1:c.lines.length=0;rw[af g1]at h;exact absurd h dD;rw[aa g1]at h;by_cases g2:2000<c.lines.length;rw[af g2]at h;exact absurd h dD;rw[aa g2]at h;by_cases g3:c.lines.all qk=true;exact⟨oO,g3⟩;rw[aa g3]at h;exact absurd h dD;rw[aa h7]at h;by_cases h8:c.kind=7/\c.over.length=0;rw[af h8]at h;exact absurd h dD;rw[aa h8]at h;by_cases h9:400<c.over.length;rw[af h9]at h;exact absurd h dD;exact⟨oO,oO,λg=>absurd g h7,λ_=>oO,he,oO⟩
theorem LW (c:eG)(f:Nat):(fc c f).length=if c.kind=5 then 2*c.lines.length+1 else 1:=by unfold fc;by_cases h:c.kind=5;rw[af h,af h];simp;omega;rw[aa h,aa h];rfl
theorem DN {c:eG}(h:dc c=0)(f:Nat):(fc c f).length<=4001:=by rw[LW];obtain⟨-,-,h5,-⟩:=gw h;by_cases hk:c.kind=5;have :=(h5 hk).1;rw[af hk];omega;rw[aa hk];omega
theorem abK (c:eG)(f:Nat)(h1:1<=c.kind)(h7:c.kind<=7)(hf:f<=2^30)(hl:c.kind=5->c.lines.length<=2^30):ak C 142 [.agg (cC c),.int .i64 (f:Int)] (λr=>r=.val (.sl (eU (fc c f)))):=by by_cases e5:c.kind=5;exact abJ c f e5 hf (hl e5);by_cases e1:c.kind=1;exact abx c f e1;by_cases e2:c.kind=2;exact abz c f e2;by_cases e3:c.kind=3;exact abB c f e3;by_cases e4:c.kind=4;exact abD c f e4;by_cases e6:c.kind=6;exact abF c f e6;exact abH c f oO
def ic:List eG->List bD->List bD×Int|[],own=>(own,0)|c::l,own=>if dc c≠0 then([],dc c)else if mY c own≠0 then([],mY c own)else ic l (own++fc c own.length)
theorem jM (c:eG)(l:List eG)(own:List bD):ic (c::l) own=if dc c≠0 then([],dc c)else if mY c own≠0 then([],mY c own)else ic l (own++fc c own.length):=rfl
def Ws (x:List bD×Int):AV:=.eV [.sl (eU x.1),.int .i64 x.2]
theorem aeV (l:List eG)(hl:l.length<=400)(hz:∀c,c∈l->SzC c):ak C 112 [.sl (yR l)] (λr=>r=.val (Ws (ic l []))):=by
 unfold yR;refine ag Tryz.func112 rfl rfl rfl ?_;refine bu 42 (λx:Nat×List bD=>[(0,.p (.sl (l.map cC))),(4,.eH 8 48 172 (x.2.map cA)),(5,.p (.int .i64 x.1))]) (λ_=>[]) (λx=>x.1<=l.length/\x.2.length<=4001*x.1/\ic l []=ic (l.drop x.1) x.2) (λx=>l.length-x.1) (0,[]) ⟨zL,zL,rfl⟩ rfl wS trivial ?_;rintro⟨k,own⟩ ⟨hk,hn,hE⟩;have hk:k<=l.length:=hk;have hn:own.length<=4001*k:=hn;have hE:ic l []=ic (l.drop k) own:=hE;refine bQ (λhlt=>?_) (λhge=>?_);have hc:=hz l[k] (aK _);rw[bL hlt]at hE;rw[jM]at hE;refine ix hlt ?_;refine cl (TZ l[k] hc) ?_;refine cF (λh=>?_) (λh=>?_);rw[af h]at hE;rw[show ic l []=([],dc l[k])from hE];exact rfl;rw[aa λg=>g h]at hE;refine ix hlt ?_;refine cl (aeT l[k] own oO hc.over) ?_;refine cF (λh2=>?_) (λh2=>?_);rw[af h2]at hE;rw[show ic l []=([],mY l[k] own)from hE];exact rfl;rw[aa λg=>g h2]at hE;obtain⟨g1,g2,g3,-,-,-⟩:=gw h;have hm:=DN h own.length;refine ix hlt ?_;have hml:(((own.map cA).length:Nat):Int)=(own.length:Int):=by rw[aj]
 refine cl (by rw[hml];exact abK l[k] own.length g1 g2 oO (λg=>by have :=(g3 g).1;omega)) ?_;refine⟨jk,jk,by show((own.map cA).length+((fc l[k] own.length).map cA).length)*296<=_;rw[aj,aj];omega,(own++fc l[k] own.length).map cA,by rw[aM];rfl,?_⟩;refine nx (k+1) (aO (k+1,own++fc l[k] own.length) ⟨hlt,by show(own++fc l[k] own.length).length<=4001*(k+1);rw[aq];omega,hE⟩ (by show l.length-(k+1)<l.length-k;omega) rfl wS trivial);rw[cU oO]at hE;rw[hE];exact rfl
def dw (p:ga):List bD×Int:=if iC p.eW=false then([],5)else if 1000<p.message.length then([],4)else if p.time<0\/1099511627776<p.time then([],2)else if mZ p.deps≠0 then([],mZ p.deps)else if p.changes.length=0 then([],1)else if 400<p.changes.length then([],4)else ic p.changes []
theorem Rv (p:ga)(hz:SS p):ak C 83 [.agg (cP p)] (λr=>r=.val (Ws (dw p))):=by
 obtain⟨E,hE⟩:∃E,dw p=E:=⟨_,rfl⟩;rw[hE];have hE:E=dw p:=hE.symm;unfold dw at hE;have jH:(((yR p.changes).length:Nat):Int)=(p.changes.length:Int):=by simp[yR]
 refine ag Tryz.func83 rfl rfl rfl ?_;refine cl (IU p.eW (by have :=hz.eW;omega)) ?_;refine bl ?_;cases hn:iC p.eW with
 |false=>rw[hn,af rfl]at hE;rw[hE];exact rfl
 |true=>rw[hn,aa dD]at hE;refine az (λh=>?_) (λh=>?_);rw[af (show 1000<p.message.length by have :(p.message.length:Int)>1000:=h;omega)]at hE;rw[hE];exact rfl;rw[aa (show¬1000<p.message.length by have :¬(p.message.length:Int)>1000:=h;omega)]at hE;refine⟨none,?_⟩;refine az (λh=>?_) (λh=>az (λh2=>?_) (λh2=>?_));rw[af (show p.time<0\/1099511627776<p.time from .inl h)]at hE;rw[hE];exact rfl;rw[af (show p.time<0\/1099511627776<p.time from .inr h2)]at hE;rw[hE];exact rfl;rw[aa (show¬(p.time<0\/1099511627776<p.time)fromλg=>g.elim h h2)]at hE;refine cl (aeU p.deps hz.deps) ?_;refine cF (λh=>?_) (λh=>?_);rw[af h]at hE;rw[hE];exact rfl;rw[aa λg=>g h]at hE;refine aA (λh=>?_) (λh=>?_);have h:(((yR p.changes).length:Nat):Int)=0:=h;rw[af (show p.changes.length=0 by omega)]at hE;rw[hE];exact rfl;have h:¬(((yR p.changes).length:Nat):Int)=0:=h;rw[aa (show¬p.changes.length=0 by omega)]at hE;refine az (λh4=>?_) (λh4=>?_);have h4:(((yR p.changes).length:Nat):Int)>400:=h4;rw[af (show 400<p.changes.length by omega)]at hE;rw[hE];exact rfl;have h4:¬(((yR p.changes).length:Nat):Int)>400:=h4;rw[aa (show¬400<p.changes.length by omega)]at hE;refine cl (aeV p.changes oO hz.each) ?_;rw[hE];exact rfl
theorem Je:∀(l:List eG)(own:List bD),(ic l own).2=0->∀c,c∈l->dc c=0
 |[],_,_=>λc h=>by cases h
 |c::l,own,h=>by rw[jM]at h;by_cases h1:dc c≠0;rw[af h1]at h;exact absurd h h1;rw[aa h1]at h;by_cases h2:mY c own≠0;rw[af h2]at h;exact absurd h h2;rw[aa h2]at h;intro x hx;rcases aQ.1 hx with rfl|hx;simpa using h1;exact Je l _ h x hx
structure Ub (p:ga):Prop where
 name:iC p.eW=true
 message:p.message.length<=1000
 time:0<=p.time/\p.time<=1099511627776
 deps:mZ p.deps=0
 changes:1<=p.changes.length/\p.changes.length<=400
 each:∀c,c∈p.changes->dc c=0
 all:dw p=ic p.changes []
theorem va {p:ga}(h:(dw p).2=0):Ub p:=by
 have hE:dw p=dw p:=rfl;conv at hE=>rhs;unfold dw
 rw[hE]at h;by_cases h1:iC p.eW=false;rw[af h1]at h;exact absurd h dD;rw[aa h1]at h hE;by_cases h2:1000<p.message.length;rw[af h2]at h;exact absurd h dD;rw[aa h2]at h hE;by_cases h3:p.time<0\/1099511627776<p.time;rw[af h3]at h;exact absurd h dD;rw[aa h3]at h hE;by_cases h4:mZ p.deps≠0;rw[af h4]at h;exact absurd h h4;rw[aa h4]at h hE;by_cases h5:p.changes.length=0;rw[af h5]at h;exact absurd h dD;rw[aa h5]at h hE;by_cases h6:400<p.changes.length;rw[af h6]at h;exact absurd h dD;rw[aa h6]at h hE;exact⟨by simpa using h1,oO,oO,by simpa using h4,oO,Je _ _ h,hE⟩
theorem qZ {c:eG}(h:bI (eD c)=true)(h1:1<=c.kind)(h7:c.kind<=7):(c.kind=5->c.over=[])/\(c.kind≠5->c.lines=[]):=by simp only[bI,aW,decide_eq_true_eq]at h;obtain⟨-,-,-,-,-,-,-,-,hl,ho⟩:=h;refine⟨λe=>?_,λe=>?_⟩;rw[Oi c e]at ho;exact ho;by_cases e1:c.kind=1;rw[BW c e1]at hl;exact hl;by_cases e2:c.kind=2;rw[Og c e2]at hl;exact hl;by_cases e3:c.kind=3;rw[Oh c e3]at hl;exact hl;by_cases e4:c.kind=4;rw[Jb c e4]at hl;exact hl;by_cases e6:c.kind=6;rw[Oj c e6]at hl;exact hl;rw[Fs c oO]at hl;exact hl
def oB (p:ga):Bytes×Int:=if(dw p).2≠0 then([],(dw p).2)else if(eX (kE p)).length<=65536 then(eX (kE p),0)else([],4)
def abL (x:Bytes×Int):AV:=.eV [.str x.1,.int .i64 x.2]
theorem LX (p:ga)(hz:SS p)(hx:Ub p->OkX (kE p)):ak C 98 [.agg (cP p)] (λr=>r=.val (abL (oB p))):=by
 refine ag Tryz.func98 rfl rfl rfl ?_;refine cl (Rv p hz) ?_;unfold oB;refine cF (λh=>?_) (λh=>?_);rw[af h];exact rfl;have h:(dw p).2=0:=h;rw[aa λg=>g h];have ho:=va h;have hd:p.deps.length<=2^40:=by have :=ho.deps;unfold mZ at this;by_cases g:100<p.deps.length;rw[af g]at this;exact absurd this dD;omega
 refine⟨_,aeR p (hx ho) hd (by have :=ho.changes;omega) (λc hc=>?_),λr hr=>?_⟩;obtain⟨g1,g2,g3,g4,g5,-⟩:=gw (ho.each c hc);obtain⟨k1,k2⟩:=qZ g5 g1 g2;refine⟨g1,g2,?_,?_⟩;by_cases h5:c.kind=5;have :=(g3 h5).1;omega;rw[k2 h5];exact zL;by_cases h5:c.kind=5;rw[k1 h5];exact zL;have :=g4 h5;omega;subst hr;unfold aeQ;by_cases hl:(eX (kE p)).length<=65536;rw[af hl,af hl];exact rfl;rw[aa hl,aa hl];exact rfl
def oe (p:ga):Dg×Int:=if(oB p).2≠0 then(bF,(oB p).2)else(Ri (oB p).1,0)
def idR (x:Dg×Int):AV:=.eV [.agg (cD x.1),.int .i64 x.2]
theorem abM (p:ga):(oB p).1.length<=65536:=by unfold oB;by_cases h:(dw p).2≠0;rw[af h];exact zL;rw[aa h];by_cases h2:(eX (kE p)).length<=65536;rw[af h2];exact h2;rw[aa h2];exact zL
theorem Uc (p:ga)(hz:SS p)(hx:Ub p->OkX (kE p)):ak C 65 [.agg (cP p)] (λr=>r=.val (idR (oe p))):=by have hlen:=abM p;refine ag Tryz.func65 rfl rfl rfl ?_;refine cl (LX p hz hx) ?_;unfold oe;refine cF (λh=>?_) (λh=>?_);rw[af h];exact rfl;rw[aa λg=>g h];refine cl (aeq (oB p).1 oO) ?_;exact rfl
theorem Yg (p:ga)(hz:SS p)(hx:Ub p->OkX (kE p)):ak C 101 [.agg (cP p)] (λr=>r=.val (.int .i64 (oB p).2)):=by refine ag Tryz.func101 rfl rfl rfl ?_;refine cl (LX p hz hx) ?_;exact rfl
theorem mV {l:List Dg}:∀zs,zs∈l.map cD->zs.length=32:=by intro zs h;obtain⟨x,-,rfl⟩:=aI.1 h;rfl
def jw:List Dg->Dg->List Dg|[],x=>[x]|y::l,x=>if eY y x<0 then y::jw l x else if y=x then y::l else x::y::l
theorem Jf:∀(a b:List Dg)(x:Dg),(∀y,y∈a->eY y x<0)->jw (a++b) x=a++jw b x|[],b,x,_=>rfl|y::a,b,x,h=>by rw[eB,jw,af (h y (by simp)),Jf a b x λz hz=>h z (by simp[hz])];rfl
theorem aeW {l:List Dg}{k:Nat}{x:Dg}(hk:k<l.length)(h:∀y,y∈l.take k->eY y x<0)(h2:¬eY l[k] x<0):jw l x=if l[k]=x then l else l.take k++[x]++l.drop k:=by
 have e:l=l.take k++(l[k]::l.drop (k+1)):=by rw[<-bL hk,cT]
 have e2:l.drop k=l[k]::l.drop (k+1):=bL hk;rw[e2];generalize l[k]=y at*;rw[show jw l x=jw (l.take k++(y::l.drop (k+1))) x from by rw[<-e],Jf _ _ _ h,jw,aa h2];by_cases hy:y=x;rw[af hy,af hy];exact e.symm;rw[aa hy,aa hy];simp
theorem abN {l:List Dg}{x:Dg}(h:∀y,y∈l->eY y x<0):jw l x=l++[x]:=by have :=Jf l [] x h;rw[aY]at this;exact this
theorem Lc {l:List Dg}{k:Nat}{x:Dg}(hk:k<l.length)(h:∀y,y∈l.take k->eY y x<0)(h2:eY l[k] x<0):∀y,y∈l.take (k+1)->eY y x<0:=by intro y hy;rw[<-dn hk,bh,aS]at hy;rcases hy with hy|rfl;exact h y hy;exact h2
theorem DO (l:List Dg)(x:Dg)(hl:l.length<=2^20):ak C 102 [.sl (jo l),.agg (cD x)] (λr=>r=.val (.sl (jo (jw l x)))):=by
 unfold jo;refine ag Tryz.func102 rfl rfl rfl ?_;refine bu 49 (λk:Nat=>[(0,.p (.sl (l.map cD))),(3,.ptr 3 0),(5,.p (.int .i64 k))]) (λ_=>[(3,aH (cD x))]) (λk=>k<=l.length/\∀y,y∈l.take k->eY y x<0) (λk=>l.length-k) 0 ⟨zL,by simp⟩ rfl wS oS ?_;rintro k ⟨hk,hn⟩;refine cm 10 kK ?_;refine bQ (λhlt=>?_) (λhge=>?_);refine ix hlt ?_;refine cl (pP l[k] x) ?_;refine az (λh=>?_) (λh=>?_);exact nx (k+1) (aO (k+1) ⟨hlt,Lc hlt hn h⟩ oO rfl wS oS);have hI:=aeW hlt hn h;refine cm 10 kK ?_;refine bQ (λhlt=>?_) (λhge=>absurd hlt hge);refine ix hlt ?_;refine⟨yX,dQ,lq,rfl,rfl,?_⟩;refine IQ (a:=l[k]) (b:=x) ?_;by_cases hx:l[k]=x;rw[an hx];rw[af hx]at hI;rw[hI];exact rfl;rw[ah hx];rw[aa hx]at hI;rw[hI];refine⟨k,rfl,zL,by rw[aj];exact hk,mV,(l.take k).map cD,by simp[me],?_⟩;refine⟨(λzs h=>nomatch h),mV,by show(0+((l.take k).map cD).length)*32<=_;rw[aj,aD];omega,(l.take k).map cD,rfl,?_⟩;refine⟨mV,mV (l:=[x]),by show(((l.take k).map cD).length+1)*32<=_;rw[aj,aD];omega,(l.take k++[x]).map cD,by rw[aM];rfl,?_⟩;refine⟨k,rfl,by rw[aj];exact hk,ay _,mV,(l.drop k).map cD,by rw[ck (ay _),nV],?_⟩;refine⟨mV,mV,by show(((l.take k++[x]).map cD).length+((l.drop k).map cD).length)*32<=_;simp only[aj,aq,aD,bV,aL,br];omega,(l.take k++[x]++l.drop k).map cD,by rw[<-aM],?_⟩;exact .inr rfl;have Pw:k=l.length:=oO
 have hI:jw l x=l.take k++[x]++l.drop k:=by rw[ck oO]at hn⊢;rw[cU oO,aY];exact abN hn
 refine cm 10 kK ?_;refine bQ (λhlt=>absurd hlt hge) (λhge=>?_);rw[hI];refine⟨k,rfl,zL,by rw[aj];exact hk,mV,(l.take k).map cD,by simp[me],?_⟩;refine⟨(λzs h=>nomatch h),mV,by show(0+((l.take k).map cD).length)*32<=_;rw[aj,aD];omega,(l.take k).map cD,rfl,?_⟩;refine⟨mV,mV (l:=[x]),by show(((l.take k).map cD).length+1)*32<=_;rw[aj,aD];omega,(l.take k++[x]).map cD,by rw[aM];rfl,?_⟩;refine⟨k,rfl,by rw[aj];exact hk,ay _,mV,(l.drop k).map cD,by rw[ck (ay _),nV],?_⟩;refine⟨mV,mV,by show(((l.take k++[x]).map cD).length+((l.drop k).map cD).length)*32<=_;simp only[aj,aq,aD,bV,aL,br];omega,(l.take k++[x]++l.drop k).map cD,by rw[<-aM],?_⟩;exact .inr rfl
def cr (x:bg)(d:Dg):bg:=if x.p=bF/\0<=x.n then⟨d,x.n⟩else x
theorem zZ (x:bg)(d:Dg):ak C 84 [.agg (cI x),.agg (cD d)] (λr=>r=.val (.agg (cI (cr x d)))):=by refine ag Tryz.func84 rfl rfl rfl ?_;refine⟨none,?_⟩;refine cl (xL x.p) ?_;unfold cr;by_cases h:x.p=bF;rw[an h];refine az (λh2=>?_) (λh2=>?_);rw[af ⟨h,h2⟩];exact rfl;rw[aa λg=>h2 g.2];exact rfl;rw[ah h,aa λg=>h g.1];exact rfl
def st1 (d:Dg)(a:bD):bD:={a with id:=⟨d,a.id.n⟩}
def st2 (d:Dg)(a:bD):bD:=if a.kind≠7 then{a with file:=cr a.file d}else a
def KB (d:Dg)(a:bD):bD:=if a.kind=2 then{a with parent:=cr a.parent d}else a
def KC (d:Dg)(a:bD):bD:=if a.kind=6 then{a with fr:=cr a.fr d,to:=cr a.to d}else a
def Wt (d:Dg)(l:List bg):List bg:=(l.map λx=>cr x d).foldl qh []
def Zy (d:Dg)(a:bD):bD:={a with over:=Wt d a.over}
def fU (d:Dg)(a:bD):bD:=Zy d (KC d (KB d (st2 d (st1 d a))))
theorem Jg (d:Dg)(a:bD):(st2 d a).over=a.over:=by unfold st2;split<;>rfl
theorem Jh (d:Dg)(a:bD):(KB d a).over=a.over:=by unfold KB;split<;>rfl
theorem Ji (d:Dg)(a:bD):(KC d a).over=a.over:=by unfold KC;split<;>rfl
theorem Rw (l:List bg)(x:bg):(qh l x).length<=l.length+1:=by
 induction l with
 |nil=>simp[qh]
 |cons y l ih=>unfold qh;split;simp only[aL];omega;split<;>simp
theorem Aa:∀(l acc:List bg),(l.foldl qh acc).length<=acc.length+l.length
 |[],acc=>by simp
 |x::l,acc=>by have h1:=Aa l (qh acc x);have h2:=Rw acc x;simp only[eR,aL];omega
theorem Wu (d:Dg)(l:List bg):(Wt d l).length<=l.length:=by have :=Aa (l.map λx=>cr x d) [];simpa[Wt]using this
theorem abO (d:Dg){l:List bg}{k:Nat}(h:k<l.length):Wt d (l.take (k+1))=qh (Wt d (l.take k)) (cr l[k] d):=by unfold Wt;rw[cq h,tF];rfl
def dJ (p:ga):List bD×Int:=if(oe p).2≠0 then([],(oe p).2)else((dw p).1.map (fU (oe p).1),0)
theorem abP (p:ga)(hz:SS p)(hx:Ub p->OkX (kE p))(hL:(dw p).1.length<=2^30)(hO:∀a,a∈(dw p).1->a.over.length<=2^20):ak C 51 [.agg (cP p)] (λr=>r=.val (Ws (dJ p))):=by
 refine dM [13,15,17] Tryz.func51 rfl rfl rfl ?_;refine cl (Uc p hz hx).cut ?_;unfold dJ;generalize oe p=i;refine cF (λh=>?_) (λh=>?_);rw[af h];exact rfl;rw[aa λg=>g h];refine cl (Rv p hz).cut ?_;generalize dw p=X at hL hO⊢;obtain⟨L,e0⟩:=X;obtain⟨d,e1⟩:=i;have hL:L.length<=2^30:=hL;have hO:∀a,a∈L->a.over.length<=2^20:=hO;show _;refine bu 94 (λk:Nat=>[(4,.ptr 4 0),(6,.p (.sl (L.map cA))),(8,.eH 27 48 172 (((L.take k).map (fU d)).map cA)),(9,.p (.int .i64 k))]) (λ_=>[(4,aH (cD d))]) (λk=>k<=L.length) (λk=>L.length-k) 0 (zL) rfl wS oS ?_;intro k hk;refine bQ (l:=L) (f:=cA) (λhlt=>?_) (λhge=>?_);rotate_left;obtain rfl:k=L.length:=oO
 rw[aJ];exact rfl;obtain⟨a,hq⟩:∃a,L[k]=a:=⟨_,rfl⟩;have ho:a.over.length<=2^20:=by rw[<-hq];exact hO _ (aK _)
 have iX:(L.map cA)[((k:Nat):Int).toNat]?=some (cA a):=by rw[<-hq];exact ct rfl hlt
 have amP:(fU d a).over=Wt d a.over:=by unfold fU Zy;show Wt d (KC d (KB d (st2 d (st1 d a)))).over=_;rw[Ji,Jh,Jg];rfl
 refine⟨oO,_,iX,rfl,?_⟩;have hfull:fU d a=Zy d (KC d (KB d (st2 d {a with id:=⟨d,a.id.n⟩}))):=rfl;have AN:({a with id:=⟨d,a.id.n⟩}:bD).over=a.over:=rfl;refine share (T:=?T2) (λH2=>?m2) ?r2;case m2=>refine cF (λh7=>?_) (λh7=>?_);refine cl (zZ a.file d).cut ?_;have e2:st2 d {a with id:=⟨d,a.id.n⟩}={a with id:=⟨d,a.id.n⟩,file:=cr a.file d}:=af h7;have Pz:=hfull;rw[e2]at Pz;refine dL 94 [(4,.ptr 4 0),(6,.p (.sl (L.map cA))),(8,.eH 27 48 172 (((L.take k).map (fU d)).map cA)),(9,.p (.int .i64 (k:Int))),(10,.ptr 10 0)] [(4,aH (cD d)),(10,aH (cA ({a with id:=⟨d,a.id.n⟩,file:=cr a.file d})))] rfl wS oS ?_;have Ld:({a with id:=⟨d,a.id.n⟩,file:=cr a.file d}:bD).over=a.over:=AN;generalize hb:({a with id:=⟨d,a.id.n⟩,file:=cr a.file d}:bD)=a2 at Pz Ld⊢;clear hb;revert a2;exact H2.out;have e2:st2 d {a with id:=⟨d,a.id.n⟩}={a with id:=⟨d,a.id.n⟩}:=aa (λg=>g h7);have Pz:=hfull;rw[e2]at Pz;refine dL 94 [(4,.ptr 4 0),(6,.p (.sl (L.map cA))),(8,.eH 27 48 172 (((L.take k).map (fU d)).map cA)),(9,.p (.int .i64 (k:Int))),(10,.ptr 10 0)] [(4,aH (cD d)),(10,aH (cA ({a with id:=⟨d,a.id.n⟩})))] rfl wS oS ?_;have Ld:({a with id:=⟨d,a.id.n⟩}:bD).over=a.over:=AN;generalize hb:({a with id:=⟨d,a.id.n⟩}:bD)=a2 at Pz Ld⊢;clear hb;revert a2;exact H2.out
 case r2=>
  intro a2 hfull AN;refine share (T:=?T3) (λH3=>?m3) ?r3;case m3=>refine aA (λh7=>?_) (λh7=>?_);refine cl (zZ a2.parent d).cut ?_;have e2:KB d a2={a2 with parent:=cr a2.parent d}:=af h7;have Pz:=hfull;rw[e2]at Pz;refine dL 94 [(4,.ptr 4 0),(6,.p (.sl (L.map cA))),(8,.eH 27 48 172 (((L.take k).map (fU d)).map cA)),(9,.p (.int .i64 (k:Int))),(10,.ptr 10 0)] [(4,aH (cD d)),(10,aH (cA ({a2 with parent:=cr a2.parent d})))] rfl wS oS ?_;have Ld:({a2 with parent:=cr a2.parent d}:bD).over=a.over:=AN;generalize hb:({a2 with parent:=cr a2.parent d}:bD)=a3 at Pz Ld⊢;clear hb;revert a3;exact H3.out;have e2:KB d a2=a2:=aa h7;have Pz:=hfull;rw[e2]at Pz;refine dL 94 [(4,.ptr 4 0),(6,.p (.sl (L.map cA))),(8,.eH 27 48 172 (((L.take k).map (fU d)).map cA)),(9,.p (.int .i64 (k:Int))),(10,.ptr 10 0)] [(4,aH (cD d)),(10,aH (cA (a2)))] rfl wS oS ?_;have Ld:(a2:bD).over=a.over:=AN;generalize hb:(a2:bD)=a3 at Pz Ld⊢;clear hb;revert a3;exact H3.out
  case r3=>
   intro a3 hfull AN;refine share (T:=?T4) (λH4=>?m4) ?r4;case m4=>refine aA (λh7=>?_) (λh7=>?_);refine cm 9 kK ?_;refine⟨_,(zZ a3.fr d).cut,?_⟩;refine⟨_,(zZ a3.to d).cut,?_⟩;have e2:KC d a3={a3 with fr:=cr a3.fr d,to:=cr a3.to d}:=af h7;have Pz:=hfull;rw[e2]at Pz;refine dL 94 [(4,.ptr 4 0),(6,.p (.sl (L.map cA))),(8,.eH 27 48 172 (((L.take k).map (fU d)).map cA)),(9,.p (.int .i64 (k:Int))),(10,.ptr 10 0)] [(4,aH (cD d)),(10,aH (cA ({a3 with fr:=cr a3.fr d,to:=cr a3.to d})))] rfl wS oS ?_;have Ld:({a3 with fr:=cr a3.fr d,to:=cr a3.to d}:bD).over=a.over:=AN;generalize hb:({a3 with fr:=cr a3.fr d,to:=cr a3.to d}:bD)=a4 at Pz Ld⊢;clear hb;revert a4;exact H4.out;have e2:KC d a3=a3:=aa h7;have Pz:=hfull;rw[e2]at Pz;refine dL 94 [(4,.ptr 4 0),(6,.p (.sl (L.map cA))),(8,.eH 27 48 172 (((L.take k).map (fU d)).map cA)),(9,.p (.int .i64 (k:Int))),(10,.ptr 10 0)] [(4,aH (cD d)),(10,aH (cA (a3)))] rfl wS oS ?_;have Ld:(a3:bD).over=a.over:=AN;generalize hb:(a3:bD)=a4 at Pz Ld⊢;clear hb;revert a4;exact H4.out
   case r4=>
    intro a4 hfull AN;refine bu 94 (λj:Nat=>[(4,.ptr 4 0),(6,.p (.sl (L.map cA))),(8,.eH 27 48 172 (((L.take k).map (fU d)).map cA)),(9,.p (.int .i64 (k:Int))),(10,.ptr 10 0),(11,.p (.sl (iq (Wt d (a4.over.take j))))),(12,.p (.int .i64 (j:Int)))]) (λ_=>[(4,aH (cD d)),(10,aH (cA a4))]) (λj=>j<=a4.over.length) (λj=>a4.over.length-j) 0 (zL) rfl ⟨aF.refl _,aF.refl _,aF.refl _,aF.refl _,aF.refl _,aF.Gp _ _ _ _,aF.refl _,trivial⟩ oS ?_;intro j hj;have Ua:a4.over.length<=2^20:=by rw[AN];exact ho
    refine bQ (l:=a4.over) (f:=cI) (λdI=>?_) (λtA=>?_);have hsn:=abO d dI;have hln:(Wt d (a4.over.take j)).length<=2^20:=by have :=Wu d (a4.over.take j);rw[aD]at this;omega
    refine cm 8 kK ?_;refine ix dI ?_;refine⟨_,(zZ a4.over[j] d).cut,?_⟩;refine⟨_,(Wf (Wt d (a4.over.take j)) (cr a4.over[j] d) hln).cut,λr hr=>?_⟩;rw[<-hsn]at hr;subst hr;exact nx (j+1) (aO (j+1) dI oO rfl wS oS);obtain rfl:j=a4.over.length:=oO
    rw[aJ];refine⟨jk,jk (l:=[Zy d a4]),by show((((L.take k).map (fU d)).map cA).length+1)*296<=_;rw[aj,aj,aD];omega,((L.take (k+1)).map (fU d)).map cA,by rw[cq hlt,hq,hfull,<-TY];rfl,?_⟩;exact nx (k+1) (aO (k+1) hlt oO rfl wS oS)
def xU (out:List Dg)(x:bg):List Dg:=if x.p=bF then out else jw out x.p
def refsOf (c:eG):List bg:=[c.file,c.parent,c.dm,c.dG]++c.over
def cw (p:ga):List Dg:=if(oB p).2≠0 then[]else(p.changes.flatMap refsOf).foldl xU (p.deps.foldl jw [])
theorem Rx (l:List Dg)(x:Dg):(jw l x).length<=l.length+1:=by
 induction l with
 |nil=>simp[jw]
 |cons y l ih=>unfold jw;split;simp only[aL];omega;split<;>simp
theorem nE:∀(l acc:List Dg),(l.foldl jw acc).length<=acc.length+l.length
 |[],acc=>by simp
 |x::l,acc=>by have h1:=nE l (jw acc x);have h2:=Rx acc x;simp only[eR,aL];omega
theorem abQ (l:List Dg)(x:bg):(xU l x).length<=l.length+1:=by unfold xU;split;omega;exact Rx l x.p
theorem qq:∀(l:List bg)(acc:List Dg),(l.foldl xU acc).length<=acc.length+l.length
 |[],acc=>by simp
 |x::l,acc=>by have h1:=qq l (xU acc x);have h2:=abQ acc x;simp only[eR,aL];omega
theorem gx {α β:Type}{f:β->α->β}{l:List α}{k:Nat}(h:k<l.length)(acc:β):(l.take (k+1)).foldl f acc=f ((l.take k).foldl f acc) l[k]:=by rw[<-dn h,tF];rfl
theorem ja {α β:Type}{f:α->List β}{l:List α}{k:Nat}(h:k<l.length):(l.take (k+1)).flatMap f=(l.take k).flatMap f++f l[k]:=by rw[<-dn h,oc];simp
theorem On {p:ga}(h:(oB p).2=0):Ub p/\oB p=(eX (kE p),0):=by unfold oB at h⊢;by_cases h1:(dw p).2≠0;rw[af h1]at h;exact absurd h h1;rw[aa h1]at h⊢;refine⟨va (by simpa using h1),?_⟩;by_cases h2:(eX (kE p)).length<=65536;rw[af h2];rw[aa h2]at h;exact absurd h dD
theorem Ab {p:ga}(h:Ub p):p.deps.length<=100:=by have :=h.deps;unfold mZ at this;by_cases g:100<p.deps.length;rw[af g]at this;exact absurd this dD;omega
theorem Jj {p:ga}(h:Ub p){c:eG}(hc:c∈p.changes):c.over.length<=400:=by obtain⟨g1,g2,-,g4,g5,-⟩:=gw (h.each c hc);by_cases e:c.kind=5;rw[(qZ g5 g1 g2).1 e];exact zL;exact g4 e
theorem Jk {p:ga}(h:Ub p){c:eG}(hc:c∈p.changes):(refsOf c).length<=404:=by have :=Jj h hc;simp only[refsOf,aq,aL,br];omega
theorem Jl {p:ga}(h:Ub p):∀k,k<=p.changes.length->((p.changes.take k).flatMap refsOf).length<=404*k|0,_=>ay _|k+1,hk=>by rw[ja hk,aq];have h1:=Jl h k oO;have h2:=Jk h (aK hk);omega
theorem DP (p:ga)(hz:SS p)(hx:Ub p->OkX (kE p)):ak C 69 [.agg (cP p)] (λr=>r=.val (.sl (jo (cw p)))):=by
 refine ag Tryz.func69 rfl rfl rfl ?_;refine cl (Yg p hz hx) ?_;unfold cw;refine cF (λh=>?_) (λh=>?_);rw[af h];exact .inr rfl;have h:(oB p).2=0:=h;rw[aa λg=>g h];have ho:=(On h).1;have hdl:=Ab ho;have jH:=ho.changes.2;refine bu 73 (λk:Nat=>[(1,.ptr 1 0),(3,.p (.sl (jo ((p.deps.take k).foldl jw [])))),(4,.p (.int .i64 (k:Int)))]) (λ_=>[(1,aH (cP p))]) (λk=>k<=p.deps.length) (λk=>p.deps.length-k) 0 (zL) rfl ⟨aF.refl _,aF.Gp _ _ _ _,aF.refl _,trivial⟩ oS ?_;intro k hk;refine bQ (l:=p.deps) (f:=cD) (λhlt=>?_) (λhge=>?_);have hb:((p.deps.take k).foldl jw []).length<=2^20:=by have :=nE (p.deps.take k) [];rw[aD]at this;simp only[br]at this;omega
 refine ix hlt ?_;refine⟨_,DO _ p.deps[k] hb,λr hr=>?_⟩;rw[<-gx (f:=jw) hlt []]at hr;subst hr;exact nx (k+1) (aO (k+1) hlt oO rfl wS oS);obtain rfl:k=p.deps.length:=oO
 rw[aJ];have hbase:=nE p.deps [];simp only[br]at hbase;generalize p.deps.foldl jw []=base at hbase⊢;refine bu 73 (λk:Nat=>[(1,.ptr 1 0),(3,.p (.sl (jo (((p.changes.take k).flatMap refsOf).foldl xU base)))),(5,.p (.int .i64 (k:Int)))]) (λ_=>[(1,aH (cP p))]) (λk=>k<=p.changes.length) (λk=>p.changes.length-k) 0 (zL) rfl wS oS ?_;intro k hk2;refine bQ (l:=p.changes) (f:=cC) (λhlt=>?_) (λhge=>?_);rotate_left;obtain rfl:k=p.changes.length:=oO
 rw[aJ];exact rfl;have hm:=aK hlt;have AN:=Jj ho hm;have hfl:=Jl ho k oO;have hrl:=Jk ho hm;have hout:=qq ((p.changes.take k).flatMap refsOf) base;have hnext:((p.changes.take (k+1)).flatMap refsOf).foldl xU base=(refsOf p.changes[k]).foldl xU (((p.changes.take k).flatMap refsOf).foldl xU base):=by rw[ja hlt,tF]
 refine ix hlt ?_;generalize hc:p.changes[k]=c at*;generalize((p.changes.take k).flatMap refsOf).foldl xU base=out at*;refine⟨fB (l:=[c.file,c.parent,c.dm,c.dG]),fB,by show(4+(c.over.map cI).length)*40<=_;rw[aj];omega,(refsOf c).map cI,rfl,?_⟩;refine bu 73 (λj:Nat=>[(1,.ptr 1 0),(3,.p (.sl (jo (((refsOf c).take j).foldl xU out)))),(5,.p (.int .i64 (k:Int))),(7,.eH 48 33 33 ((refsOf c).map cI)),(8,.p (.int .i64 (j:Int)))]) (λ_=>[(1,aH (cP p))]) (λj=>j<=(refsOf c).length) (λj=>(refsOf c).length-j) 0 (zL) rfl wS oS ?_;intro j hj;refine bQ (l:=refsOf c) (f:=cI) (λdI=>?_) (λtA=>?_);have Ua:=qq ((refsOf c).take j) out;rw[aD]at Ua;have hs:=gx (f:=xU) dI out;refine ix dI ?_;refine cl (xL (refsOf c)[j].p) ?_;refine bl ?_;by_cases hz0:(refsOf c)[j].p=bF;rw[an hz0];rw[xU,af hz0]at hs;exact nx (j+1) (aO (j+1) dI oO rfl ⟨aF.refl _,aF.eq (by rw[hs];rfl),aF.refl _,aF.refl _,aF.refl _,trivial⟩ oS);rw[ah hz0];rw[xU,aa hz0]at hs;refine ix dI ?_;refine⟨_,DO _ (refsOf c)[j].p oO,λr hr=>?_⟩;rw[<-hs]at hr;subst hr;exact nx (j+1) (aO (j+1) dI oO rfl wS oS);obtain rfl:j=(refsOf c).length:=oO
 rw[aJ];exact nx (k+1) (aO (k+1) hlt oO rfl ⟨aF.refl _,aF.eq (by rw[hnext];rfl),aF.refl _,trivial⟩ oS)
theorem Ud {c:eG}(h:dc c=0)(f:Nat):∀a,a∈fc c f->a.over.length<=400:=by
 obtain⟨g1,g2,-,g4,g5,-⟩:=gw h;have AN:c.over.length<=400:=by by_cases e:c.kind=5;rw[(qZ g5 g1 g2).1 e];exact zL;exact g4 e
 intro a ha;unfold fc at ha;by_cases e:c.kind=5;rw[af e]at ha;rcases bh.1 ha with ha|ha;obtain⟨i,-,rfl⟩:=aI.1 ha;exact zL;obtain⟨i,-,rfl⟩:=aI.1 ha;exact zL;rw[aa e]at ha;obtain rfl:=aS.1 ha;unfold od;repeat' split
 all_goals first|exact AN|exact zL
theorem Ac:∀(l:List eG)(own:List bD),(∀a,a∈own->a.over.length<=400)->(ic l own).1.length<=own.length+4001*l.length/\∀a,a∈(ic l own).1->a.over.length<=400
 |[],own,h=>⟨ay _,h⟩
 |c::l,own,h=>by
  rw[jM];by_cases h1:dc c≠0;rw[af h1];exact⟨zL,λa ha=>by cases ha⟩;rw[aa h1];by_cases h2:mY c own≠0;rw[af h2];exact⟨zL,λa ha=>by cases ha⟩;rw[aa h2];have h1:dc c=0:=by simpa using h1
  obtain⟨g1,g2⟩:=Ac l (own++fc c own.length) λa ha=>by rcases bh.1 ha with ha|ha;exact h a ha;exact Ud h1 _ a ha
  refine⟨?_,g2⟩;have :=DN h1 own.length;simp only[aq,aL]at g1⊢;omega
theorem LY:∀(l:List eG)(own:List bD),(ic l own).2≠0->(ic l own).1=[]|[],own,h=>absurd rfl h|c::l,own,h=>by rw[jM]at h⊢;by_cases h1:dc c≠0;rw[af h1];rw[aa h1]at h⊢;by_cases h2:mY c own≠0;rw[af h2];rw[aa h2]at h⊢;exact LY l _ h
theorem Ue {p:ga}(h:(dw p).2≠0):(dw p).1=[]:=by unfold dw at h⊢;by_cases h1:iC p.eW=false;rw[af h1];rw[aa h1]at h⊢;by_cases h2:1000<p.message.length;rw[af h2];rw[aa h2]at h⊢;by_cases h3:p.time<0\/1099511627776<p.time;rw[af h3];rw[aa h3]at h⊢;by_cases h4:mZ p.deps≠0;rw[af h4];rw[aa h4]at h⊢;by_cases h5:p.changes.length=0;rw[af h5];rw[aa h5]at h⊢;by_cases h6:400<p.changes.length;rw[af h6];rw[aa h6]at h⊢;exact LY _ _ h
theorem kG (p:ga):(dw p).1.length<=2^22/\∀a,a∈(dw p).1->a.over.length<=400:=by
 by_cases h:(dw p).2=0;have ho:=va h;rw[ho.all];obtain⟨g1,g2⟩:=Ac p.changes [] λa ha=>by cases ha
 refine⟨?_,g2⟩;have :=ho.changes.2;simp only[br]at g1;omega;have :(dw p).1=[]:=Ue h;rw[this];exact⟨zL,λa ha=>by cases ha⟩
structure DQ (p:ga):Prop where
 sz:SS p
 enc:Ub p->OkX (kE p)
theorem Ft (p:ga)(h:DQ p):ak C 51 [.agg (cP p)] (λr=>r=.val (Ws (dJ p))):=abP p h.sz h.enc (by have :=(kG p).1;omega) λa ha=>by have :=(kG p).2 a ha;omega
structure qH (s:List bO):Prop where
 len:s.length<=2^47
 each:∀x,x∈s->DQ x.pat
def DR:ga:=⟨[],[],0,[],[]⟩
theorem abR:DQ DR:=⟨⟨zL,zL,zL,zL,λc h=>by cases h⟩,λh=>absurd h.name dD⟩
theorem Oo (l:List Dg)(x:Dg)(hl:l.length<=2^47):ak C 100 [.sl (jo l),.agg (cD x)] (λr=>r=.val (.bool (decide (x∈l)))):=by
 unfold jo;refine ag Tryz.func100 rfl rfl rfl ?_;refine bu 18 (λk:Nat=>[(0,.p (.sl (l.map cD))),(3,.ptr 3 0),(5,.p (.int .i64 k))]) (λ_=>[(3,aH (cD x))]) (λk=>k<=l.length/\x∉l.take k) (λk=>l.length-k) 0 ⟨zL,by simp⟩ rfl wS oS ?_;rintro k ⟨hk,hn⟩;refine bQ (λhlt=>?_) (λhge=>?_);refine cm 5 kK ?_;refine ix hlt ?_;refine⟨yX,dQ,lq,rfl,rfl,?_⟩;refine IQ (a:=l[k]) (b:=x) ?_;by_cases h:l[k]=x;rw[an h];have :x∈l:=h▸aK hlt;show cQ.val (.bool true)=_;simp[this];rw[ah h];exact nx (k+1) (aO (k+1) ⟨hlt,xO hlt hn h⟩ oO rfl wS oS);have :x∉l:=by rw[ck oO]at hn;exact hn
 show cQ.val (.bool false)=_;simp[this]
def gh:List bO->Dg->ga×Bool|[],_=>(DR,false)|x::s,d=>if x.id=d then(x.pat,true)else gh s d
def aly (x:ga×Bool):AV:=.eV [.agg (cP x.1),.bool x.2]
theorem Yh {s:List bO}{k:Nat}(h:k<s.length)(d:Dg):gh (s.drop k) d=if s[k].id=d then(s[k].pat,true)else gh (s.drop (k+1)) d:=by rw[bL h];rfl
theorem Ad:∀{s:List bO}(h:∀x,x∈s->DQ x.pat)(d:Dg),DQ (gh s d).1|[],_,_=>abR|x::s,h,d=>by unfold gh;split;exact h x (by simp);exact Ad (λy hy=>h y (by simp[hy])) d
theorem DS (s:List bO)(d:Dg)(hl:s.length<=2^47):ak C 85 [.sl (cn s),.agg (cD d)] (λr=>r=.val (aly (gh s d))):=by unfold cn;refine ag Tryz.func85 rfl rfl rfl ?_;refine bu 26 (λk:Nat=>[(0,.p (.sl (s.map mh))),(3,.ptr 3 0),(4,.ptr 4 0),(6,.p (.int .i64 k))]) (λ_=>[(3,aH (cD d)),(4,[.p (.str []),.p (.str []),.p (.int .i64 0),.full [],.full []])]) (λk=>k<=s.length/\gh s d=gh (s.drop k) d) (λk=>s.length-k) 0 ⟨zL,rfl⟩ rfl wS oS ?_;rintro k ⟨hk,hE⟩;refine bQ (λhlt=>?_) (λhge=>?_);rw[Yh hlt]at hE;refine cm 6 kK ?_;refine ix hlt ?_;refine⟨yX,dQ,lq,rfl,rfl,?_⟩;refine IQ (a:=s[k].id) (b:=d) ?_;by_cases h:s[k].id=d;rw[an h];rw[af h]at hE;refine ix hlt ?_;rw[hE];exact rfl;rw[ah h];rw[aa h]at hE;exact nx (k+1) (aO (k+1) ⟨hlt,hE⟩ oO rfl wS oS);rw[cU oO]at hE;rw[hE];exact rfl
def dx (s:List bO):List Dg:=s.map λx=>x.id
theorem Jm (s:List bO)(hl:s.length<=2^40):ak C 67 [.sl (cn s)] (λr=>r=.val (.sl (jo (dx s)))):=by
 unfold cn jo dx;refine ag Tryz.func67 rfl rfl rfl ?_;refine bu 21 (λk:Nat=>[(0,.p (.sl (s.map mh))),(3,.eH 5 31 32 (((s.take k).map λx=>x.id).map cD)),(4,.p (.int .i64 k))]) (λ_=>[]) (λk=>k<=s.length) (λk=>s.length-k) 0 (zL) rfl wS trivial ?_;intro k hk;refine bQ (λhlt=>?_) (λhge=>?_);refine ix hlt ?_;refine⟨mV,mV (l:=[s[k].id]),by show((((s.take k).map λx=>x.id).map cD).length+1)*32<=_;rw[aj,aj,aD];omega,((s.take (k+1)).map λx=>x.id).map cD,by rw[cq hlt,aM];rfl,?_⟩;exact nx (k+1) (aO (k+1) hlt oO rfl wS trivial);obtain rfl:k=s.length:=oO
 rw[aJ];exact .inr rfl
def sn (l some:List Dg):Bool:=some.all λx=>decide (x∈l)
theorem Oq (l some:List Dg)(hl:l.length<=2^47)(hs:some.length<=2^47):ak C 68 [.sl (jo l),.sl (jo some)] (λr=>r=.val (.bool (sn l some))):=by
 refine ag Tryz.func68 rfl rfl rfl ?_;refine bu 19 (λk:Nat=>[(0,.p (.sl (jo l))),(1,.p (.sl (some.map cD))),(5,.p (.int .i64 k))]) (λ_=>[]) (λk=>k<=some.length/\(some.take k).all (λx=>decide (x∈l))=true) (λk=>some.length-k) 0 ⟨zL,rfl⟩ rfl wS trivial ?_;rintro k ⟨hk,hall⟩;refine bQ (λhlt=>?_) (λhge=>?_);refine ix hlt ?_;refine cl (Oo l some[k] hl) ?_;refine bl ?_;cases hv:decide (some[k]∈l)with
 |false=>have :some.all (λx=>decide (x∈l))=false:=Ol hlt hv;show cQ.val _=_;rw[sn,this]
 |true=>exact nx (k+1) (aO (k+1) ⟨hlt,rQ hlt hall hv⟩ oO rfl wS trivial)
 have :some.all (λx=>decide (x∈l))=true:=by rw[ck oO]at hall;exact hall
 show cQ.val _=_;rw[sn,this]
theorem Gz (x:bg)(d:Dg):ak C 137 [.agg (cI x),.agg (cD d)] (λr=>r=.val (.agg (cI (cr x d)))):=by refine ag Tryz.func137 rfl rfl rfl ?_;refine⟨none,?_⟩;unfold cr;refine az (λh2=>?_) (λh2=>?_);refine⟨yX,dQ,lq,rfl,rfl,?_⟩;refine IQ (a:=x.p) (b:=bF) ?_;by_cases h:x.p=bF;rw[an h,af ⟨h,h2⟩];exact rfl;rw[ah h,aa λg=>h g.1];exact rfl;rw[aa λg=>h2 g.2];exact rfl
theorem DT (x:bg):ak C 131 [.agg (cI x)] (λr=>r=.val (.bool (!decide (x.p=bF)))):=by refine ag Tryz.func131 rfl rfl rfl ?_;refine⟨yX,dQ,lq,rfl,rfl,?_⟩;refine Rf (a:=x.p) (b:=bF) ?_;exact rfl
theorem aeX (x:bD):ak C 134 [.agg (cA x)] (λr=>r=.val (.bool (Be x))):=by refine ag Tryz.func134 rfl rfl rfl ?_;refine⟨none,?_⟩;refine aA (λh=>?_) (λh=>?_);refine aA (λh2=>?_) (λh2=>?_);have h:x.kind=1:=h;have h2:x.type=4:=h2;show cQ.val (.bool true)=_;simp[Be,h,h2];have h2:¬x.type=4:=h2;show cQ.val (.bool false)=_;simp[Be,h2];have h:¬x.kind=1:=h;show cQ.val (.bool false)=_;simp[Be,h]
def iy (s:List bO)(x:bg):bD×Bool:=if x.n<0\/((dJ (gh s x.p).1).1.length:Int)<=x.n then(ef,false)else((dJ (gh s x.p).1).1.getD x.n.toNat ef,true)
def atR (x:bD×Bool):AV:=.eV [.agg (cA x.1),.bool x.2]
theorem BX (p:ga):(dJ p).1.length<=2^22:=by unfold dJ;by_cases h:(oe p).2≠0;rw[af h];exact zL;rw[aa h];show((dw p).1.map _).length<=_;rw[aj];exact(kG p).1
theorem DU (s:List bO)(x:bg)(hs:qH s):ak C 132 [.sl (cn s),.agg (cI x)] (λr=>r=.val (atR (iy s x))):=by
 have hfit:=Ad hs.each x.p;refine ag Tryz.func132 rfl rfl rfl ?_;refine cl (DS s x.p hs.len) ?_;refine cl (Ft _ hfit) ?_;unfold iy;have hlen:=BX (gh s x.p).1;generalize dJ (gh s x.p).1=X at hlen⊢;obtain⟨L,e⟩:=X;have hlen:L.length<=2^22:=hlen;refine⟨none,?_⟩;refine az (λh1=>?_) (λh1=>az (λh2=>?_) (λh2=>?_));rw[af (show x.n<0\/(L.length:Int)<=x.n from .inl h1)];exact rfl;have h2:x.n≥(((eU L).length:Nat):Int):=h2;simp only[eU,aj]at h2;rw[af (show x.n<0\/(L.length:Int)<=x.n from .inr h2)];exact rfl;have h2:¬x.n≥(((eU L).length:Nat):Int):=h2;have h1:¬x.n<0:=h1;simp only[eU,aj]at h2;rw[aa (show¬(x.n<0\/(L.length:Int)<=x.n)by omega)];obtain⟨n,hn⟩:=gu (show 0<=x.n by omega);have hlt:n<L.length:=oO
 have hg:L.getD x.n.toNat ef=L[n]:=by rw[hn];simp[List.getD,hlt]
 show _;refine⟨oO,_,by rw[hn];exact ct (l:=L) (f:=cA) rfl hlt,rfl,?_⟩;rw[hg];exact rfl
def Uf (s:List bO)(x file:bg)(d:Dg):Int:=if x.p=bF\/x=file then 0 else if(iy s x).2=false then 7 else if lI (cr file d) (iy s x).1=false then 8 else 0
theorem Wv (s:List bO)(x file:bg)(d:Dg)(hs:qH s):ak C 135 [.sl (cn s),.agg (cI x),.agg (cI file),.agg (cD d)] (λr=>r=.val (.int .i64 (Uf s x file d))):=by
 refine dM [3] Tryz.func135 rfl rfl rfl ?_;refine⟨none,?_⟩;refine cl (DT x).cut ?_;unfold Uf;refine bl ?_;by_cases hz:x.p=bF;rw[af (.inl hz),an hz];exact rfl;rw[ah hz];refine ou ?_;refine iu (a:=x) (b:=file) ?_;by_cases hf:x=file;rw[af (.inr hf),an hf];exact rfl;rw[aa (show¬(x.p=bF\/x=file)fromλg=>g.elim hz hf),ah hf];refine dL 33 [(0,.p (.sl (cn s))),(5,.ptr 5 0),(6,.ptr 6 0),(7,.ptr 7 0)] [(5,aH (cI x)),(6,aH (cI file)),(7,aH (cD d))] rfl wS oS ?_;refine cl (DU s x hs).cut ?_;generalize iy s x=X;obtain⟨a,is⟩:=X;refine bl ?_;cases is with
 |false=>exact rfl
 |true=>
  rw[aa (show¬true=false by decide)];refine cm 4 kK ?_;refine⟨_,(Gz file d).cut,?_⟩;refine cl (Ja (cr file d) a).cut ?_;refine bl ?_;cases hq:lI (cr file d) a with
  |false=>rw[af rfl];exact rfl
  |true=>rw[aa (show¬true=false by decide)];exact rfl
def Yi (s:List bO)(c:eG)(d:Dg)(x:bg):Int:=if x.p=bF then 0 else if(iy s x).2=false then 7 else if fG c.kind (cr c.file d) (iy s x).1=false then 8 else 0
def Zz (s:List bO)(c:eG)(d:Dg):Int:=eo ((if c.file.p=bF then 0 else if(iy s c.file).2=false then 7 else if er c.kind (iy s c.file).1=false then 8 else 0)::(if c.parent.p=bF then 0 else if(iy s c.parent).2=false then 7 else if Be (iy s c.parent).1=false then 8 else 0)::Uf s c.dm c.file d::Uf s c.dG c.file d::(c.over.map (Yi s c d)++[]))
theorem ahk (s:List bO)(c:eG)(d:Dg)(hs:qH s)(ho:c.over.length<=2^47):ak C 104 [.sl (cn s),.agg (cC c),.agg (cD d)] (λr=>r=.val (.int .i64 (Zz s c d))):=by
 obtain⟨E,hE⟩:∃E,Zz s c d=E:=⟨_,rfl⟩;rw[hE];have hE:E=Zz s c d:=hE.symm;unfold Zz at hE;refine dM [7,13] Tryz.func104 rfl rfl rfl ?_;refine cl (DT c.file).cut ?_;refine share (T:=?T1) (λH1=>?m1) ?r1;case m1=>
  by_cases hz:c.file.p=bF;rw[af hz,eZ rfl]at hE;rw[an hz];refine dL 103 [(0,.p (.sl (cn s))),(4,.ptr 4 0),(5,.ptr 5 0)] [(4,aH (cC c)),(5,aH (cD d))] rfl wS oS ?_;revert hE;exact H1.out;rw[aa hz]at hE;rw[ah hz];refine cl (DU s c.file hs).cut ?_;generalize iy s c.file=X at hE⊢;obtain⟨x,is⟩:=X;refine bl ?_;cases is with
  |false=>rw[af rfl,eu dD]at hE;rw[hE];exact rfl
  |true=>
   rw[aa (show¬true=false by decide)]at hE;refine cl (Gy c.kind x).cut ?_;refine bl ?_;cases hf:er c.kind x with
   |false=>rw[af hf,eu dD]at hE;rw[hE];exact rfl
   |true=>rw[aa (by rw[hf];decide),eZ rfl]at hE;refine dL 103 [(0,.p (.sl (cn s))),(4,.ptr 4 0),(5,.ptr 5 0)] [(4,aH (cC c)),(5,aH (cD d))] rfl wS oS ?_;revert hE;exact H1.out
 case r1=>
  intro hE;refine cl (DT c.parent).cut ?_;refine share (T:=?T2) (λH2=>?m2) ?r2;case m2=>
   by_cases hz:c.parent.p=bF;rw[af hz,eZ rfl]at hE;rw[an hz];refine dL 103 [(0,.p (.sl (cn s))),(4,.ptr 4 0),(5,.ptr 5 0)] [(4,aH (cC c)),(5,aH (cD d))] rfl wS oS ?_;revert hE;exact H2.out;rw[aa hz]at hE;rw[ah hz];refine cl (DU s c.parent hs).cut ?_;generalize iy s c.parent=X at hE⊢;obtain⟨x,is⟩:=X;refine bl ?_;cases is with
   |false=>rw[af rfl,eu dD]at hE;rw[hE];exact rfl
   |true=>
    rw[aa (show¬true=false by decide)]at hE;refine cl (aeX x).cut ?_;refine bl ?_;cases hf:Be x with
    |false=>rw[af hf,eu dD]at hE;rw[hE];exact rfl
    |true=>rw[aa (by rw[hf];decide),eZ rfl]at hE;refine dL 103 [(0,.p (.sl (cn s))),(4,.ptr 4 0),(5,.ptr 5 0)] [(4,aH (cC c)),(5,aH (cD d))] rfl wS oS ?_;revert hE;exact H2.out
  case r2=>
   intro hE;refine cl (Wv s c.dm c.file d hs).cut ?_;refine cF (λh=>?_) (λh=>?_);rw[hE,eu h];exact rfl;rw[eZ h]at hE;refine cl (Wv s c.dG c.file d hs).cut ?_;refine cF (λh=>?_) (λh=>?_);rw[hE,eu h];exact rfl;rw[eZ h]at hE;refine bu 103 (λk:Nat=>[(0,.p (.sl (cn s))),(4,.ptr 4 0),(5,.ptr 5 0),(13,.p (.int .i64 k))]) (λ_=>[(4,aH (cC c)),(5,aH (cD d))]) (λk=>k<=c.over.length/\E=eo ((c.over.drop k).map (Yi s c d)++[])) (λk=>c.over.length-k) 0 ⟨zL,hE⟩ rfl wS oS ?_;rintro k ⟨hk,hE⟩;refine bQ (l:=c.over) (f:=cI) (λhlt=>?_) (λhge=>?_);rotate_left;rw[cU oO]at hE;rw[hE];exact rfl;rw[oP hlt]at hE;have next:Yi s c d c.over[k]=0->k+1<=c.over.length/\E=eo ((c.over.drop (k+1)).map (Yi s c d)++[]):=λh=>⟨hlt,by rw[hE,eZ h]⟩;refine ix hlt ?_;refine cl (DT c.over[k]).cut ?_;refine bl ?_;by_cases hz:c.over[k].p=bF
   ·rw[an hz];exact nx (k+1) (aO (k+1) (next (by rw[Yi,af hz])) oO rfl wS oS)
   rw[ah hz];have ev:Yi s c d c.over[k]=if(iy s c.over[k]).2=false then 7 else if fG c.kind (cr c.file d) (iy s c.over[k]).1=false then 8 else 0:=by rw[Yi,aa hz]
   rw[ev]at hE next;refine ix hlt ?_;refine cl (DU s c.over[k] hs).cut ?_;clear ev;generalize iy s c.over[k]=X at hE next⊢;obtain⟨x,is⟩:=X;refine bl ?_;cases is with
   |false=>rw[af rfl,eu dD]at hE;rw[hE];exact rfl
   |true=>
    rw[aa (show¬true=false by decide)]at hE next;refine cm 7 kK ?_;refine⟨_,(Gz c.file d).cut,?_⟩;refine cl (Gx c.kind (cr c.file d) x).cut ?_;refine bl ?_;cases hf:fG c.kind (cr c.file d) x with
    |false=>rw[af hf,eu dD]at hE;rw[hE];exact rfl
    |true=>rw[aa (by rw[hf];decide)]at next;exact nx (k+1) (aO (k+1) (next rfl) oO rfl wS oS)
def vb (s:List bO)(p:ga)(d:Dg):Int:=eo (p.changes.map (λc=>Zz s c d)++[])
theorem Ry (s:List bO)(p:ga)(d:Dg)(hs:qH s)(hp:SS p):ak C 71 [.sl (cn s),.agg (cP p),.agg (cD d)] (λr=>r=.val (.int .i64 (vb s p d))):=by have hl:=hp.len;refine ag Tryz.func71 rfl rfl rfl ?_;refine bu 27 (λk:Nat=>[(0,.p (.sl (cn s))),(4,.ptr 4 0),(5,.ptr 5 0),(7,.p (.int .i64 k))]) (λ_=>[(4,aH (cP p)),(5,aH (cD d))]) (λk=>k<=p.changes.length/\vb s p d=eo ((p.changes.drop k).map (λc=>Zz s c d)++[])) (λk=>p.changes.length-k) 0 ⟨zL,rfl⟩ rfl wS oS ?_;rintro k ⟨hk,hE⟩;refine bQ (l:=p.changes) (f:=cC) (λhlt=>?_) (λhge=>?_);rw[oP hlt]at hE;refine cm 7 kK ?_;refine ix hlt ?_;refine cl (ahk s p.changes[k] d hs (hp.each _ (aK _)).over) ?_;refine cF (λh=>?_) (λh=>?_);rw[hE,eu h];exact rfl;rw[eZ h]at hE;exact nx (k+1) (aO (k+1) ⟨hlt,hE⟩ oO rfl wS oS);rw[cU oO]at hE;rw[hE];exact rfl
def mL:List bO->bO->List bO|[],x=>[x]|y::l,x=>if eY y.id x.id<0 then y::mL l x else x::y::l
theorem Jn:∀(a b:List bO)(x:bO),(∀y,y∈a->eY y.id x.id<0)->mL (a++b) x=a++mL b x|[],b,x,_=>rfl|y::a,b,x,h=>by rw[eB,mL,af (h y (by simp)),Jn a b x λz hz=>h z (by simp[hz])];rfl
theorem aeY {l:List bO}{k:Nat}{x:bO}(hk:k<l.length)(h:∀y,y∈l.take k->eY y.id x.id<0)(h2:¬eY l[k].id x.id<0):mL l x=l.take k++[x]++l.drop k:=by
 have e:l=l.take k++(l[k]::l.drop (k+1)):=by rw[<-bL hk,cT]
 have e2:l.drop k=l[k]::l.drop (k+1):=bL hk;rw[e2];generalize l[k]=y at*;rw[show mL l x=mL (l.take k++(y::l.drop (k+1))) x from by rw[<-e],Jn _ _ _ h,mL,aa h2];simp
theorem abS {l:List bO}{x:bO}(h:∀y,y∈l->eY y.id x.id<0):mL l x=l++[x]:=by have :=Jn l [] x h;rw[aY]at this;exact this
theorem Le {l:List bO}{k:Nat}{x:bO}(hk:k<l.length)(h:∀y,y∈l.take k->eY y.id x.id<0)(h2:eY l[k].id x.id<0):∀y,y∈l.take (k+1)->eY y.id x.id<0:=by intro y hy;rw[<-dn hk,bh,aS]at hy;rcases hy with hy|rfl;exact h y hy;exact h2
theorem xV {l:List bO}:∀zs,zs∈l.map mh->zs.length=37:=by intro zs h;obtain⟨x,-,rfl⟩:=aI.1 h;rfl
theorem aeZ (l:List bO)(x:bO)(hl:l.length<=2^20):ak C 87 [.sl (cn l),.agg (mh x)] (λr=>r=.val (.sl (cn (mL l x)))):=by
 unfold cn;refine dM [4] Tryz.func87 rfl rfl rfl ?_;refine bu 37 (λk:Nat=>[(0,.p (.sl (l.map mh))),(3,.ptr 3 0),(5,.p (.int .i64 k))]) (λ_=>[(3,aH (mh x))]) (λk=>k<=l.length/\∀y,y∈l.take k->eY y.id x.id<0) (λk=>l.length-k) 0 ⟨zL,by simp⟩ rfl wS oS ?_;rintro k ⟨hk,hn⟩;refine share (T:=?T1) (λH1=>?m1) ?r1;case m1=>
  refine cm 12 kK ?_;refine bQ (λhlt=>?_) (λhge=>?_);refine ix hlt ?_;refine cl (pP l[k].id x.id).cut ?_;refine az (λh=>?_) (λh=>?_);exact nx (k+1) (aO (k+1) ⟨hlt,Le hlt hn h⟩ oO rfl wS oS);have hI:=aeY hlt hn h;refine dL 37 [(0,.p (.sl (l.map mh))),(3,.ptr 3 0),(5,.p (.int .i64 (k:Int)))] [(3,aH (mh x))] rfl wS oS ?_;revert hI;exact H1.out;have hI:mL l x=l.take k++[x]++l.drop k:=by rw[ck oO]at hn⊢;rw[cU oO,aY];exact abS hn
  refine dL 37 [(0,.p (.sl (l.map mh))),(3,.ptr 3 0),(5,.p (.int .i64 (k:Int)))] [(3,aH (mh x))] rfl wS oS ?_;revert hI;exact H1.out
 case r1=>intro hI;rw[hI];refine⟨.plan ⟨[5,6],[4,7],[],[3]⟩ (.one 0 (.one 1 (.one 2 (.one 3 (.one 5 (.one 6 (.alt 4 (.alt 7 (.one 8 .fin) .stop) .stop))))))) none,kK,?_⟩;refine⟨_,rfl,?_⟩;refine⟨_,rfl,?_⟩;refine⟨_,rfl,?_⟩;refine⟨.p (.sl ((l.take k).map mh)),⟨k,rfl,zL,by rw[aj];exact hk,xV,(l.take k).map mh,by simp[me],rfl⟩,?_⟩;refine⟨_,rfl,rfl,?_⟩;refine⟨_,rfl,rfl,?_⟩;refine⟨rfl,?_⟩;refine⟨xV,by show((l.take k).map mh).length*120<=_;rw[aj,aD];omega,?_⟩;refine⟨rfl,?_⟩;refine⟨xV,xV (l:=[x]),by show(((l.take k).map mh).length+1)*120<=_;rw[aj,aD];omega,(l.take k++[x]).map mh,by rw[aM];rfl,?_⟩;refine⟨_,rfl,?_⟩;refine⟨k,rfl,by rw[aj];exact hk,ay _,xV,(l.drop k).map mh,by rw[ck (ay _),nV],?_⟩;refine⟨xV,xV,by show(((l.take k++[x]).map mh).length+((l.drop k).map mh).length)*120<=_;simp only[aj,aq,aD,bV,aL,br];omega,(l.take k++[x]++l.drop k).map mh,by rw[<-aM],?_⟩;exact .inr rfl
theorem BY (p:ga):(cw p).length<=2^20:=by unfold cw;by_cases h:(oB p).2≠0;rw[af h];exact zL;rw[aa h];have ho:=(On (by simpa using h)).1;have h1:=qq (p.changes.flatMap refsOf) (p.deps.foldl jw []);have h2:=nE p.deps [];have h3:=Jl ho p.changes.length (ay _);rw[aJ]at h3;have h4:=Ab ho;have h5:=ho.changes.2;simp only[br]at h2;omega
def yT (s:List bO)(p:ga):List bO×Dg×Int:=if(oe p).2≠0 then([],bF,(oe p).2)else if(gh s (oe p).1).2=true then(if p=(gh s (oe p).1).1 then([],bF,6)else([],bF,14))else if sn (dx s) (cw p)=false then([],bF,19)else if vb s p (oe p).1≠0 then([],bF,vb s p (oe p).1)else if 400<=s.length then([],bF,4)else(mL s ⟨(oe p).1,p⟩,(oe p).1,0)
def alz (x:List bO×Dg×Int):AV:=.eV [.sl (cn x.1),.agg (cD x.2.1),.int .i64 x.2.2]
theorem ae0 (s:List bO)(p:ga)(hs:qH s)(hl:s.length<=2^20)(hp:DQ p):ak C 52 [.sl (cn s),.agg (cP p)] (λr=>r=.val (alz (yT s p))):=by
 refine ag Tryz.func52 rfl rfl rfl ?_;refine cl (Uc p hp.sz hp.enc) ?_;unfold yT;generalize oe p=X;obtain⟨d,e⟩:=X;refine cF (λh=>?_) (λh=>?_);rw[af h];exact rfl;rw[aa λg=>g h];refine cl (DS s d hs.len) ?_;have hq:=Ad hs.each d;show _;generalize gh s d=Y at hq⊢;obtain⟨q,is⟩:=Y;cases is with
 |true=>rw[af rfl];refine cl (abg p q hp.sz hq.sz) ?_;by_cases hpq:p=q;rw[an hpq,af hpq];exact rfl;rw[ah hpq,aa hpq];exact rfl
 |false=>
  rw[aa (show¬false=true by decide)];have hn:=BY p;have hi:(dx s).length<=2^20:=by unfold dx;rw[aj];exact hl
  refine cm 3 kK ?_;refine⟨_,Jm s oO,?_⟩;refine cl (DP p hp.sz hp.enc) ?_;refine cl (Oq (dx s) (cw p) oO oO) ?_;refine bl ?_;cases ha:sn (dx s) (cw p)with
  |false=>rw[af rfl];exact rfl
  |true=>
   rw[aa (show¬true=false by decide)];refine cl (Ry s p d hs hp.sz) ?_;refine cF (λh2=>?_) (λh2=>?_);rw[af h2];exact rfl;rw[aa λg=>g h2];have SR:(((cn s).length:Nat):Int)=(s.length:Int):=by simp[cn]
   refine az (λh4=>?_) (λh4=>?_);have h4:(((cn s).length:Nat):Int)≥400:=h4;rw[af (show 400<=s.length by omega)];exact rfl;have h4:¬(((cn s).length:Nat):Int)≥400:=h4;rw[aa (show¬400<=s.length by omega)];refine cm 7 kK ?_;refine⟨_,rfl,?_⟩;refine⟨_,aeZ s ⟨d,p⟩ hl,?_⟩;exact rfl
def Jo (out:List Dg)(x:bO):Option bO->Bool|none=>!decide (x.id∈out)&&sn out (cw x.pat)|some y=>!decide (x.id∈out)&&(sn out (cw x.pat)&&decide (eY x.id y.id<0))
def oQ (out:List Dg):List bO->Option bO->Option bO|[],b=>b|x::l,b=>if Jo out x b=true then oQ out l (some x)else oQ out l b
def pg (s:List bO):Nat->List Dg->List Dg|0,out=>out|n+1,out=>match oQ out s none with|none=>out|some x=>pg s n (out++[x.id])
def bA (s:List bO):List Dg:=pg s s.length []
theorem Ug {s:List bO}{k:Nat}(h:k<s.length)(out:List Dg)(b:Option bO):oQ out (s.drop k) b=if Jo out s[k] b=true then oQ out (s.drop (k+1)) (some s[k])else oQ out (s.drop (k+1)) b:=by rw[bL h];rfl
def kI:Option Nat->Int|none=>-1|some j=>(j:Int)
theorem Rz (s:List bO)(hs:qH s)(hl:s.length<=2^20):ak C 70 [.sl (cn s)] (λr=>r=.val (.sl (jo (bA s)))):=by
 unfold cn jo;refine ag Tryz.func70 rfl rfl rfl ?_;refine bu 67 (λout:List Dg=>[(0,.p (.sl (s.map mh))),(3,.eH 6 31 32 (out.map cD))]) (λ_=>[]) (λout=>out.length<=s.length/\bA s=pg s (s.length-out.length) out) (λout=>s.length-out.length) [] ⟨zL,rfl⟩ rfl wS trivial ?_;rintro out ⟨hout,hE⟩;have Ua:(((out.map cD).length:Nat):Int)=(out.length:Int):=by rw[aj]
 have SR:(((s.map mh).length:Nat):Int)=(s.length:Int):=by rw[aj]
 refine az (λhlt=>?_) (λhge=>?_);rotate_left;have hge:¬(((out.map cD).length:Nat):Int)<((s.map mh).length:Int):=hge;rw[show s.length-out.length=0 by omega]at hE;rw[hE];exact .inr rfl;have hlt:(((out.map cD).length:Nat):Int)<((s.map mh).length:Int):=hlt;obtain⟨n,hn⟩:∃n,s.length-out.length=n+1:=⟨s.length-out.length-1,oO⟩;rw[hn]at hE;have hE:bA s=match oQ out s none with|none=>out|some x=>pg s n (out++[x.id]):=hE;refine bu 67 (λx:Nat×Option Nat=>[(0,.p (.sl (s.map mh))),(3,.eH 6 31 32 (out.map cD)),(4,.p (.int .i64 (kI x.2))),(5,.p (.int .i64 x.1))]) (λ_=>[]) (λx=>x.1<=s.length/\(∀j,x.2=some j->j<s.length)/\oQ out s none=oQ out (s.drop x.1) (x.2.bind λj=>s[j]?)) (λx=>s.length-x.1) (0,none) ⟨zL,(λj h=>by cases h),rfl⟩ rfl wS trivial ?_;rintro⟨k,b⟩ ⟨hk,hb,hP⟩;have hk:k<=s.length:=hk;have hb:∀j,b=some j->j<s.length:=hb;have hP:oQ out s none=oQ out (s.drop k) (b.bind λj=>s[j]?):=hP;refine bQ (λdI=>?_) (λtA=>?_);rw[Ug dI]at hP;have w1:IntKind.i64.wrap ((k:Int)+1)=((k+1:Nat):Int):=by rw[wrap64 oO oO];omega
 have hfit:=hs.each s[k] (aK _);have stay:Jo out s[k] (b.bind λj=>s[j]?)=false->k+1<=s.length/\(∀j,b=some j->j<s.length)/\oQ out s none=oQ out (s.drop (k+1)) (b.bind λj=>s[j]?):=λh=>⟨dI,hb,by rw[hP,h];rfl⟩;have take:Jo out s[k] (b.bind λj=>s[j]?)=true->k+1<=s.length/\(∀j,some k=some j->j<s.length)/\oQ out s none=oQ out (s.drop (k+1)) ((some k).bind λj=>s[j]?):=λh=>⟨dI,λj hj=>by cases hj;exact dI,by rw[hP,h,af rfl];show _=oQ out (s.drop (k+1)) s[k]?;rw[av dI]⟩;have hnl:=BY s[k].pat;refine cm 32 kK ?_;refine ix dI ?_;refine⟨_,Oo out s[k].id oO,?_⟩;refine bl ?_;by_cases hm:s[k].id∈out;rw[an hm];exact⟨_,w1,aO (k+1,b) (stay (by cases b.bind (λj=>s[j]?)<;>simp[Jo,hm])) (by show s.length-(k+1)<s.length-k;omega) rfl wS trivial⟩;rw[ah hm];refine ix dI ?_;refine⟨_,DP s[k].pat hfit.sz hfit.enc,?_⟩;refine⟨_,Oq out (cw s[k].pat) oO oO,?_⟩;cases ha:sn out (cw s[k].pat)with
 |false=>exact⟨_,w1,aO (k+1,b) (stay (by cases b.bind (λj=>s[j]?)<;>simp[Jo,ha])) (by show s.length-(k+1)<s.length-k;omega) rfl wS trivial⟩
 |true=>
  cases b with
  |none=>refine az (λ_=>?_) (λh=>absurd (show(-1:Int)<0 by decide) h);exact⟨_,w1,aO (k+1,some k) (take (by simp[Jo,hm,ha])) (by show s.length-(k+1)<s.length-k;omega) rfl wS trivial⟩
  |some j=>have hj:j<s.length:=hb j rfl;have hsj:((some j).bind λj=>s[j]?)=some s[j]:=av hj;refine az (λh=>absurd (show(j:Int)<0 from h) oO) (λ_=>?_);refine ix dI ?_;refine⟨(by show(0:Int)<=(j:Int);omega),_,ct rfl hj,rfl,?_⟩;refine cl (pP s[k].id s[j].id) ?_;refine az (λh=>?_) (λh=>?_);exact⟨_,w1,aO (k+1,some k) (take (by rw[hsj];simp[Jo,hm,ha,show eY s[k].id s[j].id<0 from h])) (by show s.length-(k+1)<s.length-k;omega) rfl wS trivial⟩;exact⟨_,w1,aO (k+1,some j) (stay (by rw[hsj];simp[Jo,show¬eY s[k].id s[j].id<0 from h])) (by show s.length-(k+1)<s.length-k;omega) rfl wS trivial⟩
 rw[cU oO]at hP;have hP:oQ out s none=b.bind λj=>s[j]?:=hP;rw[hP]at hE;cases b with
 |none=>refine az (λ_=>?_) (λh=>absurd (show(-1:Int)<0 by decide) h);rw[show bA s=out from hE];exact .inr rfl
 |some j=>have hj:j<s.length:=hb j rfl;have hsj:((some j).bind λj=>s[j]?)=some s[j]:=av hj;rw[hsj]at hE;refine az (λh=>absurd (show(j:Int)<0 from h) oO) (λ_=>?_);refine⟨(by show(0:Int)<=(j:Int);omega),_,ct rfl hj,rfl,?_⟩;refine⟨mV,mV (l:=[s[j].id]),by show((out.map cD).length+1)*32<=_;rw[aj];omega,(out++[s[j].id]).map cD,by rw[aM];rfl,?_⟩;refine aO (out++[s[j].id]) ⟨by rw[aq];show out.length+1<=_;omega,by rw[aq,show s.length-(out.length+[s[j].id].length)=n by show s.length-(out.length+1)=n;omega];exact hE⟩ (by show s.length-(out++[s[j].id]).length<_;rw[aq];show s.length-(out.length+1)<_;omega) rfl wS trivial
def chW (c:eG):Nat:=1+c.lines.length+c.over.length
def DV (l:List eG):Nat:=(l.map chW).sum
def BZ (l:List bO):Nat:=(l.map λx=>DV x.pat.changes).sum
def xW (s:List bO)(m:Nat):Bool:=(s.take (m+1)).any (λx=>iI x.pat)||(decide (m<s.length)||decide (300<BZ (s.take (m+1))))
theorem Yj {l:List eG}{k:Nat}(h:k<l.length):DV (l.take (k+1))=DV (l.take k)+chW l[k]:=by unfold DV;rw[cq h,nW];simp
theorem Ot (l:List eG)(k:Nat):DV (l.take k)<=DV l:=Gv chW l k
theorem Yk {l:List bO}{k:Nat}(h:k<l.length):BZ (l.take (k+1))=BZ (l.take k)+DV l[k].pat.changes:=by unfold BZ;rw[cq h,nW];simp
theorem Ww {p:ga}(h:iI p=false):DV p.changes<=1620/\p.changes.length<=20:=by
 unfold iI at h;simp only[kH,decide_eq_false_iff_not]at h;obtain⟨⟨⟨h1,-⟩,-⟩,h4⟩:=h;refine⟨?_,oO⟩;have :=zT chW 81 p.changes λc hc=>by
  have hb:Fp c=false:=by
   cases hq:Fp c with
   |false=>rfl
   |true=>rw[fR.2 ⟨c,hc,hq⟩]at h1;exact absurd h1 dD
  unfold Fp zS at hb;simp only[kH,decide_eq_false_iff_not]at hb;obtain⟨⟨g1,-⟩,g2⟩:=hb;unfold chW;omega
 have h2:p.changes.length*81<=20*81:=dO _ oO;unfold DV;omega
theorem Wx:∀(l:List bO),l.any (λx=>iI x.pat)=false->BZ l<=1620*l.length|[],_=>ay _|x::l,h=>by simp only[og,kH]at h;have h1:=(Ww h.1).1;have h2:=Wx l h.2;show DV x.pat.changes+BZ l<=_;simp only[aL];omega
theorem abT (s:List bO)(m:Nat)(hs:SzT s)(hm:m<=2^20):ak C 64 [.sl (cn s),.int .i64 (m:Int)] (λr=>r=.val (.bool (xW s m))):=by
 have hl:=hs.len;have SR:(((s.map mh).length:Nat):Int)=(s.length:Int):=by rw[aj]
 unfold cn;refine ag Tryz.func64 rfl rfl rfl ?_;refine bu 70 (λk:Nat=>[(0,.p (.sl (s.map mh))),(1,.p (.int .i64 (m:Int))),(5,.p (.int .i64 (BZ (s.take k):Int))),(6,.p (.int .i64 k))]) (λ_=>[]) (λk=>k<=s.length/\k<=m+1/\(s.take k).any (λx=>iI x.pat)=false) (λk=>s.length-k) 0 ⟨zL,zL,rfl⟩ rfl wS trivial ?_;rintro k ⟨hk,hkm,hn⟩;have hw:=Wx _ hn;have Ky:(s.take k).length<=k:=List.length_take_le _ _;refine⟨none,?_⟩;refine bQ (λhlt=>az (λhle=>?_) (λhgt=>?_)) (λhge=>?_);have hle:k<=m:=by have :(k:Int)<=(m:Int):=hle;omega
 refine ix hlt ?_;refine cl (XX s[k].pat (hs.each _ (aK _))) ?_;cases hg:iI s[k].pat with
 |true=>
  have h1:s[k]∈s.take (m+1):=by rw[List.mem_take_iff_getElem];exact⟨k,oO,rfl⟩
  have :(s.take (m+1)).any (λx=>iI x.pat)=true:=fR.2 ⟨_,h1,hg⟩;show cQ.val (.bool true)=_;rw[xW,this];rfl
 |false=>
  obtain⟨g1,g2⟩:=Ww hg;have hst:=Yk hlt;refine bu 70 (λj:Nat=>[(0,.p (.sl (s.map mh))),(1,.p (.int .i64 (m:Int))),(5,.p (.int .i64 ((BZ (s.take k)+DV (s[k].pat.changes.take j):Nat):Int))),(6,.p (.int .i64 (k:Int))),(7,.p (.int .i64 j))]) (λ_=>[]) (λj=>j<=s[k].pat.changes.length) (λj=>s[k].pat.changes.length-j) 0 (zL) rfl wS trivial ?_;intro j hj;refine ix hlt ?_;refine bQ (l:=s[k].pat.changes) (f:=cC) (λdI=>?_) (λtA=>?_);have hp:=Yj dI;have Zv:=Ot s[k].pat.changes (j+1);have hcw:chW s[k].pat.changes[j]=1+s[k].pat.changes[j].lines.length+s[k].pat.changes[j].over.length:=rfl;refine cm 25 kK ?_;refine nx (BZ (s.take k)+DV (s[k].pat.changes.take j)+1) ?_;refine ix hlt ?_;refine ix dI ?_;refine⟨((BZ (s.take k)+DV (s[k].pat.changes.take j)+1+s[k].pat.changes[j].lines.length:Nat):Int),by rw[aj,wrap64 oO oO];omega,?_⟩;refine ix hlt ?_;refine ix dI ?_;refine⟨((BZ (s.take k)+DV (s[k].pat.changes.take (j+1)):Nat):Int),by show IntKind.i64.wrap (_+(((iq s[k].pat.changes[j].over).length:Nat):Int))=_;rw[iq,aj,wrap64 oO oO];omega,?_⟩;exact nx (j+1) (aO (j+1) dI oO rfl wS trivial);obtain rfl:j=s[k].pat.changes.length:=oO
  rw[aJ,<-hst];exact nx (k+1) (aO (k+1) ⟨hlt,oO,Bs hlt hn hg⟩ oO rfl wS trivial)
 have hgt:¬k<=m:=by have :¬(k:Int)<=(m:Int):=hgt;omega
 have hlen:m<s.length:=oO
 refine⟨none,?_⟩;refine az (λ_=>?_) (λh=>absurd (show(((s.map mh).length:Nat):Int)>(m:Int)by omega) h);show cQ.val (.bool true)=_;simp[xW,hlen];obtain rfl:k=s.length:=oO
 have e1:s.take (m+1)=s:=ck hkm;rw[aJ]at hn hw⊢;refine⟨none,?_⟩;refine az (λh=>?_) (λh=>az (λh2=>?_) (λh2=>?_));have :m<s.length:=by have :(((s.map mh).length:Nat):Int)>(m:Int):=h;omega
 show cQ.val (.bool true)=_;simp[xW,this];have h2:300<BZ s:=by have :(BZ s:Int)>300:=h2;omega
 show cQ.val (.bool true)=_;simp[xW,e1,h2];have h:¬m<s.length:=by have :¬(((s.map mh).length:Nat):Int)>(m:Int):=h;omega
 have h2:¬300<BZ s:=by have :¬(BZ s:Int)>300:=h2;omega
 show cQ.val (.bool false)=_;simp only[xW,e1,hn,h,h2,decide_false,Bool.or_self]
def vr (s:List bO):Bool:=xW s 8
theorem Yl (s:List bO)(hs:SzT s):ak C 32 [.sl (cn s)] (λr=>r=.val (.bool (vr s))):=by refine ag Tryz.func32 rfl rfl rfl ?_;refine cl (abT s 8 hs dD) ?_;exact rfl
def ri:bO:=⟨bF,DR⟩
def Fu (s:List bO)(i:Nat):Int:=if(oe (s.getD i ri).pat).2≠0 then(oe (s.getD i ri).pat).2 else if(oe (s.getD i ri).pat).1≠(s.getD i ri).id then 13 else if 0<i/\0<=eY (s.getD (i-1) ri).id (oe (s.getD i ri).pat).1 then 9 else 0
def xX (s:List bO):Int:=if 400<s.length then 4 else if eo ((List.range s.length).map (Fu s))≠0 then eo ((List.range s.length).map (Fu s))else if s.all (λx=>sn (dx s) (cw x.pat))=false then 19 else if(bA s).length<s.length then 20 else eo (s.map (λx=>vb s x.pat x.id)++[])
theorem Ym (s:List bO)(hs:qH s):ak C 33 [.sl (cn s)] (λr=>r=.val (.int .i64 (xX s))):=by
 have SR:(((s.map mh).length:Nat):Int)=(s.length:Int):=by rw[aj]
 obtain⟨E,hE⟩:∃E,xX s=E:=⟨_,rfl⟩;rw[hE];have hE:E=xX s:=hE.symm;unfold xX at hE;refine ag Tryz.func33 rfl rfl rfl ?_;refine az (λh=>?_) (λh=>?_);have h:(((s.map mh).length:Nat):Int)>400:=h;rw[af (show 400<s.length by omega)]at hE;rw[hE];exact rfl;have h:¬(((s.map mh).length:Nat):Int)>400:=h;have hl:s.length<=400:=oO
 rw[aa (show¬400<s.length by omega)]at hE;refine bu 95 (λk:Nat=>[(0,.p (.sl (s.map mh))),(3,.p (.int .i64 k))]) (λ_=>[]) (λk=>k<=s.length/\∀i,i<k->Fu s i=0) (λk=>s.length-k) 0 ⟨zL,λi h=>absurd h (ia _)⟩ rfl wS trivial ?_;rintro k ⟨hk,hall⟩;refine bQ (λhlt=>?_) (λhge=>?_)
 ·have hg:s.getD k ri=s[k]:=by simp[List.getD,hlt]
  have hfit:=hs.each s[k] (aK _);have hb:Fu s k=if(oe s[k].pat).2≠0 then(oe s[k].pat).2 else if(oe s[k].pat).1≠s[k].id then 13 else if 0<k/\0<=eY (s.getD (k-1) ri).id (oe s[k].pat).1 then 9 else 0:=by unfold Fu;rw[hg]
  have bad:∀e,Fu s k=e->e≠0->cQ.val (.int .i64 e)=cQ.val (.int .i64 E):=λe he h=>by subst he;rw[xS (Fu s) s.length k hlt hall h,af h]at hE;rw[hE]
  have next:Fu s k=0->k+1<=s.length/\∀i,i<k+1->Fu s i=0:=λh=>⟨hlt,λi hi=>by by_cases hik:i=k;rw[hik];exact h;exact hall i oO⟩;refine ix hlt ?_;refine cl (Uc s[k].pat hfit.sz hfit.enc) ?_;generalize oe s[k].pat=X at hb⊢;obtain⟨d,e⟩:=X;refine cF (λh=>?_) (λh=>?_);exact bad e (by rw[hb,af h]) h;rw[aa λg=>g h]at hb;refine cm 6 kK ?_;refine ix hlt ?_;refine⟨yX,dQ,lq,rfl,rfl,?_⟩;refine Rf (a:=d) (b:=s[k].id) ?_;by_cases hd:d=s[k].id;rotate_left;rw[ah hd];exact bad 13 (by rw[hb,af hd]) dD;rw[an hd];rw[aa λg=>g hd]at hb;refine cm 10 kK ?_;refine az (λh0=>?_) (λh0=>?_)
  ·have h0:0<k:=by have :(k:Int)>0:=h0;omega
   have hlt':k-1<s.length:=oO
   have hg':s.getD (k-1) ri=s[k-1]:=by simp[List.getD,hlt']
   rw[hg']at hb;refine nx (k-1) ?_;refine ix hlt' ?_;refine cl (pP s[k-1].id d) ?_;refine az (λh2=>?_) (λh2=>?_);exact bad 9 (by rw[hb,af ⟨h0,h2⟩]) dD;rw[aa λh=>h2 h.2]at hb;exact nx (k+1) (aO (k+1) (next hb) oO rfl wS trivial)
  have h0:¬0<k:=by have :¬(k:Int)>0:=h0;omega
  rw[aa λh=>h0 h.1]at hb;exact nx (k+1) (aO (k+1) (next hb) oO rfl wS trivial)
 rw[vq (Fu s) s.length λi hi=>hall i oO,aa λg=>g rfl]at hE;clear hall;refine cl (Jm s oO) ?_;have hi:(dx s).length<=400:=by unfold dx;rw[aj];exact hl
 refine bu 95 (λk:Nat=>[(0,.p (.sl (s.map mh))),(6,.p (.sl (jo (dx s)))),(7,.p (.int .i64 k))]) (λ_=>[]) (λk=>k<=s.length/\(s.take k).all (λx=>sn (dx s) (cw x.pat))=true) (λk=>s.length-k) 0 ⟨zL,rfl⟩ rfl wS trivial ?_;rintro k ⟨hk,hall⟩;refine bQ (λhlt=>?_) (λhge=>?_);have hfit:=hs.each s[k] (aK _);have hn:=BY s[k].pat;refine ix hlt ?_;refine cl (DP s[k].pat hfit.sz hfit.enc) ?_;refine cl (Oq (dx s) (cw s[k].pat) oO oO) ?_;refine bl ?_;cases hv:sn (dx s) (cw s[k].pat)with
 |false=>rw[af (Ol (f:=λx:bO=>sn (dx s) (cw x.pat)) hlt hv)]at hE;rw[hE];exact rfl
 |true=>exact nx (k+1) (aO (k+1) ⟨hlt,rQ hlt hall hv⟩ oO rfl wS trivial)
 rw[ck oO]at hall;rw[hall,aa (show¬true=false by decide)]at hE;refine cl (Rz s hs oO) ?_;have Ua:(((jo (bA s)).length:Nat):Int)=((bA s).length:Int):=by simp[jo]
 refine az (λh=>?_) (λh=>?_);have h:(((jo (bA s)).length:Nat):Int)<((s.map mh).length:Int):=h;rw[af (show(bA s).length<s.length by omega)]at hE;rw[hE];exact rfl;have h:¬(((jo (bA s)).length:Nat):Int)<((s.map mh).length:Int):=h;rw[aa (show¬(bA s).length<s.length by omega)]at hE;refine bu 95 (λk:Nat=>[(0,.p (.sl (s.map mh))),(8,.p (.int .i64 k))]) (λ_=>[]) (λk=>k<=s.length/\E=eo ((s.drop k).map (λx=>vb s x.pat x.id)++[])) (λk=>s.length-k) 0 ⟨zL,hE⟩ rfl wS trivial ?_;rintro k ⟨hk,hE⟩;refine bQ (λhlt=>?_) (λhge=>?_);rw[oP hlt]at hE;refine cm 11 kK ?_;refine ix hlt ?_;refine ix hlt ?_;refine cl (Ry s s[k].pat s[k].id hs (hs.each s[k] (aK _)).sz) ?_;refine cF (λh=>?_) (λh=>?_);rw[hE,eu h];exact rfl;rw[eZ h]at hE;exact nx (k+1) (aO (k+1) ⟨hlt,hE⟩ oO rfl wS trivial);rw[cU oO]at hE;rw[hE];exact rfl
def GA (s:List bO):Bool:=!vr s&&decide (xX s=0)
theorem ae1 (s:List bO)(hz:SzT s)(hs:vr s=false->qH s):ak C 11 [.sl (cn s)] (λr=>r=.val (.bool (GA s))):=by
 refine ag Tryz.func11 rfl rfl rfl ?_;refine⟨none,?_⟩;refine cl (Yl s hz) ?_;refine bl ?_;unfold GA;cases hg:vr s with
 |true=>exact rfl
 |false=>refine cl (Ym s (hs hg)) ?_;refine aA (λh=>?_) (λh=>?_);rw[an (show xX s=0 from h)];exact rfl;rw[ah (show¬xX s=0 from h)];exact rfl
theorem Ca {d:Nat}:∀{l:List Sx},(∀x,x∈l->dX x<=d)->Wp l<=d|[],_=>zL|y::l,h=>by have h1:=h y (by simp);have h2:=Ca (l:=l) λx hx=>h x (bq _ hx);show max (dX y) (Wp l)<=d;omega
theorem Cb {d:Nat}:∀{l:List Sx},(∀x,x∈l->aX x<=d)->aXs l<=d|[],_=>zL|y::l,h=>by have h1:=h y (by simp);have h2:=Cb (l:=l) λx hx=>h x (bq _ hx);show max (aX y) (aXs l)<=d;omega
theorem Ou (a b:List Sx):tD (a++b)=tD a+tD b:=by rw[uY,uY,uY,aM,nW]
theorem ahl {m:Nat}(hm:m<=2^40)(x:Sx):aX x<=m->(eX x).length<=nX x*(m+24):=by
 induction x using Sx.ind with
 |h1 s=>intro h;have h:s.length<=m:=h;have l1:=Lib.itoa_length_le (s.length:Int) oO oO;show(Lib.itoa (s.length:Int)++[58]++s).length<=1*(m+24);simp only[aq,aL,br];omega
 |h2 l ih=>
  intro h;have h:aXs l<=m:=h;have hs:∀l':List Sx,(∀x,x∈l'->(eX x).length<=nX x*(m+24))->(KA l').length<=tD l'*(m+24):=by
   intro l';induction l' with
   |nil=>intro _;exact zL
   |cons y l' ih2=>intro g;have g1:=g y (by simp);have g2:=ih2 λx hx=>g x (by simp[hx]);show(eX y++KA l').length<=(nX y+tD l')*(m+24);rw[aq,bC];omega
  have g:=hs l λx hx=>ih x hx (by have :=HB hx;omega);show([40]++KA l++[41]).length<=(1+tD l)*(m+24);rw[bC];simp only[aq,aL,br];omega
theorem RA (n:Int):(Rt n).length<=40:=by unfold Rt;split;have :=Lib.itoa_length_le n oO oO;omega;exact zL
theorem Wy (d:Dg):(dgB d).length<=40:=by unfold dgB;split;exact zL;rw[d.2];decide
theorem Ov (n:Int):dX (cG n)<=3/\aX (cG n)<=65536:=⟨by show 1<=3;decide,by have :=RA n;show(Rt n).length<=_;omega⟩
theorem abU (x:bg):aX (bR x)<=65536:=by have h1:=RA x.n;have h2:=Wy x.p;show max (dgB x.p).length (max (Rt x.n).length 0)<=_;omega
theorem Ow (x:bg):dX (bR x)<=3/\aX (bR x)<=65536:=⟨by show 1+max 1 (max 1 0)<=3;decide,abU x⟩
theorem abV (s:Bytes)(h:s.length<=65536):dX (.atom s)<=3/\aX (.atom s)<=65536:=⟨by show 1<=3;decide,h⟩
theorem aji (l:List bg):dX (si l)<=3/\aX (si l)<=65536:=by
 constructor;show 1+Wp (l.map bR)<=3;have :=Ca (d:=2) (l:=l.map bR) λx hx=>by obtain⟨y,-,rfl⟩:=aI.1 hx;show 1+max 1 (max 1 0)<=2;decide
 omega;exact Cb (l:=l.map bR) λx hx=>by obtain⟨y,-,rfl⟩:=aI.1 hx;exact abU y
theorem ajj (l:List Bytes)(h:l.all qk=true):dX (SU l)<=3/\aX (SU l)<=65536:=by
 constructor;show 1+Wp (l.map Sx.atom)<=3;have :=Ca (d:=1) (l:=l.map Sx.atom) λx hx=>by obtain⟨y,-,rfl⟩:=aI.1 hx;exact ay 1
 omega;exact Cb (l:=l.map Sx.atom) λx hx=>by obtain⟨y,hy,rfl⟩:=aI.1 hx;have :=bY.1 h y hy;simp only[qk,aW,decide_eq_true_eq]at this;show y.length<=_;omega
theorem ajk (l:List bg):nX (si l)=1+3*l.length:=by
 show 1+tD (l.map bR)=_;have :tD (l.map bR)=3*l.length:=by
  induction l with
  |nil=>rfl
  |cons y l ih=>show nX (bR y)+tD (l.map bR)=_;rw[ih,aL];show 3+3*l.length=_;omega
 rw[this]
theorem ajl (l:List Bytes):nX (SU l)=1+l.length:=by
 show 1+tD (l.map Sx.atom)=_;have :tD (l.map Sx.atom)=l.length:=by
  induction l with
  |nil=>rfl
  |cons y l ih=>show 1+tD (l.map Sx.atom)=_;rw[ih,aL];omega
 rw[this]
theorem Ox {c:eG}(h:dc c=0)(hk:c.kind=2):iC c.name=true:=by
 cases hn:iC c.name with
 |true=>rfl
 |false=>unfold dc at h;rw[aa (show¬(c.kind<1\/7<c.kind)by omega)]at h;by_cases h2:bI (eD c)=false;rw[af h2]at h;exact absurd h dD;rw[aa h2,aa (show¬(c.kind=1/\(c.type<1\/4<c.type))by omega),af ⟨hk,hn⟩]at h;exact absurd h dD
theorem LZ {s:Bytes}(h:iC s=true):s.length<=40:=by simp only[iC,aW,decide_eq_true_eq]at h;exact h.1.2
theorem abW {c:eG}(h:dc c=0):∀x,x∈qF c->dX x<=3/\aX x<=65536:=by obtain⟨g1,g2,g3,-,-,g6⟩:=gw h;intro x hx;unfold qF at hx;rcases bh.1 hx with hx|hx;obtain rfl:=aS.1 hx;exact Ov _;rcases bh.1 hx with hx|hx;by_cases e1:c.kind=1;rw[af e1]at hx;cases hx;rw[aa e1]at hx;by_cases e7:c.kind=7;rw[af e7]at hx;cases hx;rw[aa e7]at hx;obtain rfl:=aS.1 hx;exact Ow _;rcases bh.1 hx with hx|hx;by_cases e1:c.kind=1;rw[af e1]at hx;obtain rfl:=aS.1 hx;exact Ov _;rw[aa e1]at hx;by_cases e2:c.kind=2;rw[af e2]at hx;have hn:=LZ (Ox h e2);simp only[aQ,gr,or_false]at hx;rcases hx with rfl|rfl;exact Ow _;exact abV _ oO;rw[aa e2]at hx;by_cases e3:c.kind=3;rw[af e3]at hx;obtain rfl:=aS.1 hx;exact Ov _;rw[aa e3]at hx;by_cases e4:c.kind=4;rw[af e4]at hx;obtain rfl:=aS.1 hx;exact abV _ g6;rw[aa e4]at hx;by_cases e5:c.kind=5\/c.kind=6;rw[af e5]at hx;simp only[aQ,gr,or_false]at hx;rcases hx with rfl|rfl;exact Ow _;exact Ow _;rw[aa e5]at hx;cases hx;by_cases e5:c.kind=5;rw[af e5]at hx;obtain rfl:=aS.1 hx;exact ajj _ (g3 e5).2;rw[aa e5]at hx;by_cases e1:c.kind=1;rw[af e1]at hx;cases hx;rw[aa e1]at hx;obtain rfl:=aS.1 hx;exact aji _
def chN (c:eG):Nat:=12+c.lines.length+3*c.over.length
theorem ahm (c:eG):nX (mK c)<=chN c:=by
 show 1+tD (qF c)<=_;unfold qF chN;rw[Ou,Ou,Ou];have a1:tD [cG c.kind]=1:=rfl;have a2:tD (if c.kind=1 then[]else if c.kind=7 then[]else[bR c.file])<=3:=by split;exact zL;split;exact zL;exact ay 3
 have a3:tD (if c.kind=1 then[cG c.type]else if c.kind=2 then[bR c.parent,.atom c.name]else if c.kind=3 then[cG c.mode]else if c.kind=4 then[.atom c.data]else if c.kind=5\/c.kind=6 then[bR c.dm,bR c.dG]else[])<=6:=by
  repeat' split
  all_goals first|exact zL|exact ay 6|(show 1<=6;decide)|(show 4<=6;decide)
 have a4:tD (if c.kind=5 then[SU c.lines]else if c.kind=1 then[]else[si c.over])<=1+c.lines.length+3*c.over.length:=by split;show nX (SU c.lines)+0<=_;rw[ajl];omega;split;exact zL;show nX (si c.over)+0<=_;rw[ajk];omega
 omega
def BdP (p:ga):Prop:=(p.changes.map chN).sum<=19000
theorem ahn {p:ga}(hb:BdP p)(h:Ub p):OkX (kE p):=by
 have hd:=Ab h;have hname:=LZ h.name;have aom:=h.message;have ha:aX (kE p)<=65536:=by
  refine Cb λx hx=>?_;simp only[aQ,gr,or_false]at hx;rcases hx with rfl|rfl|rfl|rfl|rfl|rfl;show q1B.length<=_;decide;show p.eW.length<=_;omega;show p.message.length<=_;omega;exact(Ov _).2;exact Cb λx hx=>by obtain⟨y,-,rfl⟩:=aI.1 hx;have :=Wy y;show(dgB y).length<=_;omega
  exact Cb λx hx=>by obtain⟨c,hc,rfl⟩:=aI.1 hx;exact Cb λy hy=>(abW (h.each c hc) y hy).2
 have hn:nX (kE p)<=20000:=by
  have e1:tD (p.deps.map nj)=p.deps.length:=by
   generalize p.deps=l;induction l with
   |nil=>rfl
   |cons y l ih=>show 1+tD (l.map nj)=_;rw[ih,aL];omega
  have e2:tD (p.changes.map mK)<=(p.changes.map chN).sum:=by
   generalize p.changes=l;induction l with
   |nil=>exact ay _
   |cons y l ih=>have :=ahm y;show nX (mK y)+tD (l.map mK)<=chN y+(l.map chN).sum;omega
  show 1+(1+(1+(1+(1+((1+tD (p.deps.map nj))+((1+tD (p.changes.map mK))+0))))))<=_;unfold BdP at hb;omega
 refine⟨hn,?_,ha,?_⟩;show 1+Wp _<=12;have :=Ca (d:=11) (l:=[.atom q1B,.atom p.eW,.atom p.message,cG p.time,.list (p.deps.map nj),.list (p.changes.map mK)]) λx hx=>by
  simp only[aQ,gr,or_false]at hx;rcases hx with rfl|rfl|rfl|rfl|rfl|rfl;show 1<=11;decide;show 1<=11;decide;show 1<=11;decide;show 1<=11;decide;show 1+Wp (p.deps.map nj)<=11;have :=Ca (d:=1) (l:=p.deps.map nj) λx hx=>by obtain⟨y,-,rfl⟩:=aI.1 hx;exact ay 1
  omega;show 1+Wp (p.changes.map mK)<=11;have :=Ca (d:=4) (l:=p.changes.map mK) λx hx=>by obtain⟨c,hc,rfl⟩:=aI.1 hx;show 1+Wp (qF c)<=4;have :=Ca (d:=3) (l:=qF c) λy hy=>(abW (h.each c hc) y hy).1;omega
  omega
 omega;have :=ahl (m:=65536) dD (kE p) ha;have h2:nX (kE p)*(65536+24)<=20000*(65536+24):=dO _ hn;omega
theorem Uh {p:ga}(h:iI p=false):BdP p:=by
 unfold iI at h;simp only[kH,decide_eq_false_iff_not]at h;obtain⟨⟨⟨h1,-⟩,-⟩,h4⟩:=h;have :=zT chN 172 p.changes λc hc=>by
  have hb:Fp c=false:=by
   cases hq:Fp c with
   |false=>rfl
   |true=>rw[fR.2 ⟨c,hc,hq⟩]at h1;exact absurd h1 dD
  unfold Fp zS at hb;simp only[kH,decide_eq_false_iff_not]at hb;obtain⟨⟨g1,-⟩,g2⟩:=hb;unfold chN;omega
 have h2:p.changes.length*172<=20*172:=dO _ oO;unfold BdP;omega
theorem Oy {p:ga}(hz:SS p)(hb:BdP p):DQ p:=⟨hz,ahn hb⟩
theorem Wz {s:List bO}(hz:SzT s)(h:vr s=false):qH s/\s.length<=8:=by
 unfold vr xW at h;simp only[kH,decide_eq_false_iff_not]at h;obtain⟨h1,h2,-⟩:=h;have hl:s.length<=8:=oO
 refine⟨⟨hz.len,λx hx=>Oy (hz.each x hx) (Uh ?_)⟩,hl⟩;rw[ck oO]at h1;cases hq:iI x.pat with
 |false=>rfl
 |true=>rw[fR.2 ⟨x,hx,hq⟩]at h1;exact absurd h1 dD
theorem Jp (s:List bO)(hz:SzT s):ak C 11 [.sl (cn s)] (λr=>r=.val (.bool (GA s))):=ae1 s hz λh=>(Wz hz h).1
def Oz (s:List bO)(p:ga):List bO×Dg×Bool:=((yT s p).1,(yT s p).2.1,decide ((yT s p).2.2=0))
def Jq (x:List bO×Dg×Bool):AV:=.eV [.sl (cn x.1),.agg (cD x.2.1),.bool x.2.2]
theorem abX (s:List bO)(p:ga)(hs:qH s)(hl:s.length<=2^20)(hp:DQ p):ak C 17 [.sl (cn s),.agg (cP p)] (λr=>r=.val (Jq (Oz s p))):=by refine ag Tryz.func17 rfl rfl rfl ?_;refine cl (ae0 s p hs hl hp) ?_;unfold Oz;generalize yT s p=X;obtain⟨t,d,e⟩:=X;refine⟨.plan ⟨[2,3],[5],[],[]⟩ (.one 0 (.one 1 (.one 4 (.one 2 (.one 3 (.alt 5 (.one 6 .fin) .stop)))))) none,kK,?_⟩;refine⟨_,rfl,?_⟩;refine⟨_,rfl,?_⟩;refine⟨_,rfl,?_⟩;refine⟨_,rfl,rfl,?_⟩;refine⟨.p (.bool (decide (e=0))),⟨λt ht=>by rw[ht];rfl⟩,rfl,?_⟩;refine⟨rfl,?_⟩;refine⟨_,rfl,?_⟩;exact rfl
def Jr (file:bg)(mode:Int)(over:List bg):eG:=⟨3,file,0,aU,[],mode,[],aU,aU,[],over⟩
def Cc (file:bg)(mode time:Int)(over:List bg):ga:=⟨[97,110,110],[],time,[],[Jr file mode over]⟩
theorem RB (file:bg)(mode time:Int)(over:List bg):ak C 18 [.agg (cI file),.int .i64 mode,.int .i64 time,.sl (iq over)] (λr=>r=.val (.agg (cP (Cc file mode time over)))):=by refine ag Tryz.func18 rfl rfl rfl ?_;exact rfl
def fL (s:List bO)(ids:List Dg):List bD:=ids.flatMap λd=>(dJ (gh s d).1).1
theorem Ma {s:List bO}{ids:List Dg}{k:Nat}(h:k<ids.length):fL s (ids.take (k+1))=fL s (ids.take k)++(dJ (gh s ids[k]).1).1:=ja h
theorem sq (s:List bO):∀ids:List Dg,(fL s ids).length<=2^22*ids.length|[]=>ay _|d::l=>by have h1:=sq s l;have h2:=BX (gh s d).1;show((dJ (gh s d).1).1++fL s l).length<=_;rw[aq,aL];omega
theorem abY (s:List bO)(ids:List Dg)(hs:qH s)(hl:ids.length<=400):ak C 78 [.sl (cn s),.sl (jo ids)] (λr=>r=.val (.sl (eU (fL s ids)))):=by
 unfold jo;refine ag Tryz.func78 rfl rfl rfl ?_;refine bu 36 (λk:Nat=>[(0,.p (.sl (cn s))),(1,.p (.sl (ids.map cD))),(5,.eH 11 48 172 ((fL s (ids.take k)).map cA)),(6,.p (.int .i64 k))]) (λ_=>[]) (λk=>k<=ids.length) (λk=>ids.length-k) 0 (zL) rfl wS trivial ?_;intro k hk;refine bQ (λhlt=>?_) (λhge=>?_);have hfit:=Ad hs.each ids[k];have ht:=Ma (s:=s) hlt;have h1:=sq s (ids.take k);have h2:(ids.take k).length<=400:=by rw[aD];omega
 have h3:=BX (gh s ids[k]).1;have h4:2^22*(ids.take k).length<=2^22*400:=jv _ h2;refine ix hlt ?_;refine cl (DS s ids[k] hs.len) ?_;refine cl (Ft _ hfit) ?_;generalize dJ (gh s ids[k]).1=X at ht h3⊢;obtain⟨L,e⟩:=X;have h3:L.length<=2^22:=h3;refine⟨jk,jk,by show(((fL s (ids.take k)).map cA).length+(L.map cA).length)*296<=_;rw[aj,aj];omega,(fL s (ids.take (k+1))).map cA,by rw[ht,aM];rfl,?_⟩;exact nx (k+1) (aO (k+1) hlt oO rfl wS trivial);obtain rfl:k=ids.length:=oO
 rw[aJ];exact .inr rfl
def cz (s:List bO):List bD:=fL s (dx s)
theorem DW (s:List bO)(hs:qH s)(hl:s.length<=400):ak C 45 [.sl (cn s)] (λr=>r=.val (.sl (eU (cz s)))):=by refine ag Tryz.func45 rfl rfl rfl ?_;refine cl (Jm s oO) ?_;refine cl (abY s (dx s) hs (by unfold dx;rw[aj];exact hl)) ?_;exact rfl
theorem Ui (d:Dg)(a:bD):(fU d a).over=Wt d a.over:=by unfold fU Zy;show Wt d (KC d (KB d (st2 d (st1 d a)))).over=_;rw[Ji,Jh,Jg];rfl
theorem RC (p:ga):∀a,a∈(dJ p).1->a.over.length<=400:=by unfold dJ;by_cases h:(oe p).2≠0;rw[af h];intro a ha;cases ha;rw[aa h];intro a ha;obtain⟨b,hb,rfl⟩:=aI.1 ha;rw[Ui];have h1:=Wu (oe p).1 b.over;have h2:=(kG p).2 b hb;omega
theorem rj {s:List bO}{ids:List Dg}:∀a,a∈fL s ids->a.over.length<=400:=by intro a ha;obtain⟨d,-,hd⟩:=cV.1 ha;exact RC _ a hd
def zA:List FV:=(aH (cA ef)).take 171++[.full []]
def pQ:List bD->bg->bD×Bool|[],_=>(ef,false)|a::l,x=>if a.id=x then(a,true)else pQ l x
theorem Uj {l:List bD}{k:Nat}(h:k<l.length)(x:bg):pQ (l.drop k) x=if l[k].id=x then(l[k],true)else pQ (l.drop (k+1)) x:=by rw[bL h];rfl
theorem ae2 (s:List bO)(x:bg)(hs:qH s)(hl:s.length<=400):ak C 138 [.sl (cn s),.agg (cI x)] (λr=>r=.val (atR (pQ (cz s) x))):=by
 have hlen:(cz s).length<=2^22*400:=by
  have h1:=sq s (dx s);have h2:(dx s).length<=400:=by unfold dx;rw[aj];exact hl
  have h3:2^22*(dx s).length<=2^22*400:=jv _ h2;unfold cz;omega
 refine ag Tryz.func138 rfl rfl rfl ?_;refine cl (DW s hs hl) ?_;generalize cz s=l at hlen⊢;unfold eU;refine bu 28 (λk:Nat=>[(3,.ptr 3 0),(4,.ptr 4 0),(6,.p (.sl (l.map cA))),(7,.p (.int .i64 k))]) (λ_=>[(3,aH (cI x)),(4,zA)]) (λk=>k<=l.length/\pQ l x=pQ (l.drop k) x) (λk=>l.length-k) 0 ⟨zL,rfl⟩ rfl wS oS ?_;rintro k ⟨hk,hE⟩;refine bQ (λhlt=>?_) (λhge=>?_);rw[Uj hlt]at hE;refine cm 6 kK ?_;refine ix hlt ?_;refine ou ?_;refine iu (a:=l[k].id) (b:=x) ?_;by_cases h:l[k].id=x;rw[an h];rw[af h]at hE;refine ix hlt ?_;rw[hE];exact rfl;rw[ah h];rw[aa h]at hE;exact nx (k+1) (aO (k+1) ⟨hlt,hE⟩ oO rfl wS oS);rw[cU oO]at hE;rw[hE];exact rfl
def qt (x:bg)(out:List bg)(a:bD):List bg:=if x∈a.over then qh out a.id else out
def oR (l:List bD)(x:bg):List bg:=l.foldl (qt x) []
theorem Fv (x:bg):∀(l:List bD)(out:List bg),(l.foldl (qt x) out).length<=out.length+l.length
 |[],out=>ay _
 |a::l,out=>by
  have h1:=Fv x l (qt x out a);have h2:(qt x out a).length<=out.length+1:=by unfold qt;split;exact Rw _ _;omega
  simp only[eR,aL];omega
theorem WA (l:List bD)(x:bg)(hl:l.length<=2^20)(ho:∀a,a∈l->a.over.length<=2^47):ak C 106 [.sl (eU l),.agg (cI x)] (λr=>r=.val (.sl (iq (oR l x)))):=by
 unfold eU;refine ag Tryz.func106 rfl rfl rfl ?_;refine bu 29 (λk:Nat=>[(0,.p (.sl (l.map cA))),(3,.ptr 3 0),(5,.p (.sl (iq ((l.take k).foldl (qt x) [])))),(6,.p (.int .i64 k))]) (λ_=>[(3,aH (cI x))]) (λk=>k<=l.length) (λk=>l.length-k) 0 (zL) rfl ⟨aF.refl _,aF.refl _,aF.Gp _ _ _ _,aF.refl _,trivial⟩ oS ?_;intro k hk;refine bQ (λhlt=>?_) (λhge=>?_);have hs:=gx (f:=qt x) hlt [];have hb:=Fv x (l.take k) [];rw[aD]at hb;simp only[br]at hb;refine cm 6 kK ?_;refine ix hlt ?_;refine cl (NY l[k].over x (ho _ (aK _))) ?_;by_cases h:x∈l[k].over;rw[an h];rw[qt,af h]at hs;refine ix hlt ?_;refine⟨_,Wf _ l[k].id oO,λr hr=>?_⟩;rw[<-hs]at hr;subst hr;exact nx (k+1) (aO (k+1) hlt oO rfl wS oS);rw[ah h];rw[qt,aa h]at hs;exact nx (k+1) (aO (k+1) hlt oO rfl ⟨aF.refl _,aF.refl _,aF.eq (by rw[hs];rfl),aF.refl _,trivial⟩ oS);obtain rfl:k=l.length:=oO
 rw[aJ];exact rfl
def Js (out:List bD)(a:bD):Bool:=out.any λb=>decide (b.kind=7)&&decide (a.id∈b.over)
def rq (a:bD)(out:List bD):List bD:=if Js out a=true then out else a::out
def kJ (l:List bD):List bD:=l.foldr rq []
theorem Uk {l:List bD}{k:Nat}(h:k<l.length):kJ (l.drop k)=rq l[k] (kJ (l.drop (k+1))):=by rw[bL h];rfl
theorem AO:∀l:List bD,(kJ l).length<=l.length|[]=>ay _|a::l=>by have :=AO l;show(rq a (kJ l)).length<=_;unfold rq;split;simp only[aL];omega;simp only[aL];omega
theorem tS {x:bD}:∀{l:List bD},x∈kJ l->x∈l
 |[],h=>by cases h
 |a::l,h=>by have h:x∈rq a (kJ l):=h;unfold rq at h;split at h;exact bq _ (tS h);rcases aQ.1 h with rfl|h;simp;exact bq _ (tS h)
def oT (s:List bO):List bD:=kJ (fL s (bA s))
theorem GB (s:List bO):∀(n:Nat)(out:List Dg),(pg s n out).length<=out.length+n|0,out=>ay _|n+1,out=>by unfold pg;split;omega;rename_i x _;have :=GB s n (out++[x.id]);rw[aq]at this;simp only[aL,br]at this;omega
theorem pG (s:List bO):(bA s).length<=s.length:=by have :=GB s s.length [];simpa[bA]using this
theorem abZ (s:List bO)(hs:qH s)(hl:s.length<=400):ak C 105 [.sl (cn s)] (λr=>r=.val (.sl (eU (oT s)))):=by
 have Ua:=pG s;have hlen:(fL s (bA s)).length<=2^22*400:=by have h1:=sq s (bA s);have h3:2^22*(bA s).length<=2^22*400:=jv _ oO;omega
 have AN:∀a,a∈fL s (bA s)->a.over.length<=400:=rj;refine ag Tryz.func105 rfl rfl rfl ?_;refine cl (Rz s hs oO) ?_;refine cl (abY s (bA s) hs oO) ?_;unfold oT;generalize fL s (bA s)=l at hlen AN⊢;unfold eU;refine⟨((l.length:Nat):Int)-1,by rw[aj,wrap64 oO oO],?_⟩;refine bu 54 (λk:Nat=>[(3,.p (.sl (l.map cA))),(4,.p (.sl ((kJ (l.drop k)).map cA))),(5,.p (.int .i64 ((k:Int)-1)))]) (λ_=>[]) (λk=>k<=l.length) (λk=>k) l.length (ay _) rfl ⟨aF.refl _,by rw[cU (ay _)];exact aF.Gp _ _ _ _,aF.refl _,trivial⟩ trivial ?_;intro k hk;refine az (λhge=>?_) (λTS=>?_);obtain⟨j,rfl⟩:∃j,k=j+1:=⟨k-1,by have :(k:Int)-1≥0:=hge;omega⟩;have hjl:j<l.length:=oO
 have hji:(((j+1:Nat):Int)-1)=(j:Int):=oO
 have Mb:=Uk hjl;have hel:=AO (l.drop (j+1));rw[bV]at hel;have hem:∀b,b∈kJ (l.drop (j+1))->b.over.length<=400:=λb hb=>AN b (xm (tS hb));generalize kJ (l.drop (j+1))=out at Mb hel hem⊢;have ajn:(l.map cA)[(((j+1:Nat):Int)-1).toNat]?=some (cA l[j]):=by rw[hji];exact ct rfl hjl
 refine bu 54 (λm:Nat=>[(3,.p (.sl (l.map cA))),(4,.p (.sl (out.map cA))),(5,.p (.int .i64 (((j+1:Nat):Int)-1))),(6,.p (.bool (!Js (out.take m) l[j]))),(7,.p (.int .i64 m))]) (λ_=>[]) (λm=>m<=out.length) (λm=>out.length-m) 0 (zL) rfl wS trivial ?_;intro m hm;refine bQ (λhlt=>?_) (λtA=>?_);have hst:Js (out.take (m+1)) l[j]=(Js (out.take m) l[j]||(decide (out[m].kind=7)&&decide (l[j].id∈out[m].over))):=by unfold Js;rw[<-dn hlt,qm];simp
 refine cm 17 kK ?_;refine ix hlt ?_;refine aA (λh7=>?_) (λh7=>?_);have h7:out[m].kind=7:=h7;refine ix hlt ?_;refine⟨oO,_,ajn,rfl,?_⟩;refine cl (NY out[m].over l[j].id (by have :=hem out[m] (aK _);omega)) ?_;by_cases hin:l[j].id∈out[m].over;rw[an hin];rw[h7,an hin]at hst;exact nx (m+1) (aO (m+1) hlt oO rfl ⟨aF.refl _,aF.refl _,aF.refl _,aF.eq (by rw[hst];simp;rfl),aF.refl _,trivial⟩ trivial);rw[ah hin];rw[ah hin,xY,oh]at hst;exact nx (m+1) (aO (m+1) hlt oO rfl ⟨aF.refl _,aF.refl _,aF.refl _,aF.eq (by rw[hst];rfl),aF.refl _,trivial⟩ trivial);have h7:¬out[m].kind=7:=h7;rw[ah h7,jy,oh]at hst;exact nx (m+1) (aO (m+1) hlt oO rfl ⟨aF.refl _,aF.refl _,aF.refl _,aF.eq (by rw[hst];rfl),aF.refl _,trivial⟩ trivial);rw[ck oO];unfold rq at Mb;cases hr:Js out l[j]with
 |true=>rw[hr,af rfl]at Mb;refine⟨((j:Nat):Int)-1,by rw[hji,wrap64 oO oO],?_⟩;exact aO j oO oO rfl ⟨aF.refl _,aF.eq (by rw[Mb];rfl),aF.refl _,trivial⟩ trivial
 |false=>rw[hr,aa (show¬false=true by decide)]at Mb;refine⟨oO,_,ajn,rfl,?_⟩;refine⟨jk (l:=[l[j]]),jk,by show(1+(out.map cA).length)*296<=_;rw[aj];omega,(l[j]::out).map cA,rfl,?_⟩;refine⟨((j:Nat):Int)-1,by rw[hji,wrap64 oO oO],?_⟩;exact aO j oO oO rfl ⟨aF.refl _,by rw[Mb];exact aF.Gp _ _ _ _,aF.refl _,trivial⟩ trivial
 obtain rfl:k=0:=by have :¬((k:Int)-1≥0):=TS;omega
 exact rfl
def GC (s:List bO)(a:bD):Bool:=decide ((oR (oT s) a.id).length=0)
def wz (s:List bO):List bD:=(cz s).filter (GC s)
def gL (s:List bO):List bg:=(wz s).map λa=>a.id
theorem iJ {α:Type}{f:α->Bool}{l:List α}{k:Nat}(h:k<l.length):(l.take (k+1)).filter f=(l.take k).filter f++(if f l[k]=true then[l[k]]else[]):=by rw[<-dn h,kM];cases hf:f l[k]<;>simp[hf]
theorem jb {s:List bO}(hl:s.length<=400):(cz s).length<=2^22*400:=by
 have h1:=sq s (dx s);have h2:(dx s).length<=400:=by unfold dx;rw[aj];exact hl
 have h3:2^22*(dx s).length<=2^22*400:=jv _ h2;unfold cz;omega
theorem uw {s:List bO}(hl:s.length<=400):(wz s).length<=2^22*400:=bH (di _ _) (jb hl)
theorem WB (s:List bO)(hs:qH s)(hl:s.length<=400)(hE:(oT s).length<=2^20):ak C 79 [.sl (cn s)] (λr=>r=.val (.sl (eU (wz s)))):=by
 have hlen:=jb hl;have AN:∀a,a∈oT s->a.over.length<=2^47:=λa ha=>by have :=rj a (tS ha);omega
 refine ag Tryz.func79 rfl rfl rfl ?_;refine cl (DW s hs hl) ?_;refine cl (abZ s hs hl) ?_;have hk:=λx=>WA (oT s) x hE AN;unfold wz;have hlf:∀a,GC s a=decide ((oR (oT s) a.id).length=0):=λ_=>rfl;generalize cz s=l at hlen⊢;generalize GC s=f at hlf⊢;generalize oT s=e at hk hlf⊢;refine bu 35 (λk:Nat=>[(3,.p (.sl (l.map cA))),(4,.p (.sl (eU e))),(5,.eH 11 48 172 (((l.take k).filter f).map cA)),(6,.p (.int .i64 k))]) (λ_=>[]) (λk=>k<=l.length) (λk=>l.length-k) 0 (zL) rfl wS trivial ?_;intro k hk2;refine bQ (λhlt=>?_) (λhge=>?_);have hf:=iJ (f:=f) hlt;have hfl:((l.take k).filter f).length<=l.length:=bH (di _ _) (xZ _ _);refine ix hlt ?_;refine cl (hk l[k].id) ?_;have Pw:(((iq (oR e l[k].id)).length:Nat):Int)=((oR e l[k].id).length:Int):=by simp[iq]
 refine aA (λh=>?_) (λh=>?_);have h:(((iq (oR e l[k].id)).length:Nat):Int)=0:=h;rw[hlf,an (show(oR e l[k].id).length=0 by omega),af rfl]at hf;refine ix hlt ?_;refine⟨jk,jk (l:=[l[k]]),by show((((l.take k).filter f).map cA).length+1)*296<=_;rw[aj];omega,((l.take (k+1)).filter f).map cA,by rw[hf,aM];rfl,?_⟩;exact nx (k+1) (aO (k+1) hlt oO rfl wS trivial);have h:¬(((iq (oR e l[k].id)).length:Nat):Int)=0:=h;rw[hlf,ah (show¬(oR e l[k].id).length=0 by omega),aa (show¬false=true by decide),aY]at hf;exact nx (k+1) (aO (k+1) hlt oO rfl ⟨aF.refl _,aF.refl _,aF.eq (by rw[hf];rfl),aF.refl _,trivial⟩ trivial);obtain rfl:k=l.length:=oO
 rw[aJ];exact .inr rfl
theorem OA (s:List bO)(hs:qH s)(hl:s.length<=400)(hE:(oT s).length<=2^20):ak C 46 [.sl (cn s)] (λr=>r=.val (.sl (iq (gL s)))):=by
 have hlen:=uw hl;refine ag Tryz.func46 rfl rfl rfl ?_;refine cl (WB s hs hl hE) ?_;unfold gL;generalize wz s=l at hlen⊢;refine bu 24 (λk:Nat=>[(3,.p (.sl (l.map cA))),(4,.eH 8 33 33 (((l.take k).map λa=>a.id).map cI)),(5,.p (.int .i64 k))]) (λ_=>[]) (λk=>k<=l.length) (λk=>l.length-k) 0 (zL) rfl wS trivial ?_;intro k hk;refine bQ (λhlt=>?_) (λhge=>?_);refine ix hlt ?_;refine⟨fB,fB (l:=[l[k].id]),by show((((l.take k).map λa=>a.id).map cI).length+1)*40<=_;rw[aj,aj,aD];omega,((l.take (k+1)).map λa=>a.id).map cI,by rw[cq hlt,aM];rfl,?_⟩;exact nx (k+1) (aO (k+1) hlt oO rfl wS trivial);obtain rfl:k=l.length:=oO
 rw[aJ];exact .inr rfl
theorem ab0 (s:List bO)(x:bg)(hs:qH s)(hl:s.length<=400)(hE:(oT s).length<=2^20):ak C 81 [.sl (cn s),.agg (cI x)] (λr=>r=.val (.bool (decide (x∈gL s)))):=by have hlen:=uw hl;refine ag Tryz.func81 rfl rfl rfl ?_;refine cm 3 kK ?_;refine⟨_,OA s hs hl hE,?_⟩;refine cl (NY (gL s) x (by unfold gL;rw[aj];omega)) ?_;exact rfl
end Qv
