/- Part 15 of the proof: its lemmas. No condition. -/
import Derived.Test.YtlbofhenpfnenaaGreatDoorX1
import Derived.Test.YtlbofhenpfnenaaGreatDoorX3
set_option maxRecDepth 10000
set_option maxHeartbeats 80000000
set_option linter.all false
open Go Go.Proofs Go.RowKit
namespace Qv
theorem RD (s:List bK)(x:bK)(d:Dg)(hx:s.find? (λx=>decide (x.id=d))=some x)(hl:s.length<=2^40):aj C 92 [.sl (cU s),.agg (cD d)] (λr=>r=.val (.eY [.agg (cP x.pat),.bool true])):=by unfold cU;refine ag Tryz.func92 rfl rfl rfl ?_;refine⟨[3],bZ (cells:=aF (cD d)) (ys:=cD d) rfl (bl _) rfl ?_⟩;refine cl (IZ s 120 (.imp (cD d)) (λx=>decide (x.id=d)) (λx _=>LY x d) oO) ?_;rcases td (λx:bK=>decide (x.id=d)) s 0 with⟨-,h2⟩|⟨k,hk,h1,h2⟩;rw[hx]at h2;cases h2;rw[h1];rw[hx]at h2;obtain rfl:=an h2;refine az (λh=>absurd h oO) (λ_=>?_);refine⟨oO,mO s[k],by rw[cz];exact cO rfl hk,rfl,?_⟩;exact rfl
theorem GJ (a b:Dg):jR (.agg (cD a)) (.agg (cD b))=decide (a=b):=Vx a b
theorem agj (d:Dg):gz true yw (.agg (cD d))=true:=rfl
def dE (l:List Dg):List (AV×FV):=l.map λd=>(.agg (cD d),.p (.bool true))
def dK (l:List Dg):List AV:=l.map λd=>.agg (cD d)
def dV (l:List Dg):List AV:=l.map λ_=>.bool true
theorem uA (l:List Dg):∀p,p∈dE l->gz true yw p.1=true:=by intro p hp;obtain⟨d,-,rfl⟩:=aA.1 hp;exact agj d
theorem As (l:List Dg)(d:Dg):rJ (.agg (cD d)) (dE l)=if d∈l then some (.p (.bool true))else none:=by
 induction l with
 |nil=>rfl
 |cons x l ih=>show(match jR (.agg (cD d)) (.agg (cD x))with|true=>some (FV.p (.bool true))|false=>rJ (.agg (cD d)) (dE l))=_;rw[GJ,ih];by_cases h:d=x;subst h;rw[av rfl,af (gq ..)];rw[ak h];by_cases h2:d∈l;rw[af h2,af (bh _ h2)];rw[aa h2,aa (by simp[h,h2])]
theorem ab5 {l:List Dg}{d:Dg}(h:d∉l):BY (.agg (cD d)) (.p (.bool true)) (dE l)=dE (l++[d]):=by
 induction l with
 |nil=>rfl
 |cons x l ih=>show(match jR (.agg (cD d)) (.agg (cD x))with|true=>_|false=>(AV.agg (cD x),FV.p (.bool true))::BY (.agg (cD d)) (.p (.bool true)) (dE l))=_;rw[GJ,ak (λe=>h (by rw[e];simp)),ih (λg=>h (bh _ g))];rfl
theorem xF:∀l:List Dg,BZ (dK l) (aF (dV l))=dE l|[]=>rfl|d::l=>by show(_::BZ (dK l) (aF (dV l)))=_;rw[xF l];rfl
theorem VU:∀l:List Dg,gA (dE l)=dK l|[]=>rfl|d::l=>by show(_::gA (dE l))=_;rw[VU l];rfl
theorem VV:∀l:List Dg,FV.fF (tj (dE l))=some (dV l)|[]=>rfl|d::l=>by show FV.fF (FV.p (.bool true)::tj (dE l))=_;simp only[FV.fF,FV.fe,VV l];rfl
theorem rF (k:Nat):∀l:List Dg,BV (FV.kill k) (dE l)=dE l|[]=>rfl|d::l=>by show((AV.agg (cD d),FV.p (.bool true))::BV (FV.kill k) (dE l))=_;rw[rF k l];rfl
section
variable (N:fW->List Dg)
def gE (s:List bK):List (AV×FV):=s.map λx=>(.agg (cD x.id),.p (.sl (jJ (N x.pat))))
def Ui (s:List bK):List AV:=s.map λx=>.agg (cD x.id)
def Uj (s:List bK):List AV:=s.map λx=>.sl (jJ (N x.pat))
theorem DD (s:List bK):∀p,p∈gE N s->gz true yw p.1=true:=by intro p hp;obtain⟨d,-,rfl⟩:=aA.1 hp;exact agj d.id
theorem GK (s:List bK)(d:Dg):rJ (.agg (cD d)) (gE N s)=(s.find? λx=>decide (x.id=d)).map λx=>.p (.sl (jJ (N x.pat))):=by
 induction s with
 |nil=>rfl
 |cons x s ih=>show(match jR (.agg (cD d)) (.agg (cD x.id))with|true=>some (FV.p (.sl (jJ (N x.pat))))|false=>rJ (.agg (cD d)) (gE N s))=_;rw[GJ,ih,mo];by_cases h:d=x.id;rw[av h,av h.symm];rfl;rw[ak h,ak (dM h)]
theorem ahq {s:List bK}{x:bK}(h:x.id∉s.map λy=>y.id):BY (.agg (cD x.id)) (.p (.sl (jJ (N x.pat)))) (gE N s)=gE N (s++[x]):=by
 induction s with
 |nil=>rfl
 |cons y s ih=>show(match jR (.agg (cD x.id)) (.agg (cD y.id))with|true=>_|false=>(AV.agg (cD y.id),FV.p (.sl (jJ (N y.pat))))::BY (.agg (cD x.id)) (.p (.sl (jJ (N x.pat)))) (gE N s))=_;rw[GJ,ak (λe=>h (by rw[e];simp)),ih (λg=>h (by simp at g⊢;exact .inr g))];rfl
theorem xG:∀s:List bK,BZ (Ui s) (aF (Uj N s))=gE N s|[]=>rfl|x::s=>by show(_::BZ (Ui s) (aF (Uj N s)))=_;rw[xG s];rfl
theorem VW:∀s:List bK,gA (gE N s)=Ui s|[]=>rfl|x::s=>by show(_::gA (gE N s))=_;rw[VW s];rfl
theorem VX:∀s:List bK,FV.fF (tj (gE N s))=some (Uj N s)|[]=>rfl|x::s=>by show FV.fF (FV.p (.sl (jJ (N x.pat)))::tj (gE N s))=_;simp only[FV.fF,FV.fe,VX s];rfl
theorem Og (k:Nat):∀s:List bK,BV (FV.kill k) (gE N s)=gE N s|[]=>rfl|x::s=>by show((AV.agg (cD x.id),FV.p (.sl (jJ (N x.pat))))::BV (FV.kill k) (gE N s))=_;rw[Og k s];rfl
theorem dP {maps:List (Nat×List (AV×FV))}{o:Nat}{l0 l:List (AV×FV)}(h:getM maps o=some l0)(e:l0=l):∃l0,getM maps o=some l0/\l0.length=l.length/\∀(i:Nat)(p p':AV×FV),l0[i]?=some p->l[i]?=some p'->p'.1=p.1/\aR p.2 p'.2:=by subst e;exact nv h
def DE (s:List bK):Prop:=∀x,x∈s->aj C 237 [.agg (cP x.pat)] (λr=>r=.val (.sl (jJ (N x.pat))))
theorem FX (s:List bK)(hN:DE N s)(hn:(s.map λx=>x.id).Nodup)(hl:s.length<=2^40):aj C 194 [.sl (cU s)] (λr=>r=.val (.mp (Ui s) (Uj N s))):=by
 unfold cU;refine bn {opens:=[],Be:=[],full:=false} [] Tryz.func194 rfl rfl rfl ?_;refine vz 21 0 (λk:Nat=>[(3,.fK 6),(7,.p (.sl (s.map mO))),(8,.p (.int .i64 ((s.map mO).length:Int))),(9,.p (.int .i64 k))]) (λ_=>[]) (λ_=>[]) [] (λ_=>[]) (λk=>[(6,gE N (s.take k))]) (λ_=>[]) (λk=>k<=s.length) (λk=>s.length-k) 0 (zL) kK wS trivial trivial trivial ⟨nv kK,trivial⟩ trivial ?_;intro k hk;refine bY (l:=s) (f:=mO) (λhlt=>?_) (λhge=>?_);have hne:=hN s[k] (aL _);have jc:(s.map mO)[((k:Nat):Int).toNat]?=some (mO s[k]):=cO rfl hlt;have hnew:s[k].id∉(s.take k).map λy=>y.id:=by
  intro hm;have h1:(s.map λx=>x.id)=(s.take k).map (λx=>x.id)++(s.drop k).map (λx=>x.id):=by rw[<-aN,dw]
  rw[h1,gW]at hn;exact hn.2.2 _ hm _ (aA.2 ⟨s[k],by rw[bQ hlt];exact gq ..,rfl⟩) rfl
 have hup:=ahq N hnew;rw[<-ef hlt]at hup;generalize s[k]=x at hne jc hup;refine⟨oO,_,jc,rfl,?_⟩;refine cG 6 kK ?_;refine⟨_,hne.dL,?_⟩;refine⟨yw,dR,rfl,(by rw[Og];exact DD N _),gE N (s.take (k+1)),(by rw[Og];exact hup),?_⟩;exact nx (k+1) (mN (k+1) hlt oO kK wS trivial trivial trivial ⟨nv kK,trivial⟩ trivial);obtain rfl:k=s.length:=oO
 rw[aP];exact⟨Ui s,Uj N s,⟨_,rfl,VW N s,VX N s⟩,rfl⟩
theorem RE (d:Dg)(out:List Dg):aj C 209 [.agg (cD d),.imp [.mp (dK out) (dV out)]] (λr=>r=.val (.bool (!decide (d∈out)))):=by refine ag Tryz.func209 rfl rfl rfl ?_;by_cases h:d∈out;rw[av h];refine⟨yw,dR,rfl,(by rw[xF];exact uA out),some (.p (.bool true)),(by rw[xF];exact(As out d).trans (af h)),?_⟩;refine bq ?_;exact rfl;rw[ak h];refine⟨yw,dR,rfl,(by rw[xF];exact uA out),none,(by rw[xF];exact(As out d).trans (aa h)),.bool false,kK,?_⟩;refine bq ?_;exact rfl
def DF (out:List Dg)(x:bK):Bool:=!decide (x.id∈out)&&!((N x.pat).any λd=>!decide (d∈out))
theorem RF (s:List bK)(x:bK)(hx:s.find? (λy=>decide (y.id=x.id))=some x)(out:List Dg)(hl:(N x.pat).length<=2^47):aj C 207 [.agg (mO x),.imp [.mp (dK out) (dV out)],.imp [.mp (Ui s) (Uj N s)]] (λr=>r=.val (.bool (DF N out x))):=by refine bn {opens:=[],Be:=[],full:=false} [] Tryz.func207 rfl rfl rfl ?_;refine⟨none,?_⟩;unfold DF;by_cases h:x.id∈out;rw[av h];refine⟨yw,dR,rfl,(by rw[xF];exact uA out),some (.p (.bool true)),(by rw[xF];exact(As out x.id).trans (af h)),?_⟩;refine bq ?_;exact rfl;rw[ak h];refine⟨yw,dR,rfl,(by rw[xF];exact uA out),none,(by rw[xF];exact(As out x.id).trans (aa h)),.bool false,kK,?_⟩;refine bq ?_;refine⟨yw,dR,rfl,(by rw[xG];exact DD N s),some (.p (.sl (jJ (N x.pat)))),(by rw[xG];exact(GK N s x.id).trans (by rw[hx];rfl)),?_⟩;refine⟨[],?_⟩;refine cl (ab3 (N x.pat) 209 (.imp [.mp (dK out) (dV out)]) (λd=>!decide (d∈out)) (λd _=>RE d out) hl).dL ?_;refine bq ?_;exact rfl
def Gt (s:List bK):Nat->List Dg->List Dg|0,out=>out|n+1,out=>match s.find? (DF N out)with|none=>out|some x=>Gt s n (out++[x.id])
theorem GL {s:List bK}(hn:(s.map λx=>x.id).Nodup){x:bK}(hx:x∈s):s.find? (λy=>decide (y.id=x.id))=some x:=by
 induction s with
 |nil=>cases hx
 |cons y s ih=>rw[cE,jh]at hn;rw[mo];rcases aG.1 hx with rfl|hx;simp;have :y.id≠x.id:=λe=>hn.1 (aA.2 ⟨x,hx,e.symm⟩);rw[ak this];exact ih hn.2 hx
theorem RG (s:List bK)(hN:DE N s)(hn:(s.map λx=>x.id).Nodup)(hl:s.length<=2^30)(hNl:∀x,x∈s->(N x.pat).length<=2^47):aj C 179 [.sl (cU s)] (λr=>r=.val (.sl (jJ (Gt N s s.length [])))):=by
 have hg:=FX N s hN hn oO;unfold cU at hg⊢;refine bn {opens:=[],Be:=[],full:=false} [] Tryz.func179 rfl rfl rfl ?_;refine cl hg.dL ?_;refine vz 35 0 (λx:Nat×List Dg=>[(0,.p (.sl (s.map mO))),(3,.ptr 3 0),(4,.ptr 4 0),(5,.eU 32 31 32 (jJ x.2)),(11,.p (.int .i64 ((s.map mO).length:Int))),(12,.p (.int .i64 x.1))]) (λ_=>[(3,[.p (.mp (Ui s) (Uj N s))]),(4,[.fK 9])]) (λ_=>[]) [] (λ_=>[]) (λx=>[(9,dE x.2)]) (λ_=>[]) (λx=>x.1<=s.length/\x.2.length<=x.1/\Gt N s s.length []=Gt N s (s.length-x.1) x.2) (λx=>s.length-x.1) (0,[]) ⟨zL,ay _,rfl⟩ kK ⟨aR.eq kK,aR.eq kK,aR.eq kK,aR.mC _ _ _,aR.eq kK,aR.eq kK,trivial⟩ oS trivial trivial ⟨nv kK,trivial⟩ trivial ?_;rintro⟨k,out⟩ ⟨hk,VG,hE⟩;have hk:k<=s.length:=hk;have VG:out.length<=k:=VG;have hE:Gt N s s.length []=Gt N s (s.length-k) out:=hE;refine bY (l:=s) (f:=mO) (λhlt=>?_) (λhge=>?_);rw[show s.length-k=(s.length-(k+1))+1 from oO]at hE;have hE:Gt N s s.length []=(match s.find? (DF N out)with|none=>out|some x=>Gt N s (s.length-(k+1)) (out++[x.id])):=hE;refine⟨[],?_⟩;refine .inr (.inl (.inr ⟨[.sl (s.map mO),.fn (.func 207) [] [.imp [.mp (dK out) (dV out)],.imp [.mp (Ui s) (Uj N s)]]],_,.cons (.plain rfl) (.cons (.fn .nil (.cons (.ptr rfl (.cons (.fK rfl (VU out) (.plain (VV out))) .nil) (λy hy=>by rw[aO.1 hy];rfl)) (.cons (.ptr rfl (.plain rfl) (λy hy=>by rw[aO.1 hy];rfl)) .nil))) .nil),(Uf s 207 _ _ (DF N out) (λx hx=>RF N s x (GL hn hx) out (hNl x hx)) oO).dL,λr hr=>?_⟩));subst hr;refine⟨⟨_,rfl,rfl⟩,?_⟩;rcases td (DF N out) s 0 with⟨h1,h2⟩|⟨i,hi,h1,h2⟩;rw[h1];rw[h2]at hE;refine az (λ_=>?_) (λh=>absurd (show(-1:Int)<0 by decide) h);rw[hE];exact .inr rfl;rw[h1];rw[h2]at hE;refine az (λh=>absurd h oO) (λ_=>?_);have Bm:=mq h2;have hnew:s[i].id∉out:=by unfold DF at Bm;simp only[aY,eP,decide_eq_false_iff_not]at Bm;exact Bm.1
 have jc:(s.map mO)[((0+i:Nat):Int).toNat]?=some (mO s[i]):=by rw[cz];exact cO rfl hi
 generalize s[i]=x at hE hnew jc;refine cG 6 kK ?_;refine⟨oO,_,jc,rfl,?_⟩;refine⟨yw,dR,rfl,uA out,dE (out++[x.id]),ab5 hnew,?_⟩;refine⟨oO,_,jc,rfl,?_⟩;refine⟨(λzs hz=>by obtain⟨y,-,rfl⟩:=aA.1 hz;rfl),(λzs h=>by rw[aO.1 h];rfl),by show((jJ out).length+1)*32<=_;rw[show(jJ out).length=out.length from by simp[jJ]];omega,jJ (out++[x.id]),by unfold jJ;rw[aN];rfl,?_⟩;exact nx (k+1) (mN (k+1,out++[x.id]) ⟨hlt,by show(out++[x.id]).length<=k+1;rw[au];simp only[fo];omega,hE⟩ (by show s.length-(k+1)<s.length-k;omega) kK wS oS trivial trivial ⟨dP rfl (by simp only[rF]),trivial⟩ trivial);obtain rfl:k=s.length:=oO
 rw[Nat.sub_self]at hE;have hE:Gt N s s.length []=out:=hE;rw[hE];exact .inr rfl
end
end Qv
