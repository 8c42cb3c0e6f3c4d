/- Part 17 of the proof: its lemmas. No condition. -/
import Derived.Test.YtlbofhenpfnenaaGreatDoorU16
set_option maxRecDepth 10000
set_option maxHeartbeats 80000000
set_option linter.all false
namespace Qv
open Go Go.RowKit
section
variable {E:Env}{G:aV}{S:ai}{a:Act}{w:World}
def qe (tmps:Array Value):ResultVar->Sem Value|.tmp t=>pure (tmps.getD t undef)|.cell a t=>do loadVar t (<-asAddr (tmps.getD a undef))
def VU:List Value->Value|[v]=>v|vs=>.tuple vs.toArray
theorem kS (fn:Func)(tmps:Array Value)(P:Program)(w:World){vs:List Value}(h:(fn.results.toList.mapM (qe tmps)).run P w=.ok vs w):(results fn tmps).run P w=.ok (VU vs) w:=by
 have h2:(fn.results.mapM (qe tmps)).run P w=.ok vs.toArray w:=by rw[Array.mapM_eq_mapM_toList];simp only[Sem.run_map,h,Result.andThen_ok]
 have h3:results fn tmps=(do let vs<-fn.results.mapM (qe tmps);pure (if h:vs.size=1 then vs[0]else .tuple vs)):=by unfold results;congr 1
 rw[h3];simp only[Sem.run_bind,h2,Result.andThen_ok,Sem.run_pure];congr 1;match vs with
  |[]=>rfl
  |[v]=>rfl
  |v::u::r=>rfl
theorem zM (hs:bp E G S a w){ad:Nat}{t:TypeId}{K:FV->Prop}(h:nt E.C S.aN t (S.get ad) K):∃v x,(qe a.tmps (.cell ad t)).run E.C.P w=.ok v w/\K x/\aT G w v x:=by obtain⟨p,v,x,h1,h2,h3,h4⟩:=Lz hs (aT.get hs ad) h;exact⟨v,x,by simp only[qe,Sem.run_bind,h1,asAddr,Sem.run_pure,Result.andThen_ok,h2],h3,h4⟩
theorem yG (hs:bp E G S a w):∀(rs:List ResultVar)(K:List AV->Prop),mN E.C S rs K->∃vs xs,(rs.mapM (qe a.tmps)).run E.C.P w=.ok vs w/\K xs/\vs.length=rs.length/\vs.length=xs.length/\∀(i:Nat)(c:Value)(x:AV),vs[i]?=some c->xs[i]?=some x->dh G.aZ w c x:=by
 intro rs;induction rs with
 |nil=>intro K h;exact⟨[],[],by simp,h,rfl,rfl,by simp⟩
 |cons r rs ih=>
  have fin:∀(K:List AV->Prop){v:Value}{y:AV},(qe a.tmps r).run E.C.P w=.ok v w->dh G.aZ w v y->mN E.C S rs (λxs=>K (y::xs))->∃vs xs,((r::rs).mapM (qe a.tmps)).run E.C.P w=.ok vs w/\K xs/\vs.length=(r::rs).length/\vs.length=xs.length/\∀(i:Nat)(c:Value)(x:AV),vs[i]?=some c->xs[i]?=some x->dh G.aZ w c x:=λK {v y} h1 h2 h3=>by obtain⟨vs,xs,g1,g2,g3,g4,g5⟩:=ih _ h3;refine⟨v::vs,y::xs,by simp_all,g2,by grind,by grind,λi c x hc hx=>?_⟩;grind
  intro K h;cases r with
  |tmp t=>simp only[mN]at h;split at h;rename_i y hy;exact fin K (v:=a.tmps.getD t undef) rfl ((aT.get hs t).fh hy) h;simp_all
  |cell ad t=>simp only[mN]at h;obtain⟨v,x,h1,h2,h3⟩:=zM hs h;split at h2;rename_i y hy;exact fin K h1 (h3.fh hy) h2;simp_all
theorem tq (hs:bp E G S a w){v:Value}{x:AV}(h:dh G.aZ w v x):dh (mF E.BF E.w0.heap.size) w v x:=h.keep (λb o hi=>hs.oy b o hi) (λ_ _ _ _ h=>h) (.refl _ _)
theorem qf (hs:bp E G S a w):∀(rs:List ResultVar)(K:List FV->Prop),sH E.C S rs K->∃vs xs,(rs.mapM (qe a.tmps)).run E.C.P w=.ok vs w/\K xs/\vs.length=rs.length/\vs.length=xs.length/\∀(i:Nat)(c:Value)(x:FV),vs[i]?=some c->xs[i]?=some x->aT G w c x:=by
 intro rs;induction rs with
 |nil=>intro K h;exact⟨[],[],by simp,h,rfl,rfl,by simp⟩
 |cons r rs ih=>
  have fin:∀(K:List FV->Prop){v:Value}{y:FV},(qe a.tmps r).run E.C.P w=.ok v w->aT G w v y->sH E.C S rs (λxs=>K (y::xs))->∃vs xs,((r::rs).mapM (qe a.tmps)).run E.C.P w=.ok vs w/\K xs/\vs.length=(r::rs).length/\vs.length=xs.length/\∀(i:Nat)(c:Value)(x:FV),vs[i]?=some c->xs[i]?=some x->aT G w c x:=λK {v y} h1 h2 h3=>by obtain⟨vs,xs,g1,g2,g3,g4,g5⟩:=ih _ h3;refine⟨v::vs,y::xs,by simp_all,g2,by grind,by grind,λi c x hc hx=>?_⟩;grind
  intro K h;cases r with
  |tmp t=>exact fin K (v:=a.tmps.getD t undef) rfl (aT.get hs t) h
  |cell ad t=>simp only[sH]at h;obtain⟨v,x,h1,h2,h3⟩:=zM hs h;exact fin K h1 h3 h2
theorem Ds {vs:List Value}{xs:List FV}(hl:vs.length=xs.length)(h:∀(i:Nat)(c:Value)(x:FV),vs[i]?=some c->xs[i]?=some x->aT G w c x):aT G w (VU vs) (Nr xs):=by
 match vs,xs,hl with
  |[v],[x],_=>exact h 0 v x rfl rfl
  |[],[],_=>exact .eV [] [] rfl (by simp)
  |v::u::vs,x::y::xs,hl=>exact .eV (v::u::vs) (x::y::xs) hl h
  |[],_::_,hl=>simp_all
  |[_],[],hl=>simp_all
  |[_],_::_::_,hl=>simp_all
  |_::_::_,[],hl=>simp_all
  |_::_::_,[_],hl=>simp_all
theorem aT.bare {G:aV}{w:World}{v:Value}{x:FV}(h:aT G w v x){aZ:Nat->Nat->Prop}(hi:∀b o,G.aZ b o->aZ b o):x.safe []=true->aT (bare aZ) w v x:=by
 have key:∀{xs:List FV},FV.uL [] xs=true->∀x,x∈xs->x.safe []=true:=by
  intro xs;induction xs with
  |nil=>simp_all
  |cons y ys ih=>intro h x hx;simp only[FV.uL]at h;grind
 induction h with
 |p v x h=>intro _;exact .p v x (h.keep hi (λ_ _ _ _ h=>h) (.refl _ _))
 |agg cs xs hn _ ih=>intro hs;simp only[FV.safe]at hs;exact .agg cs xs hn λi c x h1 h2=>ih i c x h1 h2 (key hs x (bz h2))
 |eV cs xs hn _ ih=>intro hs;simp only[FV.safe]at hs;exact .eV cs xs hn λi c x h1 h2=>ih i c x h1 h2 (key hs x (bz h2))
 |ptr o off b h=>intro hs;simp[FV.safe,iF]at hs
 |eH t T bP xs a c h1 h2=>intro hs;simp[FV.safe,iF]at hs
 |full xs a h=>intro _;exact .full xs a (h.keep hi (λ_ _ _ _ h=>h) (.refl _ _))
 |fn f fs cs first captured hn hn' _ _ ih HN=>intro hs;simp only[FV.safe]at hs;split at hs;rename_i h1;exact .fn f fs cs first captured hn hn' (λi c x h2 h3=>ih i c x h2 h3 (key h1 x (bz h3))) (λi c x h2 h3=>HN i c x h2 h3 (key hs x (bz h3)));simp_all
 |ni l k h=>intro hs;simp[FV.safe,iF]at hs
 |fe o T bP n c b h1 h2 h3 h4=>intro hs;simp[FV.safe,iF]at hs
 |uH o x T bP n c b off h1 h2 h0 h3 h4=>intro hs;simp[FV.safe,iF]at hs
 |ij o base off b h=>intro hs;simp[FV.safe,iF]at hs
 |fI o b h=>intro hs;simp[FV.safe,iF]at hs
 |Bh o b h=>intro hs;simp[FV.safe,iF]at hs
 |dF v=>intro _;exact .dF v
theorem XI {xs:List FV}(h:FV.uL [] xs=true):(Nr xs).safe []=true:=by
 match xs,h with
  |[],_=>rfl
  |[x],h=>simp only[FV.uL]at h;split at h;assumption;simp_all
  |_::_::_,h=>exact h
theorem VV (hs:bp E G S a w){v:Value}{o bP:Nat}{T:TypeId}(hr:aT G w v (.fe o T bP)){R:cQ->Prop}{rest:Option (List AV)}{us:List Value}(h:ZR S o bP λxss=>R (.own rest T bP xss))(hu:∀r,rest=some r->us.length=r.length/\∀(i:Nat)(u:Value)(x:AV),us[i]?=some u->r[i]?=some x->dh G.aZ w u x):∃xss,R (.own rest T bP xss)/\nk E.BF E.w0.heap.size w (agF rest v us) (.own rest T bP xss):=by obtain⟨n,c,b,rfl,h1,h2,h3,h4⟩:=hr.Hu;obtain⟨xss,g1,g2,g3⟩:=h;split at g2;rename_i cells hc;obtain⟨hon,hc⟩:=jh hc;obtain⟨t1,t2,⟨cs,fr,tt,-⟩,t3⟩:=hs.fF _ _ _ _ _ h2;obtain⟨-,-,l3⟩:=hs.iz o b h1;have hlen:=(hs.cE o o b _ h1 h2).2.2 cells hc;obtain⟨b',k1,k2⟩:=hs.aN o cells hc;rw[h1]at k1;obtain rfl:=au k1;obtain⟨k3,k4⟩:=FV.jg g2;have hfl:xss.flatten.length=xss.length*bP:=gG λzs hz=>(g1 zs hz).1;obtain rfl:n=xss.length:=gm h4 oO;have hI:∀{u:Value}{x:AV},dh G.aZ w u x->dh (ZC E.BF E.w0.heap.size b) w u x:=λh=>h.keep (λb' o' hi=>(hs.oy b' o' hi).imp id λh=>⟨h,λe=>(l3 o').1 (e▸hi)⟩) (λ_ _ _ _ h=>h) (.refl _ _);refine⟨xss,g3,b,c,cs,fr,us,rfl,t2,t1,h4,h3,g1,tt,λi=>(l3 i).2,λi hi=>?_,λi x hx=>?_,λr hr=>⟨(hu r hr).1,λi u x q1 q2=>hI ((hu r hr).2 i u x q1 q2)⟩⟩;by_cases hin:i<cells.length;obtain⟨u,q1,-⟩:=k2 i _ (av hin);simp_all;simp_all;obtain⟨y,q1,q2⟩:=k4 i x hx;obtain⟨u,q3,q4⟩:=k2 i y q1;exact⟨u,q3,hI (q4.fh q2)⟩;simp_all
theorem eV (hs:bp E G S a w){fn:Func}{R:cQ->Prop}{rs:List ResultVar}(hrs:fn.results.toList=rs)(hn:rs.length≠1)(h:mN E.C S rs λxs=>R (.val (.eV xs))):∃v r,(results fn a.tmps).run E.C.P w=.ok v w/\R r/\nk E.BF E.w0.heap.size w v r:=by
 obtain⟨vs,xs,g1,g2,g3,g4,g5⟩:=yG hs _ _ h;refine⟨_,_,kS fn a.tmps E.C.P w (hrs▸g1),g2,?_⟩;have :VU vs=Value.tuple vs.toArray:=by
  match vs,g3 with
   |[],_=>rfl
   |[v],g3=>simp_all
   |v::u::r,_=>rfl
 rw[this];exact tq hs (.eV vs xs g4 g5)
theorem IF (hs:bp E G S a w){fn:Func}{R:cQ->Prop}(h:zh E.C fn.results.toList R S):∃v r,(results fn a.tmps).run E.C.P w=.ok v w/\R r/\nk E.BF E.w0.heap.size w v r:=by
 unfold zh at h;split at h;obtain⟨vs,xs,g1,g2,g3,g4,g5⟩:=qf hs _ _ h;split at g2;rename_i aiP;exact⟨_,_,kS fn a.tmps E.C.P w g1,g2,(Ds g4 g5).bare (λb o hi=>hs.oy b o hi) (XI aiP)⟩;simp_all;split at h;rename_i t hrs;have hrun:(results fn a.tmps).run E.C.P w=.ok (a.tmps.getD t undef) w:=by have :=kS fn a.tmps E.C.P w (vs:=[a.tmps.getD t undef]) (by rw[hrs];rfl);exact this
 have hr:=aT.get hs t;generalize a.tmps.getD t undef=v at hrun hr;split at h;rename_i k T bP xs hg;rw[hg]at hr;rcases h with h|h;refine⟨v,_,hrun,h,?_⟩;cases hr with
 |eH _ _ _ _ ad c h1 h2=>refine⟨ad,c,rfl,?_⟩;rcases h2 with⟨rfl,rfl⟩|⟨b,off,rfl,h3,h4⟩;exact .inl ⟨rfl,rfl,tq hs h1⟩;obtain⟨t1,t2,⟨cs,fr,tt,-⟩,t3⟩:=hs.fF _ _ _ _ _ h4;refine .inr ⟨b,off,cs,fr,rfl,t2,t1,h3,tt,λi hi hi'=>⟨(t3 i hi hi').1,(t3 i hi hi').2.1⟩,?_⟩;refine h1.keep (λb' o hi=>?_) (λ_ _ _ _ h=>h) (.refl _ _);rcases hs.oy b' o hi with h5|h5;simp_all;grind
 exact⟨v,_,hrun,h,tq hs (hr.fh rfl)⟩;rename_i hg;rw[hg]at hr;rcases h with⟨T,bP,h⟩|h;refine⟨v,_,hrun,h,?_⟩;cases hr with
 |full _ ad h1=>exact⟨ad,0,rfl,.inl ⟨rfl,rfl,tq hs h1⟩⟩
 exact⟨v,_,hrun,h,tq hs (hr.fh rfl)⟩;rename_i o hg;rw[hg]at hr;obtain⟨ks,vs,hf,h⟩:=h;obtain⟨G',hs',up⟩:=hs.Tu hf;have hu:=up v _ hr;rw[show(FV.fI o).fm o (.mp ks vs)=.p (.mp ks vs)from by simp[FV.fm]]at hu;exact⟨v,_,hrun,h,tq hs' (hu.fh rfl)⟩;rename_i o T bP hg;rw[hg]at hr;obtain⟨xss,g1,g2⟩:=VV hs hr h (rest:=none) (us:=[]) (λr h=>by grind);exact⟨v,_,hrun,g1,g2⟩;split at h;rename_i y hy;exact⟨v,_,hrun,h,tq hs (hr.fh hy)⟩;simp_all;rename_i ad t hrs;obtain⟨v,x,h1,h2,h3⟩:=zM hs h;split at h2;rename_i y hy;exact⟨v,_,kS fn a.tmps E.C.P w (vs:=[v]) (by simp_all),h2,tq hs (h3.fh hy)⟩;simp_all;rename_i t r1 rest hrs;split at h;rename_i o T bP hg;have hr:=aT.get hs t;rw[hg]at hr;obtain⟨vs,xs,g1,g2,g3,g4,g5⟩:=yG hs _ _ h;have h0:(qe a.tmps (.tmp t)).run E.C.P w=.ok (a.tmps.getD t undef) w:=rfl;have key:∀rr:List ResultVar,(rr.mapM (qe a.tmps)).run E.C.P w=.ok vs w->((ResultVar.tmp t::rr).mapM (qe a.tmps)).run E.C.P w=.ok (a.tmps.getD t undef::vs) w:=λrr g=>by simp_all
 have hrun:=kS fn a.tmps E.C.P w (vs:=a.tmps.getD t undef::vs) (by grind);have ht:VU (a.tmps.getD t undef::vs)=agF (some xs) (a.tmps.getD t undef) vs:=by match vs,g3 with|u::r,_=>rfl
 rw[ht]at hrun;obtain⟨xss,k1,k2⟩:=VV hs hr g2 (rest:=some xs) (us:=vs) λr h=>by grind
 grind;exact eV hs (rs:=.tmp t::r1::rest) hrs (by simp) h;rename_i VO hn2 Py;refine eV hs rfl ?_ h;generalize hrr:fn.results.toList=rr at VO hn2 Py;match rr with
  |[]=>simp
  |[.tmp t]=>simp_all
  |[.cell ad t]=>simp_all
  |_::_::_=>simp
end
section
variable {E:Env}{G:aV}{S:ai}{a:Act}{w:World}
theorem bp.enter (hs:bp E G S a w){n:Nat}{tmps:Nat->FV}{vals:Array Value}(hn:vals.size=n)(ht:∀i,i<n->aT G w (vals.getD i undef) (tmps i)){mD:Option Nat}(hr:∀l,mD=some l->∃(i:Nat) (r:Loop),E.loops[i]?=some (l,r)):bp {E with mD:=mD,bG:=a.tmps::E.bG,fixed:=marksOf a.defers++E.fixed} G (S.enter n tmps) {tmps:=vals,defers:=[]} w:=by
 refine⟨hs.kept,hn,⟨hs.ext'.mps.env rfl rfl rfl,by simp[ai.enter,hs.ext'.kZ],λi vs fr h1 h2=>?_,hs.ext'.kj,hs.ext'.loops,hs.ext'.lp,hs.ext'.yl,hr,?_,hs.ext'.Bb⟩,⟨hs.jl.at_,hs.jl.row,hs.jl.cR⟩,hs.oy,hs.fo,ht,hs.aN,hs.iz,hs.fk,hs.cE,hs.fF,hs.ek⟩;cases i with
 |zero=>simp[ai.enter]at h1 h2;subst h1;subst h2;exact⟨hs.size,hs.tmps⟩
 |succ i=>simp[ai.enter]at h1 h2;exact hs.ext'.bG i vs fr h1 h2
 obtain⟨ms,h1,h2,h3⟩:=hs.ext'.marks;refine⟨[],rfl,?_,?_⟩;simpa[h1,lU]using h2;simpa[h1,lU]using h3
theorem bp.leave {E:Env}{mD:Option Nat}{a':Act}{w':World}{f:Fr}{r:List Fr}{ms:List Nat}(hs:bp {E with mD:=mD,bG:=a.tmps::E.bG,fixed:=marksOf a.defers++E.fixed} G S a' w')(hf:S.bG=f::r)(hd:a.defers=ms.map mark)(hr:∀l,E.mD=some l->∃(i:Nat) (r:Loop),E.loops[i]?=some (l,r)):bp E G {n:=f.n,off:=f.off,tmps:=f.tmps,aN:=S.aN,bG:=r,bZ:=S.bZ,cL:=S.cL,maps:=S.maps,iM:=S.iM} a w':=by obtain⟨h1,h2⟩:=hs.ext'.bG 0 a.tmps f rfl (by simp_all);refine⟨hs.kept,h1,⟨hs.ext'.mps.env rfl rfl rfl,?_,λi vs fr h3 h4=>?_,hs.ext'.kj,hs.ext'.loops,hs.ext'.lp,hs.ext'.yl,hr,⟨ms,hd,?_,?_⟩,hs.ext'.Bb⟩,⟨hs.jl.at_,hs.jl.row,hs.jl.cR⟩,hs.oy,hs.fo,h2,hs.aN,hs.iz,hs.fk,hs.cE,hs.fF,hs.ek⟩;have :=hs.ext'.kZ;simp_all;exact hs.ext'.bG (i+1) vs fr (by simp_all) (by simp_all);obtain⟨ms',-,h4,-⟩:=hs.ext'.marks;have h5:(marksOf a.defers++E.fixed).Nodup:=(kz.1 h4).2.1;rwa[hd,lU]at h5;obtain⟨ms',-,-,h4⟩:=hs.ext'.marks;intro q hq;refine h4 q (xG _ ?_);show q∈marksOf a.defers++E.fixed;rw[hd,lU];omega
theorem Fc {K:ai->Prop}(h:S.leave K):∃f r,S.bG=f::r/\K {n:=f.n,off:=f.off,tmps:=f.tmps,aN:=S.aN,bG:=r,bZ:=S.bZ,cL:=S.cL,maps:=S.maps,iM:=S.iM}:=by unfold ai.leave at h;grind
theorem AE {P:Program}{fn:Func}{tmps:Array Value}{R:Ending->World->Prop}:∀(ms:List Nat){E:Env}{G:aV}{S:ai}{a:Act}{w:World},E.C.P=P->bp E G S a w->a.tmps=tmps->a.defers=ms.map mark->(∀G a' w',bp E G S a' w'->a'.tmps=tmps->a'.defers=[]->∃v,(results fn tmps).run P w'=.ok v w'/\R (.returned v) w')->LeavesInM Fence.wide 0 P fn tmps R (ms.map mark) .returning w:=by
 intro ms;induction ms with
 |nil=>intro E G S a w hP hs ht hd h;exact h G a w hs ht hd
 |cons m ms ih=>
  intro E G S a w hP hs ht hd h;obtain⟨ms',h1,h2,h3⟩:=hs.ext'.marks;have Bc:ms'=m::ms:=by have e1:=aB marksOf h1;rw[hd,lU,lU]at e1;exact e1.symm
  subst Bc;obtain⟨h4,h5⟩:=h3 m (by simp);refine⟨by simp,.inl ⟨m,w.putObj m (.deferred none),rfl,run_takeDeferred h5,?_⟩⟩;have KQ:=h2;rw[eB,kD]at KQ;have hs':bp {E with mD:=E.mD,bG:=E.bG,loops:=E.loops,fixed:=E.fixed} G {S with bZ:=S.bZ} {a with defers:=ms.map mark} (w.putObj m (.deferred none)):=hs.putObj (o':=.deferred none) (maps:=S.maps) (iM:=S.iM) h5 rfl rfl h4 (λ⟨es,k,h⟩=>by grind) (λkeep uf hsame=>by refine⟨hs.ext'.mps.zC h5 ⟨λ_ _ h=>(by grind),λ_ _ _ _ h=>(by grind)⟩ keep uf rfl rfl rfl,hs.ext'.kZ,λi vs fr q1 q2=>?_,hs.ext'.kj,λi k r st q1 q2=>?_,hs.ext'.lp,hs.ext'.yl,hs.ext'.mD,⟨ms,rfl,KQ.2,λr hr=>?_⟩,hs.ext'.Bb.of keep⟩;obtain⟨q3,q4⟩:=hs.ext'.bG i vs fr q1 q2;simp_all;obtain⟨q3,q4⟩:=hs.ext'.loops i k r st q1 q2;grind;grind);grind
end
section
variable {E:Env}{G:aV}{S:ai}{a:Act}{w:World}
theorem VW:∀(l:List yN)(n:Nat),Ia l n=l[n]?
 |[],n=>by rfl
 |p::l,0=>rfl
 |p::l,n+1=>by simp[Ia,VW l n]
theorem VX:∀(l:List Fr)(n:Nat),adP l n=l[n]?
 |[],n=>by rfl
 |p::l,0=>rfl
 |p::l,n+1=>by simp[adP,VX l n]
theorem NQ:∀(l:List yN)(n:Nat)(q:yN),Xj l n q=l.set n q
 |[],n,q=>by rfl
 |p::l,0,q=>rfl
 |p::l,n+1,q=>by simp[Xj,NQ l n q]
theorem QS (r:Loop)(h1:r.state=.ready)(h2:r.pending=none):yN.ready.of r=r:=by cases r;simp only at h1 h2;subst h1;subst h2;rfl
theorem LI:∀(ps:List Nat)(vals:List Value)(args:List FV)(t:Array Value)(f:Nat->FV)(n:Nat),vals.length=args.length->vals.length=ps.length->t.size=n->(∀i,i<n->aT G w (t.getD i undef) (f i))->(∀(i:Nat)(v:Value)(x:FV),vals[i]?=some v->args[i]?=some x->aT G w v x)->((ps.zip vals).foldl (λt (p,v)=>t.setIfInBounds p v) t).size=n/\∀i,i<n->aT G w (((ps.zip vals).foldl (λt (p,v)=>t.setIfInBounds p v) t).getD i undef) (PR f ps args i)
 |[],vals,args,t,f,n,h1,h2,h3,h4,h5=>by
  cases args with
  |nil=>exact⟨by simp_all,by simpa[PR]using h4⟩
  |cons x args=>simp_all
 |p::ps,[],args,t,f,n,h1,h2,h3,h4,h5=>by grind
 |p::ps,v::vals,[],t,f,n,h1,h2,h3,h4,h5=>by simp_all
 |p::ps,v::vals,x::args,t,f,n,h1,h2,h3,h4,h5=>by
  simp only[List.zip_cons_cons,eR,PR];refine LI ps vals args (t.setIfInBounds p v) _ n (by simp_all) (by simp_all) (by simp_all) (λi hi=>?_) (λi u y hu hy=>h5 (i+1) u y (by simp_all) (by simp_all));have hi':i<t.size:=oO
  by_cases hd:i=p;subst hd;have :Nat.beq i i=true:=by simp
  rw[this];have hv:=h5 0 v x rfl rfl;simp_all;have :Nat.beq i p=false:=by cases hb:Nat.beq i p;rfl;simp_all
  rw[this];have :=h4 i hi;simpa[Array.getD,hi',CH,eO hd]using this
theorem bp.Fe (hs:bp E G S a w){i k:Nat}{r:Loop}{st:yN}(h1:E.loops[i]?=some (k,r))(h2:Ia S.bZ i=some st):E.w0.heap.size<=k/\w.heap[k]?=some (.loop (st.of r)):=hs.ext'.loops i k r st h1 (by rw[<-VW];omega)
theorem bp.aiQ (hs:bp E G S a w){i k:Nat}{r:Loop}{st st':yN}(h1:E.loops[i]?=some (k,r))(h2:Ia S.bZ i=some st):bp E G {S with bZ:=Xj S.bZ i st'} a (w.putObj k (.loop (st'.of r))):=by obtain⟨h3,h4⟩:=hs.Fe h1 h2;refine hs.putObj (o:=.loop (st.of r)) (o':=.loop (st'.of r)) h4 rfl rfl h3 (λ⟨es,k,h⟩=>by grind) (maps:=S.maps) (iM:=S.iM) (mD:=E.mD) (bG:=E.bG) (loops:=E.loops) (fixed:=E.fixed) (defers:=a.defers) (λkeep uf hsame=>?_);refine⟨hs.ext'.mps.zC h4 ⟨λ_ _ h=>(by grind),λ_ _ _ _ h=>(by grind)⟩ keep uf rfl rfl rfl,hs.ext'.kZ,λj vs fr q1 q2=>?_,by simp only[NQ,List.length_set];exact hs.ext'.kj,λj k' r' st2 q1 q2=>?_,hs.ext'.lp,hs.ext'.yl,hs.ext'.mD,?_,hs.ext'.Bb.of keep⟩;obtain⟨q3,q4⟩:=hs.ext'.bG j vs fr q1 q2;simp_all;simp only[NQ]at q2;by_cases hj:j=i;grind;rw[CY (eO hj)]at q2;obtain⟨q3,q4⟩:=hs.ext'.loops j k' r' st2 q1 q2;refine⟨q3,uf _ _ (λe=>?_) q4⟩;subst e;exact hj (hs.ext'.lp j i k' r' r q1 h1);obtain⟨ms,q1,q2,q3⟩:=hs.ext'.marks;grind
theorem bp.aaA (hs:bp E G S a w){l:Nat}{rec:Loop}{ms:List Nat}(hl:w.heap[l]?=some (.loop (yN.ready.of rec)))(hw0:E.w0.heap.size<=l)(hnew:∀(i k:Nat)(r:Loop),E.loops[i]?=some (k,r)->k≠l)(Bc:∀m,m∈ms->E.w0.heap.size<=m/\w.heap[m]?=some (.deferred (some [])))(KQ:(ms++(marksOf a.defers++E.fixed)).Nodup):∃G',bp {E with loops:=E.loops++[(l,rec)]} G' {S.kill (1000000+S.bZ.length)with bZ:=S.bZ++[.ready]} {a with defers:=ms.map mark++a.defers} w/\G'.yl (1000000+S.bZ.length)=some l/\∀v x,aT G w v x->aT G' w v (x.kill (1000000+S.bZ.length)):=by
 generalize hlv:S.bZ.length=lvl;have anY:lvl=E.loops.length:=hlv▸hs.ext'.kj;let G':aV:={G.free (1000000+lvl)with yl:=λn=>if n=1000000+lvl then some l else G.yl n};have up:∀v x,aT G w v x->aT G' w v (x.kill (1000000+lvl)):=λv x h=>h.kill _ rfl (λo b h h'=>by simp only[G',aV.free];simp_all) (λt r h h'=>by simp only[G',aV.free];simp_all) (λn k h h'=>by grind) (hmp:=aV.pe.1) (hit:=aV.pe.2.2.1);have Kw:lP (FV.kill (1000000+lvl)) G G' S (S.kill (1000000+lvl)) w:=.kill _ rfl aV.pe.1 aV.pe.2.1 aV.pe.2.2.1 aV.pe.2.2.2 (λo b h=>by simp only[G',aV.free]at h;simp_all);have h1:=hs.kill (1000000+lvl);have up2:∀v x,aT (G.free (1000000+lvl)) w v x->(∀k,x≠.ni k)->True:=λ_ _ _ _=>trivial;refine⟨G',⟨h1.kept,h1.size,⟨(hs.ext'.mps.move _ up (.refl _) Kw).env rfl rfl rfl,?_,λi vs fr q1 q2=>?_,?_,λi k r st q1 q2=>?_,λi j k r r' q1 q2=>?_,λi k r q1 k' q2=>?_,λq hq=>?_,?_,hs.ext'.Bb⟩,⟨h1.jl.at_,h1.jl.row,h1.jl.cR⟩,h1.oy,h1.fo,λi hi=>up _ _ (hs.tmps i hi),λo cells ho=>?_,h1.iz,h1.fk,h1.cE,h1.fF,h1.ek⟩,by grind,up⟩;exact h1.ext'.kZ;have q2':(zb (FV.kill (1000000+lvl)) S.bG)[i]?=some fr:=q2;rw[HQ,aR]at q2';cases hx:S.bG[i]?with
 |none=>simp_all
 |some fr0=>simp[hx]at q2';subst q2';obtain⟨q3,q4⟩:=hs.ext'.bG i vs fr0 q1 hx;exact⟨q3,λj hj=>up _ _ (q4 j hj)⟩
 simp_all;by_cases hi:i<E.loops.length;rw[cO hi]at q1;rw[cO oO]at q2;exact hs.ext'.loops i k r st q1 q2;grind;have LJ:∀(i k:Nat)(r:Loop),(E.loops++[(l,rec)])[i]?=some (k,r)->(i<E.loops.length/\E.loops[i]?=some (k,r))\/(i=E.loops.length/\k=l):=λi k r q=>by grind
 rcases LJ i k r q1 with⟨-,e1⟩|⟨e1,e2⟩<;>rcases LJ j k r' q2 with⟨-,e3⟩|⟨e3,e4⟩;exact hs.ext'.lp i j k r r' e1 e3;grind;grind;omega;simp only[G']at q2;by_cases hi:i<E.loops.length;rw[cO hi]at q1;rw[aa oO]at q2;exact hs.ext'.yl i k r q1 k' q2;grind;obtain⟨i,r,q1⟩:=hs.ext'.mD q hq;exact⟨i,r,by grind⟩;obtain⟨ms',q1,q2,q3⟩:=hs.ext'.marks;rw[q1,lU]at KQ;grind;obtain⟨hne,cs,q2,rfl⟩:=kR ho;obtain⟨b,q3,q4⟩:=hs.aN o cs q2;refine⟨b,by simp only[G',aV.free];simp_all,λi x hx=>?_⟩;rw[FV.fq,aR]at hx;grind
theorem bp.aeb {l:Nat}{rec:Loop}{st:yN}(hs:bp {E with loops:=E.loops++[(l,rec)]} G S a w)(hst:Ia S.bZ E.loops.length=some st)(hr:∀q,E.mD=some q->∃(i:Nat) (r:Loop),E.loops[i]?=some (q,r)){o':Loop}:bp E G {S with bZ:=S.bZ.take E.loops.length} a (w.putObj l (.loop o')):=by
 have h0:(E.loops++[(l,rec)])[E.loops.length]?=some (l,rec):=by rw[dY (ay _)];simp
 obtain⟨h3,h4⟩:=hs.Fe h0 hst;refine hs.putObj (o:=.loop (st.of rec)) (o':=.loop o') h4 rfl rfl h3 (λ⟨es,k,h⟩=>by grind) (maps:=S.maps) (iM:=S.iM) (mD:=E.mD) (bG:=E.bG) (loops:=E.loops) (fixed:=E.fixed) (defers:=a.defers) (λkeep uf hsame=>?_);have hlen:S.bZ.length=E.loops.length+1:=by have :=hs.ext'.kj;simpa using this
 have hin:∀(i k:Nat)(r:Loop),E.loops[i]?=some (k,r)->(E.loops++[(l,rec)])[i]?=some (k,r):=λi k r q=>by grind
 refine⟨hs.ext'.mps.zC h4 ⟨λ_ _ h=>(by grind),λ_ _ _ _ h=>(by grind)⟩ keep uf rfl rfl rfl,hs.ext'.kZ,λj vs fr q1 q2=>?_,by simp_all,λj k' r' st2 q1 q2=>?_,λi j k r r' q1 q2=>hs.ext'.lp i j k r r' (hin _ _ _ q1) (hin _ _ _ q2),λi k r q1=>hs.ext'.yl i k r (hin _ _ _ q1),hr,?_,hs.ext'.Bb.of keep⟩;obtain⟨q3,q4⟩:=hs.ext'.bG j vs fr q1 q2;simp_all;have hj:=(aG.1 q1).1;rw[Da hj]at q2;obtain⟨q3,q4⟩:=hs.ext'.loops j k' r' st2 (hin _ _ _ q1) q2;refine⟨q3,uf _ _ (λe=>?_) q4⟩;subst e;exact absurd (hs.ext'.lp j E.loops.length k' r' rec (hin _ _ _ q1) h0) (Nat.ne_of_lt hj);obtain⟨ms,q1,q2,q3⟩:=hs.ext'.marks;grind
def IG (c:Code):Prop:=∀{E:Env}{call:iw}{Y:pE},mc E.C call->eN E Y->∀{Q:Exit->ai->Prop}{S:ai}{a:Act}{w:World},uM E.C call Y c Q S->pV E S a w->c.wpIn E.kX 0 E.C.P (λe a' w'=>∃S',Q e S'/\pV E S' a' w') a w
theorem QT {E:Env}{call:iw}{Y:pE}(de:mc E.C call)(hY:eN E Y){assign body:Code}(ha:IG assign)(hb:IG body){a1:Act}{l:Nat}{rec:Loop}{aaB:List Nat}(hrt:rec.tmps=a1.tmps)(hra:rec.assign=assign)(hrb:rec.body=body)(hr1:rec.state=.ready)(hr2:rec.pending=none):eN {E with mD:=none,bG:=a1.tmps::E.bG,loops:=E.loops++[(l,rec)],fixed:=aaB} (sR Y (uM E.C call Y assign) (uM E.C call Y body) rec.params.toList E.loops.length E.bG.length):=by
 intro mD xs ls fixed G S a w ln k args K vals hs hk h hlen oz;have e1:xs++a1.tmps::E.bG=(xs++[a1.tmps])++E.bG:=by simp
 have e2:(E.loops++[(l,rec)])++ls=E.loops++([(l,rec)]++ls):=by simp
 unfold sR at h;split at h;have hY':=hY mD (xs++[a1.tmps]) ([(l,rec)]++ls) fixed G S a w ln k args K vals;grind;rename_i hln;obtain rfl:=aP hln;split at h;rename_i fr hp hfr;obtain⟨hargs,h⟩:=h;have hargs:=aP hargs;have hidx:((E.loops++[(l,rec)])++ls)[E.loops.length]?=some (l,rec):=by rw[cO (by simp),dY (ay _)];simp
 obtain rfl:=hs.ext'.yl E.loops.length l rec hidx k hk;obtain⟨sO,hk2⟩:=hs.Fe hidx hp;rw[QS rec hr1 hr2]at hk2;have ak3:S.bG[xs.length]?=some fr:=by
  unfold ZP at hfr;rw[VX,hs.ext'.kZ]at hfr;have :(xs++a1.tmps::E.bG).length-E.bG.length-1=xs.length:=by simp;omega
  rw[this]at hfr;exact hfr
 obtain⟨hsz,htm⟩:=hs.ext'.bG xs.length a1.tmps fr (by simp) ak3;have hy:=run_yield (P:=E.C.P) (args:=vals.toArray) hk2 (by simp_all);refine⟨_,_,_,_,hy,?_⟩;have Zv:vals.length=rec.params.toList.length:=by rw[hlen,hargs]
 have hts:=LI (G:=G) (w:=w) rec.params.toList vals args a1.tmps fr.tmps fr.n hlen Zv hsz htm oz;have aiR:(rec.params.zip vals.toArray).foldl (λtmps x=>match x with|(t,a)=>tmps.setIfInBounds t a) rec.tmps=(rec.params.toList.zip vals).foldl (λt (p,v)=>t.setIfInBounds p v) a1.tmps:=by rw[<-Array.foldl_toList,hrt];simp
 rw[aiR,hra,hrb];have hrnd:∀q,(some k:Option Nat)=some q->∃(i:Nat) (r:Loop),((E.loops++[(k,rec)])++ls)[i]?=some (q,r):=λq hq=>by grind
 have hs1:=hs.enter (n:=fr.n) (vals:=(rec.params.toList.zip vals).foldl (λt (p,v)=>t.setIfInBounds p v) a1.tmps) hts.1 hts.2 (mD:=some k) hrnd;have hYr:eN {E with mD:=some k,bG:=a.tmps::(xs++a1.tmps::E.bG),loops:=(E.loops++[(k,rec)])++ls,fixed:=marksOf a.defers++fixed} Y:=by
  have :=hY.later (some k) (a.tmps::(xs++[a1.tmps])) ([(k,rec)]++ls) (marksOf a.defers++fixed);rw[<-e2]at this;have e3:(a.tmps::(xs++[a1.tmps]))++E.bG=a.tmps::(xs++a1.tmps::E.bG):=by simp
  rw[e3]at this;exact this
 have hA:=ha (E:={E with mD:=some k,bG:=a.tmps::(xs++a1.tmps::E.bG),loops:=(E.loops++[(k,rec)])++ls,fixed:=marksOf a.defers++fixed}) de hYr h ⟨_,hs1⟩;refine roundIn_of_wpIn (F:=Fence.wide) trivial (wpIn_mono hA ?_);rintro e a2 w2 ⟨S2,hq,G2,hs2⟩;cases e with
 |normal=>
  simp only[uK,VD]at hq;split at hq;rename_i hp2;obtain⟨-,hk3⟩:=hs2.Fe hidx hp2;refine⟨_,run_beginRound hk3 rfl,?_⟩;have hs3:=hs2.aiQ (st':=.busy) hidx hp2;have hB:=hb (E:={E with mD:=some k,bG:=a.tmps::(xs++a1.tmps::E.bG),loops:=(E.loops++[(k,rec)])++ls,fixed:=marksOf a.defers++fixed}) de hYr hq ⟨_,hs3⟩;refine wpIn_mono hB ?_;obtain⟨ms,Bc,-,-⟩:=hs.ext'.marks;have fin:∀{st:yN}{b:Bool}{jump:Option Code}{S4:ai}{a4:Act}{w4:World},zg E.loops.length st (K (.p (.bool b))) S4->pV {E with mD:=some k,bG:=a.tmps::(xs++a1.tmps::E.bG),loops:=(E.loops++[(k,rec)])++ls,fixed:=marksOf a.defers++fixed} S4 a4 w4->jump.isNone=b->(Loop.mk (if jump.isNone then LoopState.ready else .done) jump rec.fn rec.tmps rec.params rec.assign rec.body rec.defers)=st.of rec->∃v w',(Instr.endRound k jump).run E.C.P w4=.ok v w'/\∃v_1 x G' S',Ending.returned v=.returned v_1/\K x S'/\bp {E with mD:=mD,bG:=xs++a1.tmps::E.bG,loops:=(E.loops++[(k,rec)])++ls,fixed:=fixed} G' S' a w'/\aT G' w' v_1 x:=λ{st b jump S4 a4 w4} hq4 ⟨G4,hs4⟩ hj ak4=>by unfold zg at hq4;split at hq4;rename_i hp4;obtain⟨-,hk4⟩:=hs4.Fe hidx hp4;obtain⟨f,r,hf,hK⟩:=Fc hq4;have hs5:=hs4.aiQ (st':=st) hidx hp4;have hs6:=bp.leave (E:={E with mD:=mD,bG:=xs++a1.tmps::E.bG,loops:=(E.loops++[(k,rec)])++ls,fixed:=fixed}) (a:=a) (mD:=some k) (ms:=ms) hs5 hf Bc hs.ext'.mD;have hend:=run_endRound (P:=E.C.P) jump hk4;refine⟨_,_,hend,.bool jump.isNone,_,G4,_,rfl,hK,?_,.p _ _ (hj▸.bool _)⟩;have :({yN.of rec .busy with state:=if jump.isNone then LoopState.ready else .done,pending:=jump}:Loop)=st.of rec:=ak4;simp_all;simp_all
  rintro e a4 w4 ⟨S4,hq4,hs4⟩;cases e with
  |normal=>exact fin (jump:=none) hq4 hs4 rfl rfl
  |ret=>exact fin (jump:=some .ret) hq4 hs4 rfl rfl
  |exit id=>exact fin (jump:=some (.exit id)) hq4 hs4 rfl rfl
  |_=>exact hq4.elim
  simp_all
 |_=>exact hq.elim
 grind
end
end Qv
