/- Part 14 of the proof: its lemmas. No condition. -/
import Derived.Test.YtlbofhenpfnenaaGreatDoorU13
import Derived.Lib.ConvBytes
set_option maxRecDepth 10000
set_option maxHeartbeats 80000000
set_option linter.all false
namespace Qv
open Go Go.RowKit
section
variable {E:Env}{G:aV}{S:ai}{a:Act}{w:World}{o:Oper}
theorem jI (G:aV)(w:World):aT G w undef (.p (.eV [])):=.p _ _ (dh.eV (aZ:=G.aZ) (w:=w) [] [] rfl (λi c x h _=>by cases i<;>cases h))
theorem vV (hs:bp E G S a w){dst:Option Nat}{r:cQ}{v:Value}{w':World}(hb:Below w.heap.size w w')(hok:nk G.aZ w.heap.size w' v r)(Xt:afU S dst r:=by trivial):∃G',bp E G' (S.got dst r) (a.put dst v) w':=by
 cases r with
 |own rest T bP xss=>
  cases dst with
  |none=>exact⟨_,hs.ext hb⟩
  |some d0=>
   have hdn:=Xt d0 rfl;simp only[ai.got];generalize hd:S.off+d0=d at hdn;obtain⟨b,c,cs,fr,us,rfl,h1,h2,h3,h4,h5,h6,h7,h8,h9,h10⟩:=hok;have hg0:=(hs.Nu hb λb' _=>b'≠b).kill d;have hkeep:∀{u:Value}{y:AV},dh (ZC G.aZ w.heap.size b) w' u y->dh (λb' o=>G.aZ b' o\/(w.heap.size<=b'/\b'<w'.heap.size/\b'≠b)) w' u y:=λh=>h.yZ (λb' o c hi hc=>⟨hi.imp id λh=>⟨h.1,World.block_lt_of_cell? w' _ hc,h.2⟩,hc⟩) λb' es k hi hb'=>⟨hi.imp id λh=>⟨h.1,(bB.1 hb').1,h.2⟩,hb'⟩;have hfl:xss.flatten.length=xss.length*bP:=gG λzs hz=>(h5 zs hz).1;have hg1:=hg0.aak (d:=d) (b:=b) (cells:=aH xss.flatten) hdn (by simp[aV.free]) (iT _ _) (λo h=>by simp only[aV.free]at h;split at h;cases h;have :=(hs.iz o _ h).1;omega) (λt' r h=>by simp only[aV.free]at h;split at h;cases h;have :=(hs.fF t' _ r.1 r.2.1 r.2.2 h).1;omega) (λo h=>by simp only[aV.free]at h;split at h;cases h;have :=(hs.jl.row o _ h).2.1;omega) (λes k e=>by rw[h6]at e;cases e) h2 (bH hs.kept.size h1) (λi=>⟨λh=>by rcases h with h|⟨-,-,h⟩;have :=hs.fo _ _ h;omega;exact h rfl,h7 i⟩) (λi x hx=>by
    rw[ue]at hx;cases hq:xss.flatten[i]?with
    |none=>rw[hq]at hx;cases hx
    |some y=>rw[hq]at hx;obtain rfl:=au hx;obtain⟨u,q1,q2⟩:=h9 i y hq;exact⟨u,q1,.p _ _ (hkeep q2)⟩)
   have hg2:=hg1.vT (t:=d) (B:=b) (s:=xss.length*bP) (e:=c*bP) (T:=T) (tM _ d) h2 (bH hs.kept.size h1) ⟨cs,fr,h6,trivial⟩ (λo h=>by simp only[aV.free]at h;split at h;rename_i e;subst e;refine⟨rfl,iT _ _,λcells hc=>?_⟩;simp only[Qv.getObj,gU]at hc;obtain rfl:=au hc;rw[iZ,hfl];have :=(hs.iz o _ h).1;omega) (λt' r h=>by simp only[aV.free]at h;split at h;cases h;have :=(hs.fF t' _ r.1 r.2.1 r.2.2 h).1;omega) (λo h=>by simp only[aV.free]at h;split at h;cases h;have :=(hs.jl.row o _ h).2.1;omega) (λi hi hi'=>⟨h8 i hi',h7 i,λh=>by rcases h with h|⟨-,-,h⟩;have :=hs.fo _ _ h;omega;exact h rfl⟩);refine⟨_,hg2.put (some d0) (x:=agG rest (.fe d T bP)) ?_⟩;have SR:aT {(aV.free {G with aZ:=λb' o=>G.aZ b' o\/(w.heap.size<=b'/\b'<w'.heap.size/\b'≠b)} d)with loc:=λo=>if o=d then some b else(aV.free {G with aZ:=λb' o=>G.aZ b' o\/(w.heap.size<=b'/\b'<w'.heap.size/\b'≠b)} d).loc o,tail:=λt'=>if t'=d then some (b,xss.length*bP,c*bP,T)else(aV.free {G with aZ:=λb' o=>G.aZ b' o\/(w.heap.size<=b'/\b'<w'.heap.size/\b'≠b)} d).tail t'} w' (.slice (some ⟨b,0,none⟩) xss.length c) (.fe d T bP):=.fe d T bP xss.length c b (by simp) (by simp) h4 h3;cases rest with
   |none=>exact SR
   |some r=>
    obtain⟨g1,g2⟩:=h10 r rfl;refine .eV (_::us) (_::aH r) (by simp[iZ,g1]) λi u x q1 q2=>?_;cases i with
    |zero=>simp at q1 q2;subst q1;subst q2;exact SR
    |succ i=>
     simp only[mb]at q1 q2;rw[ue]at q2;cases hq:r[i]?with
     |none=>rw[hq]at q2;cases q2
     |some y=>rw[hq]at q2;obtain rfl:=au q2;exact .p _ _ (hkeep (g2 i u y q1 hq))
 |val x=>exact⟨_,(hs.ext hb).put dst (nk.To (r:=.val x) hok)⟩
 |vf x=>exact⟨_,(hs.ext hb).put dst (nk.To (r:=.vf x) hok)⟩
 |fresh T bP xs=>
  cases dst with
  |none=>exact⟨_,hs.ext hb⟩
  |some d0=>simp only[ai.got];generalize hd:S.off+d0=d;obtain⟨ad,c,rfl,⟨rfl,rfl,h⟩|⟨b,off,cs,fr,rfl,h1,h2,h3,hty,h4,h5⟩⟩:=hok;have hr:dh (λb o=>G.aZ b o\/(w.heap.size<=b/\b<w'.heap.size)) w' (.slice ad ([]:List (List AV)).length 0) (.sl []):=h.yZ (λb o c hi hc=>⟨hi.imp id λh=>⟨h,World.block_lt_of_cell? w' _ hc⟩,hc⟩) λb es k hi hb=>⟨hi.imp id λh=>⟨h,(bB.1 hb).1⟩,hb⟩;exact⟨_,((hs.ext hb).kill d).put (some d0) (x:=.eH d T bP []) (.eH d T bP [] ad 0 hr (.inl ⟨rfl,rfl⟩))⟩;have hg:=((hs.Nu hb λb' o=>¬(b'=b/\off+xs.length*bP<=o/\o<off+c*bP)).kill d).AA (t:=d) (B:=b) (s:=off+xs.length*bP) (e:=off+c*bP) (T:=T) (tM _ d) h2 (bH hs.kept.size h1) ⟨cs,fr,hty,trivial⟩ (λo h=>by simp only[aV.free]at h;split at h;cases h;have :=(hs.iz o _ h).1;omega) (λt' r h=>by simp only[aV.free]at h;split at h;cases h;have :=(hs.fF t' _ r.1 r.2.1 r.2.2 h).1;omega) (λo h=>by simp only[aV.free]at h;split at h;cases h;have :=(hs.jl.row o _ h).2.1;omega) (λi hi hi'=>by obtain⟨g1,g2⟩:=h4 i hi hi';refine⟨g1,g2,?_⟩;rintro(h|⟨-,-,h⟩);have :=hs.fo _ _ h;omega;exact h ⟨rfl,hi,hi'⟩);refine⟨_,hg.put (some d0) (x:=.eH d T bP xs) (.eH d T bP xs _ c ?_ (.inr ⟨b,off,rfl,h3,by simp⟩))⟩;exact h5.yZ (λb o c hi hc=>⟨hi.imp id λh=>⟨h.1,World.block_lt_of_cell? w' _ hc,h.2⟩,hc⟩) λb es k hi hb=>⟨hi.imp id λh=>⟨h.1,(bB.1 hb).1,h.2⟩,hb⟩
theorem wp_evAppend (hs:bp E G S a w){d:Nat}{K:ai->Prop}{x y:Operand}{t u:TypeId}(ho:o.op=.call ⟨.builtin .append,#[x,y],#[t,u]⟩)(hd:o.dst=some d)(h:tX E.C t u d S (S.val x) (S.val y) K){next:Act->World->Prop}{Q:Exit->Act->World->Prop}(hn:∀S' a' w',K S'->pV E S' a' w'->next a' w'):Dd E o a w next Q:=by
 have hx:=aT.val hs x;have hy:=aT.val hs y;generalize S.val x=vx at h hx;generalize S.val y=vy at h hy;unfold tX at h;split at h
 ·rename_i e _ ui ht hui;have KO:=(E.C.ok ht).slice;obtain⟨dd,hud,hsh⟩:=(E.C.ok hui).zm;split at h;exact h.elim;rename_i zB;have hdk:∀k,dd≠.int k:=λk e=>by rw[<-hsh,e]at zB;simp[shapeOf,Shape.FX]at zB
  split at h;exact h.elim;rename_i j hj;have hok:=E.C.ok hj;split at h;exact h.elim;rename_i ys hys;have fin:∀{k:Nat}{xs:List (List AV)}{ad:Option Addr}{c:Nat},a.eval x=.slice ad xs.length c->dh G.aZ w (.slice ad xs.length c) (.sl xs)->(∀zs,zs∈xs->zs.length=j.size)->((xs=[]/\c=0)\/(ys≠[]/\c=xs.length)\/∃b off,ad=some ⟨b,off,none⟩/\G.tail k=some (b,off+xs.length*j.size,off+c*j.size,e))->(∀zs,zs∈ys->zs.length=j.size)->(xs.length+ys.length)*j.bytes<=2^47->j.bytes≠0->K ((S.kill k).put (some d) (.eH k e j.size (xs++ys)))->Dd E o a w next Q:=λ{k xs ad c} ev hr GX hroom zy hb hb0 hK=>by
   obtain⟨news,n1,n2,n3⟩:=hy.items (P:=E.C.P) (e:=j.size) hys zy;obtain⟨_,_,hv,hle,-⟩:=hr.lD;have agS:xs.length<=c:=by injection hv with e1 e2 e3;omega
   obtain⟨v',w',G',r1,r2,r3⟩:=Qo (ty:=o.type) hs KO hud hdk hok hr GX zy agS hroom n1 n2 n3 hb hb0;refine wp_value (v:=v') (w':=w') ?_ (hn _ _ _ hK ⟨G',?_⟩);simp[execOp,ho,resolve,invoke,builtin,ev,r1];rw[hd];exact r2.put (some d) r3
  split at h;rename_i k T bP xs;split at h;rename_i he hb0 hT;obtain rfl:=aP he;obtain rfl:=aP hT;obtain⟨GX,zy,hb,zs,rfl,hK⟩:=h;generalize LD:a.eval x=v at hx;cases hx with
  |eH _ _ _ _ ad c hr hroom=>exact fin LD hr GX (hroom.imp id λ⟨b,off,e1,_,e2⟩=>.inr ⟨b,off,e1,e2⟩) zy hb (bt hb0) hK
  exact h.elim;rename_i k T bP;split at h;rename_i he hT hb0;obtain rfl:=aP he;obtain rfl:=aP hT;have hb0:=bt hb0;split at h;exact h.elim;rename_i xs hxs;obtain⟨hkn,hxs⟩:=jh hxs;obtain⟨n,VO,zy,hbd,zs,rfl,hK⟩:=h;obtain⟨news,n1,n2,n3⟩:=hy.items (P:=E.C.P) (e:=j.size) hys zy;generalize Qq:a.eval y=vy at hy n2 n3;generalize NH:a.eval x=vv at hx;cases hx with
  |fe _ _ _ n' c b p1 p2 p3 p4=>
   have nl:news.length=ys.length*j.size:=n1.len;have Xr:(aH ys.flatten).length=ys.length*j.size:=by rw[iZ];exact gG zy
   have nr:∀(i:Nat)(z:FV),(aH ys.flatten)[i]?=some z->∃u,news[i]?=some u/\aT G w u z:=λi z hz=>by
    rw[ue]at hz;have hi:i<ys.length*j.size:=by
     rw[<-gG zy];cases hq:ys.flatten[i]?with
     |none=>rw[hq]at hz;cases hz
     |some q=>exact(aG.1 hq).1
    have hq:i/j.size<ys.length:=Df (by rw[sZ];exact hi);have hr:i%j.size<(ys[i/j.size]).length:=by rw[zy _ (aK hq)];exact kr _ p4
    have hii:i/j.size*j.size+i%j.size=i:=Nat.div_add_mod' i j.size;have h1:=av hq;have h2:=av hr;have h3:=lT zy h1 h2;rw[hii]at h3;rw[h3]at hz;obtain rfl:=au hz;obtain⟨u,e1,e2,-⟩:=n1.at_ _ _ _ _ h1 h2;rw[hii]at e1;exact⟨u,e1,.p _ _ e2⟩
   have hxl:=(hs.cE _ _ _ _ p1 p2).2.2 xs hxs;simp only at hxl;obtain rfl:n=n':=gm p4 (VO.symm.trans hxl);obtain⟨t1,t2,tt,t3⟩:=hs.fF _ _ _ _ _ p2;by_cases hc:n+ys.length<=c;have hq:n*j.size+news.length<=c*j.size:=by have :=dO j.size hc;rw[bC]at this;omega
   have hrun:=nS (P:=E.C.P) (w:=w) (ty:=o.type) (b:=b) (off:=0) KO hud hdk hok n2 (n3 w λ_ _=>rfl) hc (λq NC=>by rw[cM];obtain⟨⟨u,hu⟩,-,-⟩:=t3 (n*j.size+q) oO oO;rw[hu];rfl) (λq NC=>by rw[cM];exact(t3 (n*j.size+q) oO oO).2.1) n1.one;rw[cM]at hrun;have hg:=hs.Qp (news:=news) hxs p1 p2 hq nr oO;have hex:(execOp a.eval o).run E.C.P w=.ok (.value (.slice (some ⟨b,0,none⟩) (n+ys.length) c)) (w.setCells b (n*j.size) news):=by simp[execOp,ho,resolve,invoke,builtin,NH,Qq,hrun]
   refine wp_value hex (hn _ _ _ hK ⟨{G with tail:=λt=>if t=k then some (b,n*j.size+news.length,c*j.size,T)else G.tail t},?_⟩);rw[hd];refine hg.put (some d) (v:=.slice (some ⟨b,0,none⟩) (n+ys.length) c) (x:=.fe k T j.size) (.fe k T j.size (n+ys.length) c b p1 ?_ hc p4);simp only[if_true];rw[nl,bC];obtain⟨olds,ol,or',of'⟩:=BI (P:=E.C.P) hs hxs p1 p2;obtain⟨rest,z,hz,qI,hrun⟩:=iS (P:=E.C.P) (w:=w) (ty:=o.type) (news:=news) (olds:=olds) KO hud hdk hok n2 n3 of' hc hbd hb0;have hcap:n+ys.length<=grownCap w (n+ys.length) c T:=grownCap_ge w _ _ _;generalize hcg:grownCap w (n+ys.length) c T=cap at*;have hrl:rest.size=(cap-(n+ys.length))*j.size:=by rw[qI,size_zeroCells,hz]
   have jH:(olds++news++rest.toList).length=cap*j.size:=by simp only[aq,ol,nl,js,hrl,<-bC];rw[show n+ys.length+(cap-(n+ys.length))=cap from oO]
   obtain⟨G',g1,g2,g3⟩:=AB hs.drew k hkn (zs:=xs++aH ys.flatten) (cells:=olds++news++rest.toList) (s:=(n+ys.length)*j.size) (cap:=cap*j.size) (e:=T) (by rw[aq,hxl,Xr,bC]) jH (λi z hz=>by have hk:∀{v:Value}{z:FV},aT G w v z->aT G {w with drawn:=w.drawn+1} v z:=λh=>h.keep (λ_ _ h=>h) (λ_ _ _ _ h=>h) (λ_ _ _ _ h=>h) (λ_ _ h=>h) (λ_ _ h=>h);by_cases hi:i<xs.length;rw[cO hi]at hz;obtain⟨u,h2,h3⟩:=or' i z hz;exact⟨u,by rw[bf,cO oO];exact h2,hk h3⟩;rw[dY oO]at hz;obtain⟨u,h2,h3⟩:=nr _ z hz;have Zw:=(aG.1 h2).1;refine⟨u,?_,hk h3⟩;rw[cO (by rw[aq];omega),dY oO,<-h2];congr 1;omega);have hW:w.drew.alloc (.cells (olds.toArray++news.toArray++rest) T)=({w with drawn:=w.drawn+1}:World).alloc (.cells (olds++news++rest.toList).toArray T):=by
    have :olds.toArray++news.toArray++rest=(olds++news++rest.toList).toArray:=by apply iO.1;simp
    rw[this];rfl
   rw[hW]at hrun;refine wp_value (v:=.slice (some ⟨w.heap.size,0,none⟩) (n+ys.length) cap) (w':=({w with drawn:=w.drawn+1}:World).alloc (.cells (olds++news++rest.toList).toArray T)) ?_ (hn _ _ _ hK ⟨G',?_⟩);simp[execOp,ho,resolve,invoke,builtin,NH,Qq]at hrun⊢;rw[hrun];rfl;rw[hd];exact g1.put (some d) (v:=.slice (some ⟨w.heap.size,0,none⟩) (n+ys.length) cap) (x:=.fe k T j.size) (.fe k T j.size (n+ys.length) cap w.heap.size g2 g3 hcap p4)
  exact h.elim;split at h;rename_i hb0;obtain⟨zy,hb,hK⟩:=h;rw[mM]at hK;generalize LD:a.eval x=v at hx;cases hx with
  |full _ ad hr=>exact fin (k:=S.off+d) LD hr (by simp) (.inl ⟨rfl,rfl⟩) zy (by simpa using hb) (bt hb0) (by simpa using hK)
  exact h.elim;split at h;rename_i hb0;obtain⟨hne,GX,zy,hb,hK⟩:=h;rw[mM]at hK;obtain⟨zs,rfl,hK⟩:=hK;generalize LD:a.eval x=v at hx;cases hx with
  |full _ ad hr=>exact fin (k:=S.off+d) LD hr GX (.inr (.inl ⟨hne,rfl⟩)) zy hb (bt hb0) hK
  exact h.elim;exact h.elim
 exact h.elim
theorem EW {d o:Nat}{ys:List AV}{cells:List FV}:∀{l:List (Nat×List FV)},Qv.getObj (EM d ys l) o=some cells->o≠d/\∃cs,Qv.getObj l o=some cs/\cells=FV.Pu d ys cs:=by
 intro l;induction l with
 |nil=>intro h;cases h
 |cons p l ih=>
  obtain⟨u,i⟩:=p;intro h;simp only[EM]at h;split at h;rename_i hb;obtain rfl:=aP hb;obtain⟨h1,cs,h2,h3⟩:=ih h;refine⟨h1,cs,?_,h3⟩;simp only[Qv.getObj];have :Nat.beq u o=false:=by cases hb:Nat.beq u o;rfl;exact absurd (aP hb).symm h1
  rw[this];exact h2;rename_i hb;simp only[Qv.getObj]at h⊢;split at h;rename_i wM;obtain rfl:=aP wM;obtain rfl:=au h;exact⟨bt hb,i,rfl,rfl⟩;rename_i wM;exact ih h
theorem Qz {ys:List AV}(h:uJ ys=true):∀y,y∈ys->y.one=true:=by
 induction ys with
 |nil=>simp
 |cons x xs ih=>simp only[uJ]at h;split at h;rename_i h1;intro y hy;rcases aQ.1 hy with rfl|hy;exact h1;exact ih h y hy;cases h
theorem lP.BB {G G':aV}{S:ai}{w:World}{d:Nat}{ys:List AV}(hi:∀b i es k,w.heap[b]?=some (.map es k)->(∃o,G'.mp o=some b)->G'.aZ b i->G.aZ b i)(hi':∀b,G.aZ b 0->G'.aZ b 0)(hmp:G'.mp=G.mp)(hit:G'.it=G.it)(hl:∀o b,G'.loc o=some b->G.loc o=some b)(ht:∀q r,G.tail (.inr q)=some r->G'.tail (.inr q)=some r:=by first|exactλ_ _ h=>h|exactλ_ _ h=>(aa (λe=>nomatch e)).trans h):lP (FV.fz d ys) G G' S (S.BB d ys) w:=by refine⟨λ_=>rfl,λo l' h=>?_,λq x h=>⟨h,λr hr=>hit▸hr⟩,λ_ _ h=>hmp▸h,λ_ _ h=>hit▸h,hi,hi',λo b h=>.inl (hl o b h),ht⟩;obtain⟨l,h1,h2⟩:=xq h;exact⟨l,h1,h2,λb hb=>hmp▸hb⟩
theorem bp.af3 (hs:bp E G S a w){d:Nat}{cells:List FV}{ys:List AV}(hdn:d≠999999)(hc:Qv.getObj S.aN d=some cells)(hy:FV.fD cells=some ys)(h1:uJ ys=true):∃G',bp E G' (S.BB d ys) a w/\∀v x,aT G w v x->aT G' w v (x.fz d ys):=by
 obtain⟨B,hB,hcell⟩:=hs.aN d cells hc;obtain⟨NI,Ge,hl3⟩:=hs.iz d B hB;obtain⟨hlen,vP⟩:=FV.jg hy;let G':aV:={G with aZ:=λb o=>G.aZ b o\/(b=B/\o<ys.length),loc:=λo=>if o=d then none else G.loc o};have hone:=Qz h1;have vU:∀o b,G'.loc o=some b->o≠d/\G.loc o=some b:=λo b h=>by simp only[G']at h;split at h;cases h;rename_i hne;exact⟨hne,h⟩
 have up:∀v x,aT G w v x->aT G' w v (x.fz d ys):=λv x hv=>by refine hv.fz (B:=B) (λb o h=>.inl h) (λb h=>by rw[hB]at h;exact(au h).symm) (λj y hj=>?_) (λo b hne h=>by simp only[G'];rw[aa hne];exact h) (λ_ _ h=>h);obtain⟨x,hx,hxy⟩:=vP j y hj;obtain⟨c,h2,h3⟩:=hcell j x hx;exact⟨hone y (bz hj),.inr ⟨rfl,(aG.1 hj).1⟩,c,h2,(h3.fh hxy).keep (λb o h=>.inl h) (λ_ _ _ _ h=>h) (.refl _ _)⟩
 have aan:∀b i es n,b=B->i<ys.length->w.heap[b]?=some (.map es n)->False:=λb i es n e hi hb=>by subst e;obtain⟨x,hx,-⟩:=vP i _ (av hi);obtain⟨c,h2,-⟩:=hcell i x hx;rw[CF hb]at h2;cases h2
 refine⟨G',⟨hs.kept,hs.size,hs.ext'.move (S':=S.BB d ys) (FV.fz d ys) rfl rfl rfl up (.refl _) (.BB (λb i es n hb _ h=>h.elim id λh=>(aan b i es n h.1 h.2 hb).elim) (λ_ h=>.inl h) rfl rfl (λo b h=>(vU o b h).2)),?_,?_,?_,λi hi=>up _ _ (hs.tmps i hi),λo cs ho=>?_,λo b ho=>?_,λo o' b h h'=>hs.fk o o' b (vU _ _ h).2 (vU _ _ h').2,λo t b r h h'=>lF.mono (hs.cE o t b r (vU _ _ h).2 h') (λbs q=>⟨bs,q⟩) (λcs q=>?_),λt b s e T h=>?_,hs.ek⟩,up⟩;refine hs.jl.keep rfl rfl (λo bs q=>?_) (λo _ _ q=>?_) (λ_ _ e=>e) (ay _) (λ_ _ _ _ _ _=>rfl) (λ_ _ _=>rfl) (λo r i e hi=>?_) (λ_ _ o' _ e=>(vU o' _ e).2) (λ_ _ t q _ e=>⟨t,q,e⟩);refine⟨q,?_,rfl⟩;have hne:o≠d:=λe=>by have :=(hs.jl.at_ o bs q).1;rw[e,hc]at this;cases this
 simp only[G'];rw[aa hne];cases h':Qv.getObj (EM d ys S.aN) o with
 |none=>exact h'
 |some cs=>obtain⟨-,cs',h2,-⟩:=EW h';rw[q]at h2;cases h2
 rcases hi with hi|⟨rfl,-⟩;exact hi;exact absurd hB ((hs.jl.row o _ e).2.2.2.1 d);rintro b o (h|⟨rfl,-⟩);exact hs.oy b o h;exact .inr (E.PU Ge hdn);rintro b o (h|⟨rfl,-⟩);exact hs.fo b o h;exact NI;obtain⟨hne,cs0,h2,rfl⟩:=EW ho;obtain⟨b,h3,h4⟩:=hs.aN o cs0 h2;refine⟨b,by simp only[G'];rw[aa hne];exact h3,λi x hx=>?_⟩;rw[FV.vp,aR]at hx;cases hq:cs0[i]?with
 |none=>simp[hq]at hx
 |some y=>simp[hq]at hx;subst hx;obtain⟨c,h5,h6⟩:=h4 i y hq;exact⟨c,h5,up _ _ h6⟩
 obtain⟨hne,ho'⟩:=vU o b ho;obtain⟨k1,k2,k3⟩:=hs.iz o b ho';refine⟨k1,k2,λi=>⟨?_,(k3 i).2⟩⟩;rintro(h|⟨e,-⟩);exact(k3 i).1 h;exact hne (hs.fk o d b ho' (by rw[e];exact hB));obtain⟨-,cs0,h2,rfl⟩:=EW q;exact⟨cs0,h2,by rw[FV.vp,aj]⟩;obtain⟨k1,k2,kt,k3⟩:=hs.fF t b s e T h;refine⟨k1,k2,kt,λi hi hi'=>?_⟩;obtain⟨k4,k5,k6⟩:=k3 i hi hi';refine⟨k4,k5,?_⟩;rintro(h7|⟨rfl,hlt⟩);exact k6 h7;have :=(hs.cE d t b _ hB h).2.2 cells hc;simp only at this;omega
theorem bp.BB (hs:bp E G S a w){d:Nat}{cells:List FV}{ys:List AV}(hdn:d≠999999)(hc:Qv.getObj S.aN d=some cells)(hy:FV.fD cells=some ys)(h1:uJ ys=true):∃G',bp E G' (S.BB d ys) a w:=let⟨G',h,_⟩:=hs.af3 hdn hc hy h1;⟨G',h⟩
theorem zD:∀(ds:List Nat){K:ai->Prop}{S:ai},FZ ds K S->pV E S a w->∃S',K S'/\pV E S' a w|[],_,S,h,hs=>⟨S,h,hs⟩|d::ds,K,S,h,⟨G,hs⟩=>by simp only[FZ]at h;split at h;exact h.elim;rename_i cells hc;split at h;exact h.elim;rename_i ys hy;split at h;rename_i h1;exact zD ds h (hs.BB (jh hc).1 (jh hc).2 hy h1);exact h.elim
def marksOf:List Deferred->List Nat|[]=>[]|d::ds=>match d.target with|.collected r=>r::marksOf ds|_=>marksOf ds
theorem lU (ms:List Nat):marksOf (ms.map mark)=ms:=by
 induction ms with
 |nil=>rfl
 |cons m ms ih=>simp[marksOf,ih]
def Env.push (E:Env)(a:Act):Env:={E with mD:=none,bG:=a.tmps::E.bG,fixed:=marksOf a.defers++E.fixed}
def eN (E:Env)(Y:pE):Prop:=∀(mD:Option Nat)(xs:List (Array Value))(ls:List (Nat×Loop))(fixed:List Nat)(G:aV)(S:ai)(a:Act)(w:World)(l k:Nat)(args:List FV)(K:FV->ai->Prop)(vals:List Value),bp {E with mD:=mD,bG:=xs++E.bG,loops:=E.loops++ls,fixed:=fixed} G S a w->G.yl l=some k->Y l args K S->vals.length=args.length->(∀(i:Nat)(v:Value)(x:FV),vals[i]?=some v->args[i]?=some x->aT G w v x)->YieldAt Fence.wide 0 E.C.P k vals.toArray w λe w'=>∃v x G' S',e=.returned v/\K x S'/\bp {E with mD:=mD,bG:=xs++E.bG,loops:=E.loops++ls,fixed:=fixed} G' S' a w'/\aT G' w' v x
theorem eN.later {Y:pE}(h:eN E Y)(mD:Option Nat)(xs:List (Array Value))(ls:List (Nat×Loop))(fixed:List Nat):eN {E with mD:=mD,bG:=xs++E.bG,loops:=E.loops++ls,fixed:=fixed} Y:=by intro akM xs' ls' fixed' G S a w l k args K vals hs;simp only[<-bf]at hs⊢;rw[bf E.loops ls ls']at hs⊢;exact h akM (xs'++xs) (ls++ls') fixed' G S a w l k args K vals hs
theorem eN.push {Y:pE}(h:eN E Y)(a:Act):eN (E.push a) Y:=by have :=h.later none [a.tmps] [] (marksOf a.defers++E.fixed);simp only[aY]at this;exact this
def mc (C:Ctx)(call:iw):Prop:=∀(E:Env),E.C=C->∀(Y:pE)(g:FuncId)(args:List FV)(K:FV->ai->Prop)(G:aV)(S:ai)(a:Act)(w:World)(vals:List Value),bp E G S a w->eN (E.push a) Y->call Y g args K S->vals.length=args.length->(∀(i:Nat)(v:Value)(x:FV),vals[i]?=some v->args[i]?=some x->aT G w v x)->(∃fn,C.P.funcs[g]?=some fn/\fn.body.isNone=false/\(fn.name== "runtime.NumGoroutine")=false)/\CallsIn Fence.wide 0 C.P g vals.toArray w λe w'=>∃v x G' S',e=.returned v/\K x S'/\bp E G' S' a w'/\aT G' w' v x
theorem QA {P:Program}{f:FuncId}{args:Array Value}{w:World}{R:Ending->World->Prop}(h:CallsIn Fence.wide 0 P f args w R):CallsIn E.kX 0 P f args w R:=by unfold Env.kX;split;exact h;exact CallsIn.inRound _ h
theorem zv {P:Program}{l:Nat}{f:FuncId}{tmps:Array Value}{assign body:Code}{w:World}{R:Ending->World->Prop}(h:RoundIn Fence.wide 0 P l f tmps assign body w R):RoundIn E.kX 0 P l f tmps assign body w R:=by unfold Env.kX;split;exact h;exact h
theorem zF {aZ:Nat->Nat->Prop}{cs:List Value}{xs:List AV}(h:cs.length=xs.length/\∀(i:Nat)(c:Value)(x:AV),cs[i]?=some c->xs[i]?=some x->dh aZ w c x)(hi:aZ=G.aZ):cs.length=(aH xs).length/\∀(i:Nat)(c:Value)(x:FV),cs[i]?=some c->(aH xs)[i]?=some x->aT G w c x:=by
 rw[eP];refine⟨by simp[h.1],λi c x hc hx=>?_⟩;rw[aR]at hx;cases hq:xs[i]?with
 |none=>simp[hq]at hx
 |some y=>simp[hq]at hx;subst hx;exact .p _ _ (hi▸h.2 i c y hc hq)
theorem wp_bld (hs:bp E G S a w){f:Operand}{args:Array Operand}{types:Array TypeId}{g:FuncId}{first captured:Array Value}{ob:Nat}{bs:List UInt8}{rest:List FV}{K:ai->Prop}(ho:o.op=.call ⟨.value f,args,types⟩)(hf:a.eval f=.func (.func g) first captured)(hr:(first++args.map a.eval++captured).toList.length=(FV.ptr ob 0::rest).length/\∀(i:Nat)(c:Value)(x:FV),(first++args.map a.eval++captured).toList[i]?=some c->(FV.ptr ob 0::rest)[i]?=some x->aT G w c x)(yE:lN S.cL ob=some bs)(h:ZG E.C S o.dst g ob bs rest K){next:Act->World->Prop}{Q:Exit->Act->World->Prop}(hn:∀S' a' w',K S'->pV E S' a' w'->next a' w'):Dd E o a w next Q:=by
 unfold ZG at h;split at h;exact h.elim;rename_i xs hxs;obtain⟨out,r,⟨⟨fn,h1,h2,h3⟩,hc⟩,hk⟩:=h;generalize hvs:(first++args.map a.eval++captured)=vs at hr;obtain⟨vs⟩:=vs;match vs,hr with
  |[],hr=>simp at hr
  |v0::vs,hr=>
   obtain⟨b,rfl,hl⟩:=(hr.2 0 v0 _ rfl rfl).oW;obtain⟨-,b0,hl0,vR⟩:=hs.jl.at_ ob bs yE;rw[hl]at hl0;obtain rfl:=au hl0;have qI:=mO (G:=G) (w:=w) (cs:=vs) (xs:=rest) ⟨by simpa using hr.1,λi c x q1 q2=>hr.2 (i+1) c x (by simpa using q1) (by simpa using q2)⟩ hxs;obtain⟨-,l2,l3⟩:=hs.iz ob b hl;have hng:E.C.oG<=b:=by rcases l2 with l2|l2;have :=E.hn;omega;exact(E.hown b (Env.CC l2.2)).1
   have :=hc G.aZ w b (G.row ob) vs hs.J.1 hs.J.2 hs.fo hng (λr hr=>by rcases(hs.jl.row ob r hr).1 with h|h;have :=E.hn;omega;exact(E.hown r h.2).1) (λi=>(l3 i).1) (λr i hr=>(hs.jl.row ob r hr).2.2.1 i) vR qI.1 qI.2;refine⟨λf _=>Env.gd f,?_⟩;have Tv:first++args.map a.eval++captured=(.pointer (some ⟨b,0,none⟩)::vs).toArray:=by rw[hvs]
   rw[Oper.semAt_eq _ _ _ (λc=>by rw[ho];simp),vQ ho hf h1 h2 h3,Oper.uponIn_enter,Tv];refine⟨λh=>(by rw[Env.lR]at h;cases h),oK (Calls.mono this ?_)⟩;rintro e w' ⟨v,rfl,hv,hout,f1,f2,f3,f4,f5⟩;have Xu:∀{G':aV},aT G' w' v (.p r):=λ{G'}=>.p _ _ (hv.keep (λ_ _ h=>h.elim) (λ_ _ _ h=>h.elim) (λ_ _ _ h=>h.elim));cases out with
   |some bs'=>
    obtain⟨row',ad3,hrow⟩:=hout;have hlt:∀x,row'=some x->x<w'.heap.size:=λx hx=>by obtain⟨p,u,-,-,h6⟩:=ad3;rw[hx]at h6;obtain⟨-,cap,cur,-,h7,-⟩:=h6;exact(bB.1 h7).1
    obtain⟨hg,-⟩:=hs.VK (VL:=ZE S.cL ob bs') (row':=row') yE hl (by obtain⟨p,u,-,h6,-⟩:=ad3;exact⟨_,_,h6⟩) (hrow.imp id λh=>h.imp id λ⟨x,q1,q2⟩=>⟨x,q1,q2,hlt x q1⟩) (λx hx=>by obtain⟨p,u,-,-,h6⟩:=ad3;rw[hx]at h6;obtain⟨-,cap,cur,-,h7,-⟩:=h6;exact⟨_,_,_,h7⟩) f1 f2 f3 f4 f5 (λq bs2 hq=>(aaf hq).imp (λ⟨q1,q2⟩=>⟨q1,q2▸ad3⟩) id);exact hn _ _ _ hk ⟨_,hg.put o.dst Xu⟩
   |none=>obtain⟨hg,-⟩:=hs.VK (VL:=Ct ob S.cL) (row':=none) yE hl hout (.inr (.inl rfl)) (λx hx=>by cases hx) f1 f2 f3 f4 f5 (λq bs2 hq=>.inr (kq hq));exact hn _ _ _ hk ⟨_,hg.put o.dst Xu⟩
theorem bp.aap (hs:bp E G S a w){ob b:Nat}{cells:List FV}(yE:Qv.getObj S.aN ob=some cells)(gb:G.loc ob=some b)(hne:cells≠[]):∃cs T fr,w.heap[b]?=some (.cells cs T fr):=by obtain⟨b',h1,h2⟩:=hs.aN ob cells yE;rw[gb]at h1;obtain rfl:=au h1;match cells,hne with|x::xs,_=>obtain⟨c,h3,-⟩:=h2 0 x rfl;unfold World.cell? at h3;split at h3;rename_i h4;exact⟨_,_,_,h4⟩;cases h3
theorem jj (d:Nat):∀l:List AV,FV.eL d (aH l)=aH l|[]=>rfl|x::l=>by simp[aH,FV.eL,FV.kill,jj d l]
theorem It (d:Nat)(c:List FV):∀l:List (Nat×List FV),en d (setObj l d c)=en d l|[]=>rfl|(u,i)::l=>by simp only[setObj];split;rename_i h;simp only[en,h];rename_i h;simp only[en,h];rw[It d c l]
theorem GZ {ob:Nat}{cells cs:List FV}:∀{l:List (Nat×List FV)},Qv.getObj l ob=some cells->Qv.getObj (setObj l ob cs) ob=some cs:=by
 intro l;induction l with
 |nil=>intro h;cases h
 |cons p l ih=>obtain⟨u,i⟩:=p;intro h;simp only[Qv.getObj]at h;simp only[setObj];split at h;rename_i hb;simp only[hb,Qv.getObj];rename_i hb;simp only[hb,Qv.getObj];exact ih h
theorem bp.aiH (hs:bp E G S a w){ob b:Nat}{cells:List FV}{zs:List AV}{w':World}(yE:Qv.getObj S.aN ob=some cells)(gb:G.loc ob=some b)(hbc:∃cs T fr,w.heap[b]?=some (.cells cs T fr))(hlen:zs.length=cells.length)(hc:∀(i:Nat)(x:AV),zs[i]?=some x->∃c,w'.cell? ⟨b,i,none⟩=some c/\dh (mF G.aZ w.heap.size) w' c x)(hos:w'.os=w.os)(aae:w'.tape=w.tape)(hout:w'.output=w.output)(hsz:w.heap.size<=w'.heap.size)(hblk:∀k,k<w.heap.size->k≠b->w'.heap[k]?=w.heap[k]?)(hsh:∀cs T fr,w.heap[b]?=some (.cells cs T fr)->∃cs',w'.heap[b]?=some (.cells cs' T fr)/\cs'.size=cs.size):bp E {G with aZ:=λb o=>G.aZ b o\/(w.heap.size<=b/\b<w'.heap.size)} (S.Cw ob (aH zs)) a w':=by
 obtain⟨l1,l2,l3⟩:=hs.iz ob b gb;obtain⟨cs,T,fr,hb⟩:=hbc;obtain⟨cs',hb',akN⟩:=hsh cs T fr hb;have CG:∀k i,G.aZ k i->k≠b:=λk i h e=>(l3 i).1 (e▸h);have hcell:∀k i,k<w.heap.size->k≠b->w'.cell? ⟨k,i,none⟩=w.cell? ⟨k,i,none⟩:=λk i h1 h2=>by unfold World.cell?;simp only[hblk k h1 h2]
 have VH:∀k i,k<w.heap.size->w'.frozen? ⟨k,i,none⟩=w.frozen? ⟨k,i,none⟩:=λk i h1=>by by_cases h2:k=b;subst h2;simp[World.frozen?,hb,hb'];unfold World.frozen?;simp only[hblk k h1 h2]
 have others:fZ w w':=λk o hk ho=>by rw[hblk k (bB.1 hk).1 (λe=>by subst e;rw[hb]at hk;obtain rfl:=au hk;simp[Obj.isCells]at ho)];exact hk
 have keep:∀v x,aT G w v x->aT {G with aZ:=λb o=>G.aZ b o\/(w.heap.size<=b/\b<w'.heap.size)} w' v x:=λv x hv=>hv.keep (λb o hi=>.inl hi) (λk o c hi hc=>by rw[hcell k o (hs.fo k o hi) (CG k o hi)];exact hc) (others.qO _) (λ_ _ e=>e) (λ_ _ e=>e);have VQ:∀o r,G.row o=some r->r≠b:=λo r h e=>(hs.jl.row o r h).2.2.2.1 ob (e▸gb);refine⟨⟨hos.trans hs.kept.os,aae.trans hs.kept.tape,hout.trans hs.kept.output,bH hs.kept.size hsz,λk hk hk'=>?_,λk c1 T1 f1 hk q=>?_⟩,hs.size,hs.ext'.keep rfl rfl rfl keep others (Kw:=.more rfl rfl rfl rfl (λb i hi=>hi.imp id λhi=>hi.1) (λb hi=>.inl hi) λ_ _ h=>.inl h),?_,?_,?_,λi hi=>keep _ _ (hs.tmps i hi),λo cs2 ho=>?_,λo b2 ho=>?_,hs.fk,λo t b2 r q1 q2=>?_,λt b2 s e T2 h=>?_,hs.ek⟩;rw[hblk k (fM hk hs.kept.size) (E.VG l2 hk hk')];exact hs.kept.block k hk hk';obtain⟨c2,q1,q2⟩:=hs.kept.shape k c1 T1 f1 hk q;by_cases hkb:k=b;subst hkb;obtain⟨c3,q3,q4⟩:=hsh c2 T1 f1 q1;exact⟨c3,q3,q4.trans q2⟩;exact⟨c2,by rw[hblk k (bB.1 q1).1 hkb];exact q1,q2⟩;refine hs.jl.keep rfl rfl (λo bs q=>⟨q,rfl,rfl⟩) (λo bs _ q=>?_) (λ_ _ e=>e) hsz (λo bs b2 q q2 e=>hblk b2 (hs.iz o b2 e).1 (λe2=>?_)) (λo r e=>hblk r (hs.jl.row o r e).2.1 (VQ o r e)) (λo r i e hi=>hi.elim id λhi=>absurd (hs.jl.row o r e).2.1 oO) (λ_ _ _ _ e=>e) (λ_ _ t q _ e=>⟨t,q,e⟩);cases h':Qv.getObj (S.Cw ob (aH zs)).aN o with
 |none=>rfl
 |some cs=>rcases qT h' with⟨rfl,-⟩|⟨-,h2⟩;rw[yE]at q;cases q;rw[q]at h2;cases h2
 have :=hs.fk o ob b2 e (e2▸gb);subst this;rw[yE]at q2;cases q2;rintro k o (hi|⟨hi,_⟩);exact hs.oy k o hi;exact .inr (bH hs.kept.size hi);rintro k o (hi|⟨_,hi⟩);exact fM (hs.fo k o hi) hsz;exact hi;rcases qT ho with⟨rfl,rfl⟩|⟨hne,ho⟩;refine⟨b,gb,λi y hy=>?_⟩;rw[eP,aR]at hy;cases hq:zs[i]?with
 |none=>simp[hq]at hy
 |some z=>simp only[hq,eA,bN]at hy;subst hy;obtain⟨c,h1,h2⟩:=hc i z hq;refine⟨c,h1,.p _ _ (h2.yZ (λb o c hi hc=>⟨hi.imp id λh=>⟨h,World.block_lt_of_cell? w' _ hc⟩,hc⟩) λb es k hi hb=>⟨hi.imp id λh=>⟨h,(bB.1 hb).1⟩,hb⟩)⟩
 obtain⟨b2,h2,h3⟩:=hs.aN o cs2 ho;have wM:b2≠b:=λe=>hne (hs.fk o ob b2 h2 (e▸gb));exact⟨b2,h2,λi y hy=>let⟨c,h4,h5⟩:=h3 i y hy;⟨c,by rw[hcell b2 i (hs.iz o b2 h2).1 wM];exact h4,keep _ _ h5⟩⟩;obtain⟨k1,k2,k3⟩:=hs.iz o b2 ho;refine⟨fM k1 hsz,k2,λi=>⟨?_,by rw[VH b2 i k1];exact(k3 i).2⟩⟩;rintro(hi|⟨hi,_⟩);exact(k3 i).1 hi;omega;refine lF.mono (hs.cE o t b2 r q1 q2) (λbs q=>⟨bs,q⟩) λcs q=>?_;rcases qT q with⟨rfl,rfl⟩|⟨-,q⟩;exact⟨cells,yE,by rw[eP,aj];exact hlen⟩;exact⟨cs,q,rfl⟩;obtain⟨k1,k2,⟨c1,f1,kt,ku⟩,k3⟩:=hs.fF t b2 s e T2 h;by_cases wM:b2=b;subst wM;rw[hb]at kt;injection au kt with e1 e2 e3;subst e1;subst e2;subst e3;refine⟨fM k1 hsz,k2,⟨_,_,hb',ku⟩,λi hi hi'=>?_⟩;obtain⟨⟨c,k4⟩,k5,k6⟩:=k3 i hi hi';refine⟨?_,by rw[VH b2 i k1];exact k5,?_⟩;have hlt:i<cs.size:=by simp only[World.cell?,hb]at k4;exact(bB.1 (by simpa using k4)).1
 exact⟨cs'[i]'oO,by simp[World.cell?,hb',akN▸hlt]⟩;rintro(hi|⟨hi,_⟩);exact k6 hi;omega;refine⟨fM k1 hsz,k2,⟨c1,f1,by rw[hblk b2 k1 wM];exact kt,ku⟩,λi hi hi'=>?_⟩;obtain⟨⟨c,k4⟩,k5,k6⟩:=k3 i hi hi';refine⟨⟨c,by rw[hcell b2 i k1 wM];exact k4⟩,by rw[VH b2 i k1];exact k5,?_⟩;rintro(hi|⟨hi,_⟩);exact k6 hi;omega
theorem wp_obj (hs:bp E G S a w){f:Operand}{args:Array Operand}{types:Array TypeId}{g:FuncId}{first captured:Array Value}{xs:List FV}{K:ai->Prop}(ho:o.op=.call ⟨.value f,args,types⟩)(hf0:a.eval f=.func (.func g) first captured)(hr:(first++args.map a.eval++captured).toList.length=xs.length/\∀(i:Nat)(c:Value)(x:FV),(first++args.map a.eval++captured).toList[i]?=some c->xs[i]?=some x->aT G w c x)(h:PL E.C S o.dst g xs K){next:Act->World->Prop}{Q:Exit->Act->World->Prop}(hn:∀S' a' w',K S'->pV E S' a' w'->next a' w'):Dd E o a w next Q:=by
 unfold PL at h;split at h;rename_i ob rest;split at h;rename_i cells as1 yE has;split at h;rename_i z zs hcells;obtain⟨R,⟨⟨fn,h1,h2,h3⟩,hc⟩,hk⟩:=h;obtain⟨b,gb,hcs⟩:=hs.aN ob cells yE;obtain⟨l1,l2,l3⟩:=hs.iz ob b gb;obtain⟨g1,g2⟩:=FV.jg hcells;generalize hvs:(first++args.map a.eval++captured)=vs0 at hr;obtain⟨vs⟩:=vs0;match vs,hr with
  |[],hr=>simp at hr
  |v::vs,hr=>
   have hv:=hr.2 0 v _ rfl rfl;obtain⟨b',rfl,hb'⟩:=hv.oW;rw[gb]at hb';obtain rfl:=au hb';have Tv:=mO (cs:=vs) (xs:=rest) (ys:=as1) ⟨by simpa using hr.1,λi c x q1 q2=>hr.2 (i+1) c x (by simpa using q1) (by simpa using q2)⟩ has;have hJ:=hs.J;have hng:E.C.oG<=b:=by rcases l2 with l2|l2;have :=E.hn;omega;exact(E.hown b (Env.CC l2.2)).1
   have :=hc G.aZ w b vs hJ.1 hJ.2 hs.fo hng l1 l3 (λi x hx=>by obtain⟨y,hy,hxy⟩:=g2 i x hx;obtain⟨c,q1,q2⟩:=hcs i y hy;exact⟨c,q1,q2.fh hxy⟩) Tv.1 Tv.2;refine⟨λf _=>Env.gd f,?_⟩;rw[Oper.semAt_eq _ _ _ (λc=>by rw[ho];simp),vQ ho hf0 h1 h2 h3,Oper.uponIn_enter,hvs];refine⟨λh=>(by rw[Env.lR]at h;cases h),oK (Calls.mono this ?_)⟩;rintro e w' ⟨u,r,cells',rfl,hR,hl,oz,hc',q1,q2,q3,q4,q5,q6⟩;have hne:cells≠[]:=λe=>by subst e;simp at g1
   have hs':=hs.aiH yE gb (hs.aap yE gb hne) (zs:=cells') (hl.trans g1) hc' q1 q2 q3 q4 q5 q6;refine hn _ _ _ (hk r cells' hR) ⟨_,hs'.put o.dst (.p _ _ (oz.yZ (λb o c hi hc=>⟨hi.imp id λh=>⟨h,World.block_lt_of_cell? w' _ hc⟩,hc⟩) λb es k hi hb=>⟨hi.imp id λh=>⟨h,(bB.1 hb).1⟩,hb⟩))⟩
 exact h.elim;exact h.elim;rename_i ob T bP rest;split at h;rename_i cells as1 akQ has;split at h;rename_i zs hcells;obtain⟨hon,yE⟩:=jh akQ;obtain⟨R,⟨⟨fn,h1,h2,h3⟩,hc⟩,hk⟩:=h;obtain⟨b,gb,hcs⟩:=hs.aN ob cells yE;obtain⟨l1,l2,l3⟩:=hs.iz ob b gb;obtain⟨g1,g2⟩:=FV.jg hcells;generalize hvs:(first++args.map a.eval++captured)=vs0 at hr;obtain⟨vs⟩:=vs0;match vs,hr with
  |[],hr=>simp at hr
  |v::vs,hr=>
   have hv:=hr.2 0 v _ rfl rfl;obtain⟨n,c,b',rfl,p1,p2,p3,p4⟩:=hv.Hu;rw[gb]at p1;obtain rfl:=au p1;have Tv:=mO (cs:=vs) (xs:=rest) (ys:=as1) ⟨by simpa using hr.1,λi c x q1 q2=>hr.2 (i+1) c x (by simpa using q1) (by simpa using q2)⟩ has;have hJ:=hs.J;have hng:E.C.oG<=b:=by rcases l2 with l2|l2;have :=E.hn;omega;exact(E.hown b (Env.CC l2.2)).1
   have hlen:=(hs.cE ob ob b _ gb p2).2.2 cells yE;obtain⟨-,-,⟨cs,fr,tt,-⟩,-⟩:=hs.fF _ _ _ _ _ p2;have :=hc G.aZ w b n c vs hJ.1 hJ.2 hs.fo hng l1 l3 ⟨cs,fr,tt⟩ (g1.trans hlen) p3 p4 (λi x hx=>by obtain⟨y,hy,hxy⟩:=g2 i x hx;obtain⟨c,q1,q2⟩:=hcs i y hy;exact⟨c,q1,q2.fh hxy⟩) Tv.1 Tv.2;refine⟨λf _=>Env.gd f,?_⟩;rw[Oper.semAt_eq _ _ _ (λc=>by rw[ho];simp),vQ ho hf0 h1 h2 h3,Oper.uponIn_enter,hvs];refine⟨λh=>(by rw[Env.lR]at h;cases h),oK (Calls.mono this ?_)⟩;rintro e w' ⟨u,r,ys,full,rfl,hR,hl,hres,hc',q1,q2,q3,q4,q5,q6⟩;have hs':=hs.aiH yE gb ⟨cs,T,fr,tt⟩ (zs:=full) (hl.trans g1) hc' q1 q2 q3 q4 q5 q6;have hk:=hk r ys hR;unfold ZK at hk;cases r with
   |false=>obtain⟨rfl,rfl⟩:=hres;exact hn _ _ _ hk ⟨_,hs'.put o.dst (v:=.tuple #[]) (x:=.p (.eV [])) (jI _ _)⟩
   |true=>
    obtain⟨m,rfl,hm,rfl⟩:=hres;simp only at hk;split at hk;rename_i d hd;obtain⟨zs',rfl,hk⟩:=hk;have adZ:=hs'.VN (k:=ob) (xs:=aH full) (GZ yE) gb p2 (n:=m*bP) (dO _ hm) (dO _ p3);have e1:FV.eL ob ((aH full).take (m*bP))=aH (full.take (m*bP)):=by rw[show(aH full).take (m*bP)=aH (full.take (m*bP))from by rw[eP,eP,me],jj]
    have e2:en ob (S.Cw ob (aH full)).aN=en ob S.aN:=It ob _ S.aN;rw[e1,e2]at adZ;rw[hd];exact hn _ _ _ hk ⟨_,adZ.put (some d) (v:=.slice (some ⟨b,0,none⟩) m c) (x:=.fe ob T bP) (.fe ob T bP m c b gb (by simp only[if_true]) oO p4)⟩;exact hk.elim
 exact h.elim;exact h.elim;rcases h with h|h;obtain⟨d,ks,vs,hf,h⟩:=h;split at h;rename_i ys hys;obtain⟨R,hc,hk⟩:=h;obtain⟨G',hs',up⟩:=hs.Tu hf;refine wp_call hs' ho hf0 (mO (xs:=FV.Zs d (.mp ks vs) xs) ⟨by rw[FV.wQ,aj];exact hr.1,λi c x q1 q2=>?_⟩ hys) hc λr v w' hR hb hok=>?_;rw[FV.wQ,aR]at q2;cases hq:xs[i]?with
 |none=>simp[hq]at q2
 |some y=>simp[hq]at q2;subst q2;exact up _ _ (hr.2 i c y q1 hq)
 obtain⟨Xt,hk'⟩:=Hs (hk r hR);exact hn _ _ _ hk' (vV hs' hb hok Xt);exact h.elim;obtain⟨d,ys,h⟩:=h;split at h;exact h.elim;rename_i cells hcell;obtain⟨hy,h1,h⟩:=h;split at h;rename_i zs hzs;obtain⟨R,hc,hk⟩:=h;obtain⟨G',hs',up⟩:=hs.af3 (jh hcell).1 (jh hcell).2 hy h1;refine wp_call hs' ho hf0 (mO (xs:=FV.Pu d ys xs) ⟨by rw[FV.vp,aj];exact hr.1,λi c x q1 q2=>?_⟩ hzs) hc λr v w' hR hb hok=>?_;rw[FV.vp,aR]at q2;cases hq:xs[i]?with
 |none=>simp[hq]at q2
 |some y=>simp[hq]at q2;subst q2;exact up _ _ (hr.2 i c y q1 hq)
 obtain⟨Xt,hk'⟩:=Hs (hk r hR);exact hn _ _ _ hk' (vV hs' hb hok Xt);exact h.elim
theorem AD:∀{xs:List FV},FV.HU xs=true->∀x,x∈xs->x.only=true:=by
 intro xs;induction xs with
 |nil=>intro _ x hx;cases hx
 |cons y ys ih=>intro h x hx;simp only[FV.HU]at h;split at h;rename_i hy;rcases aQ.1 hx with rfl|hx;exact hy;exact ih h x hx;cases h
theorem aT.agH {G:aV}{w:World}{v:Value}{x:FV}{b:Nat}(h:aT G w v x)(hb:G.loc 999999=some b):x.only=true->aT (agH G.aZ b) w v x:=by
 induction h with
 |p v x h=>intro _;exact .p v x h
 |agg cs xs hn _ ih=>intro hs;simp only[FV.only]at hs;exact .agg cs xs hn λi c x h1 h2=>ih i c x h1 h2 (AD hs x (bz h2))
 |eV cs xs hn _ ih=>intro hs;simp only[FV.only]at hs;exact .eV cs xs hn λi c x h1 h2=>ih i c x h1 h2 (AD hs x (bz h2))
 |ptr o off b' h=>intro hs;simp only[FV.only]at hs;obtain rfl:=aP hs;rw[hb]at h;obtain rfl:=au h;exact .ptr _ _ _ (by simp[Qv.agH])
 |full xs a h=>intro _;exact .full xs a h
 |fn f fs cs first captured hn hn' _ _ ih HN=>intro hs;simp only[FV.only]at hs;split at hs;rename_i h1;exact .fn f fs cs first captured hn hn' (λi c x h2 h3=>ih i c x h2 h3 (AD h1 x (bz h3))) (λi c x h2 h3=>HN i c x h2 h3 (AD hs x (bz h3)));cases hs
 |dF v=>intro _;exact .dF v
 |_=>intro hs;simp[FV.only]at hs
theorem dh.HT {aZ qN:Nat->Nat->Prop}{w:World}{v:Value}{x:AV}(h:dh aZ w v x)(hx:x.HT=true):dh qN w v x:=by
 cases h with
 |eV cs xs hl hr=>exact .eV cs xs hl λi c x h1 h2=>(hr i c x h1 h2).flat (EK hx x (bz h2))
 |bool b=>exact .bool b
 |int k n=>exact .int k n
 |str s=>exact .str s
 |wN=>exact .wN
 |BA=>exact .BA
 |sE=>exact .sE
 |lu=>exact .lu
 |_=>simp[AV.HT,AV.flat]at hx
def zG (w:World):Nat->Nat->Prop:=λb _=>b<w.heap.size
theorem dh.all (hs:bp E G S a w){v:Value}{x:AV}(h:dh G.aZ w v x):dh (zG w) w v x:=h.keep (λb o h=>hs.fo b o h) (λ_ _ _ _ h=>h) (.refl _ _)
mutual theorem aar (hs:bp E G S a w):∀{v:Value}{x:FV}{y:AV},aT G w v x->FY S x y->dh (zG w) w v y
 |v,x,y,hx,.plain h=>dh.all hs (hx.fh h)
 |v,.fe ob T bP,.sl xss,hx,.fe (cells:=cells) h1 h2 h3=>by
  obtain⟨n,c,b,rfl,p1,p2,p3,p4⟩:=hx.Hu;obtain⟨-,yE⟩:=jh h1;have hlen:=(hs.cE ob ob b _ p1 p2).2.2 cells yE;obtain⟨b',Bk,hcs⟩:=hs.aN ob cells yE;rw[p1]at Bk;obtain rfl:=au Bk;have g:=pN hs h2;have hfl:xss.flatten.length=xss.length*bP:=gG λzs hz=>(h3 zs hz).1;have hn:n=xss.length:=by
   have :xss.length*bP=n*bP:=by rw[<-hfl,g.1];exact hlen
   exact(gm p4 this).symm
  subst hn;have hb:=(hs.iz ob b p1).1;have get:∀(i:Nat)(ys:List AV)(j:Nat)(y:AV),xss[i]?=some ys->ys[j]?=some y->∃u,w.cell? ⟨b,i*bP+j,none⟩=some u/\dh (zG w) w u y:=λi ys j y q1 q2=>by
   have q:=lT (λzs hz=>(h3 zs hz).1) q1 q2;have hlt:i*bP+j<cells.length:=by rw[<-g.1];exact(aG.1 q).1
   obtain⟨c,k1,k2⟩:=hcs _ _ (av hlt);exact⟨c,k1,g.2 _ _ _ _ (av hlt) q k2⟩
  refine .sl b 0 c bP xss (λi j=>(w.cell? ⟨b,i*bP+j,none⟩).getD undef) (λi ys q=>(h3 ys (bz q)).1) (λi ys j y q1 q2=>(h3 ys (bz q1)).2 y (bz q2)) (λi ys j y q1 q2=>?_) (λi ys j y q1 q2=>hb) (λi ys j y q1 q2=>?_) p3;obtain⟨u,k1,k2⟩:=get i ys j y q1 q2;rw[cM,k1];rfl;obtain⟨u,k1,k2⟩:=get i ys j y q1 q2;rw[k1];exact k2
 |v,.ptr ob 0,.imp ys,hx,.ptr (cells:=cells) h1 h2 h3=>by
  obtain⟨b,rfl,p1⟩:=hx.oW;obtain⟨-,yE⟩:=jh h1;have hb:=(hs.iz ob b p1).1;obtain⟨b',Bk,hcs⟩:=hs.aN ob cells yE;rw[p1]at Bk;obtain rfl:=au Bk;have g:=pN hs h2;have get:∀(j:Nat)(y:AV),ys[j]?=some y->∃u,w.cell? ⟨b,j,none⟩=some u/\dh (zG w) w u y:=λj y q=>by
   have hlt:j<cells.length:=by rw[<-g.1];exact(aG.1 q).1
   obtain⟨c,k1,k2⟩:=hcs _ _ (av hlt);exact⟨c,k1,g.2 _ _ _ _ (av hlt) q k2⟩
  refine .imp b 0 ys (λj=>(w.cell? ⟨b,j,none⟩).getD undef) (λj y q=>h3 y (bz q)) (λj y q=>?_) (λj y q=>hb) (λj y q=>?_);obtain⟨u,k1,k2⟩:=get j y q;rw[cM,k1];rfl;obtain⟨u,k1,k2⟩:=get j y q;rw[k1];exact k2
 |v,.fI ob,.mp ks vs,hx,.fI (l:=l) h1 h2 h3=>by
  cases hx with
  |fI _ b0 hm=>
   obtain⟨b,fW,es,p1,p2,p3,p4,p5⟩:=hs.ext'.mps.at_ ob l h1;rw[hm]at p1;obtain rfl:=au p1;have hb:b0<w.heap.size:=(bB.1 p2).1;have g:=pN hs h3;have Pw:ks.length=l.length:=by rw[<-h2,nQ,aj]
   refine .mp b0 fW es ks vs oO (by rw[g.1,Az,aj];omega) hb p2 p3 (λi e x q1 q2=>?_) (λi e x q1 q2=>?_);have yW:i<l.length:=by have :=(aG.1 q1).1;omega
   have :=(p5 i e _ q1 (av yW)).1;rw[<-h2,nQ,aR,av yW]at q2;obtain rfl:=au q2;exact dh.all hs this;have yW:i<l.length:=by have :=(aG.1 q1).1;omega
   have :=(p5 i e _ q1 (av yW)).2;exact g.2 i _ _ _ (by rw[Az,aR,av yW];rfl) q2 this
 |v,.fn ff fs cs,.fn _ a b,hx,.fn h1 h2=>by
  cases hx with
  |fn _ vs us _ _ q1 q2 q3 q4=>
   have g1:=pN hs h1;have g2:=pN hs h2;refine .fn _ vs us a b (q1.trans g1.1.symm) (q2.trans g2.1.symm) (λi c x k1 k2=>?_) (λi c x k1 k2=>?_);have hlt:i<fs.length:=by rw[<-g1.1];exact(aG.1 k2).1
   exact g1.2 i _ _ _ (av hlt) k2 (q3 i c _ k1 (av hlt));have hlt:i<cs.length:=by rw[<-g2.1];exact(aG.1 k2).1
   exact g2.2 i _ _ _ (av hlt) k2 (q4 i c _ k1 (av hlt))
 |v,.agg xs,.agg ys,hx,.agg h1 h2=>by
  cases hx with
  |agg vs _ q1 q2=>
   have g1:=pN hs h1;refine .agg vs ys (q1.trans g1.1.symm) h2 (λi c x k1 k2=>?_);have hlt:i<xs.length:=by rw[<-g1.1];exact(aG.1 k2).1
   exact g1.2 i _ _ _ (av hlt) k2 (q2 i c _ k1 (av hlt)) theorem pN (hs:bp E G S a w):∀{xs:List FV}{ys:List AV},vN S xs ys->ys.length=xs.length/\∀(i:Nat)(x:FV)(y:AV)(v:Value),xs[i]?=some x->ys[i]?=some y->aT G w v x->dh (zG w) w v y
 |xs,ys,.plain h=>by obtain⟨g1,g2⟩:=FV.jg h;refine⟨g1,λi x y v q1 q2 q3=>?_⟩;obtain⟨x',k1,k2⟩:=g2 i y q2;rw[q1]at k1;obtain rfl:=au k1;exact dh.all hs (q3.fh k2)
 |[],[],.nil=>⟨rfl,λi x y v q1=>by simp at q1⟩
 |x::xs,y::ys,.cons h1 h2=>by
  have ih:=pN hs h2;refine⟨by simp[ih.1],λi x' y' v q1 q2 q3=>?_⟩;cases i with
  |zero=>simp at q1 q2;subst q1;subst q2;exact aar hs q3 h1
  |succ i=>exact ih.2 i x' y' v (by simpa using q1) (by simpa using q2) q3 end
theorem Xv (hs:bp E G S a w){vs:List Value}{xs:List FV}{ys:List AV}(hr:vs.length=xs.length/\∀(i:Nat)(c:Value)(x:FV),vs[i]?=some c->xs[i]?=some x->aT G w c x)(h:vN S xs ys):vs.length=ys.length/\∀(i:Nat)(c:Value)(y:AV),vs[i]?=some c->ys[i]?=some y->dh (zG w) w c y:=by
 have g:=pN hs h;refine⟨hr.1.trans g.1.symm,λi c y q1 q2=>?_⟩;have hlt:i<xs.length:=by rw[<-g.1];exact(aG.1 q2).1
 exact g.2 i _ _ _ (av hlt) q2 (hr.2 i c _ q1 (av hlt))
theorem wp_lend (hs:bp E G S a w){f:Operand}{args:Array Operand}{types:Array TypeId}{g:FuncId}{first captured:Array Value}{xs:List FV}{K:ai->Prop}(ho:o.op=.call ⟨.value f,args,types⟩)(hf:a.eval f=.func (.func g) first captured)(hr:(first++args.map a.eval++captured).toList.length=xs.length/\∀(i:Nat)(c:Value)(x:FV),(first++args.map a.eval++captured).toList[i]?=some c->xs[i]?=some x->aT G w c x)(h:ZL E.C S o.dst g xs K){next:Act->World->Prop}{Q:Exit->Act->World->Prop}(hn:∀S' a' w',K S'->pV E S' a' w'->next a' w'):Dd E o a w next Q:=by obtain⟨ys,R,hl,⟨⟨fn,h1,h2,h3⟩,hc⟩,hk⟩:=h;obtain⟨r1,r2⟩:=Xv hs hr hl;have hJ:=hs.J;have :=hc (zG w) w (first++args.map a.eval++captured).toList ⟨hJ.1.1,λg xs hg=>dh.all hs (hJ.1.2 g xs hg)⟩ hJ.2 (λb o h=>h) r1 r2;refine⟨λf _=>Env.gd f,?_⟩;rw[Oper.semAt_eq _ _ _ (λc=>by rw[ho];simp),vQ ho hf h1 h2 h3,Oper.uponIn_enter];refine⟨λh=>(by rw[Env.lR]at h;cases h),oK (Calls.mono this ?_)⟩;rintro e w' ⟨v,r,rfl,hR,hok,hb⟩;obtain⟨⟨x,rfl,hx⟩,hk'⟩:=hk r hR;obtain⟨Xt,hk'⟩:=Hs hk';have hok:nk G.aZ w.heap.size w' v (.val x):=dh.HT (aZ:=mF (zG w) w.heap.size) hok hx;obtain⟨G',hg⟩:=vV hs (dst:=o.dst) hb hok Xt;exact hn _ _ _ hk' ⟨G',hg⟩
theorem wp_evClear (hs:bp E G S a w){K:ai->Prop}{x:Operand}{t:TypeId}(ho:o.op=.call ⟨.builtin .clear,#[x],#[t]⟩)(h:Np E.C t o.dst S (S.val x) K){next:Act->World->Prop}{Q:Exit->Act->World->Prop}(hn:∀S' a' w',K S'->pV E S' a' w'->next a' w'):Dd E o a w next Q:=by
 have Hw:=aT.val hs x;generalize S.val x=vx at h Hw;unfold Np at h;split at h;rename_i k bx T bP;split at h;rename_i e _ ht;have KO:=(E.C.ok ht).slice;split at h;exact h.elim;rename_i j hj;split at h;rename_i xs hb hxs;obtain rfl:=aP hb;obtain⟨hkn,hxs⟩:=jh hxs;obtain⟨hone,N,hN,zs,rfl,hK⟩:=h;obtain⟨z,hz,Hv⟩:=(E.C.ok hj).zeroV w;have aiI:=(E.C.ok hj).len;generalize LD:a.eval x=vv at Hw;cases Hw with
 |uH _ _ _ _ n' c b off p1 p2 p0 p3 p4=>
  have hxl:=(hs.cE _ _ _ _ p1 p2).2.2 xs hxs;simp only at hxl;have hn':bx+N=n':=gm p4 (hN.symm.trans hxl);obtain rfl:N=n'-bx:=oO
  have hrl:=(rY (j.zero.map FV.gP) (n'-bx)).1;have BH:gD xs (bx*j.size) (ov (n'-bx) (j.zero.map FV.gP))=some (xs.take (bx*j.size)++ov (n'-bx) (j.zero.map FV.gP)):=by refine NG ?_;rw[hrl,aj,aiI,hN,bC]
  have hall:ji (ov (n'-bx) (j.zero.map FV.gP))=true:=by
   generalize n'-bx=q;induction q with
   |zero=>rfl
   |succ q ih=>refine pF.2 λy hy=>?_;rw[ov,bh]at hy;exact hy.elim (λq=>pF.1 hone y q) (λq=>pF.1 ih y q)
  have oz:aT G w (.agg (ov (n'-bx) j.zero).toArray) (.agg (ov (n'-bx) (j.zero.map FV.gP))):=by rw[Io];exact .agg _ _ (qS (G:=G) (w:=w) _).1 (qS (G:=G) (w:=w) _).2
  obtain⟨hg,hrun⟩:=zw hs hxs p1 oz (by exact hall) (by exact BH);have hoff:off=bx*j.size\/n'-bx=0:=by by_cases hlt:bx<c;exact .inl (p0.2 hlt);exact .inr oO
  have jH:∀ty,(Builtin.clear_ #[t] ty #[.slice (some ⟨b,off,none⟩) (n'-bx) (c-bx)]).run E.C.P w=.ok (.tuple #[]) (w.setCells b (bx*j.size) (ov (n'-bx) j.zero)):=λty=>by rcases hoff with rfl|h0;have :=Tq (P:=E.C.P) w t e ty z KO hz b (bx*j.size) (n'-bx) (c-bx) (by rw[Hv];exact hrun);rwa[Hv]at this;rw[h0];simp[Builtin.clear_,run_underlying KO];rfl
  have hr:(execOp a.eval o).run E.C.P w=.ok (.value (.tuple #[])) (w.setCells b (bx*j.size) (ov (n'-bx) j.zero)):=by simp[execOp,ho,resolve,invoke,builtin,LD,jH]
  refine wp_value hr (hn _ _ _ hK ⟨G,hg.put o.dst (v:=undef) (jI _ _)⟩)
 exact h.elim;exact h.elim;exact h.elim
theorem wp_inl (hs:bp E G S a w){call:iw}{Y:pE}(de:mc E.C call)(hY:eN E Y){f:Operand}{args:Array Operand}{types:Array TypeId}{g:FuncId}{first captured:Array Value}{xs:List FV}{K:ai->Prop}(ho:o.op=.call ⟨.value f,args,types⟩)(hf:a.eval f=.func (.func g) first captured)(hr:(first++args.map a.eval++captured).toList.length=xs.length/\∀(i:Nat)(c:Value)(x:FV),(first++args.map a.eval++captured).toList[i]?=some c->xs[i]?=some x->aT G w c x)(h:PM E.C call Y S o.dst g xs K){next:Act->World->Prop}{Q:Exit->Act->World->Prop}(hn:∀S' a' w',K S'->pV E S' a' w'->next a' w'):Dd E o a w next Q:=by
 unfold PM at h;split at h;rename_i ob bs rest hb;unfold ZH at hb;split at hb;split at hb;rename_i yE;have hb:=au hb;injection hb with e1 e2;injection e2 with e2 e3;subst e1;subst e2;subst e3;exact wp_bld hs ho hf hr yE h hn;cases hb;cases hb;rename_i hnb;rcases h with h|(⟨hx,h⟩|h)|h;obtain⟨⟨fn,h1,h2,h3⟩,hc⟩:=de E rfl Y g xs _ G S a w _ hs (hY.push a) h hr.1 hr.2;refine⟨λf _=>Env.gd f,?_⟩;rw[Oper.semAt_eq _ _ _ (λc=>by rw[ho];simp),vQ ho hf h1 h2 h3,Oper.uponIn_enter];refine⟨λh=>(by rw[Env.lR]at h;cases h),QA (CallsIn.mono hc ?_)⟩;rintro e w' ⟨v,x,G',S',rfl,hK,hs',hv⟩;unfold aik at hK;split at hK;obtain⟨T,hT,hK⟩:=hK;exact hn _ _ _ hK (pV.weaken ⟨G',hs'.put o.dst hv⟩ hT);exact hn _ _ _ hK ⟨G',hs'.put o.dst hv⟩;clear hnb;split at h;rename_i x;generalize hargs:(first++args.map a.eval++captured)=vs at hr;obtain⟨vs⟩:=vs;match vs,hr with
  |[v],hr=>have hv:=hr.2 0 v x rfl rfl;refine wp_value (v:=v) (w':=w) ?_ (hn _ _ _ h ⟨G,hs.put o.dst hv⟩);have :=hx v w;simp[execOp,ho,resolve,hf,Deferred.ofValue,invoke,hargs,this]
  |[],hr=>simp at hr
  |_::_::_,hr=>simp at hr
 exact h.elim;exact wp_lend hs ho hf hr h hn;exact wp_obj hs ho hf hr h hn
theorem wp_yield (hs:bp E G S a w){Y:pE}(hY:eN E Y){f:Operand}{args:Array Operand}{types:Array TypeId}{l:Nat}{K:ai->Prop}(ho:o.op=.call ⟨.value f,args,types⟩)(hf:S.val f=.ni l)(h:Y l (args.toList.map S.val) (λv S'=>K (S'.put o.dst v)) S){next:Act->World->Prop}{Q:Exit->Act->World->Prop}(hn:∀S' a' w',K S'->pV E S' a' w'->next a' w'):Dd E o a w next Q:=by
 have hfv:=aT.val hs f;rw[hf]at hfv;generalize LD:a.eval f=v at hfv;cases hfv with
 |ni _ k hk=>
  have hv:=uc hs args.toList;have hY':=hY E.mD [] [] E.fixed G S a w l k;simp only[nN,aY]at hY';have :=hY' _ _ _ hs hk h hv.1 hv.2;obtain⟨fn,tmps,assign,body,h1,h2⟩:=this;refine⟨λf _=>Env.gd f,?_⟩;have hrun:(execOp a.eval o).run E.C.P w=.ok (.round k fn tmps assign body) w:=by
   have he:(args.toList.map a.eval).toArray=args.map a.eval:=by apply iO.1;rw[nP]
   rw[he]at h1;simp[execOp,ho,resolve,LD,Deferred.ofValue,invoke,h1]
  rw[Oper.semAt_eq _ _ _ (λc=>by rw[ho];simp),hrun,Oper.uponIn_round];refine⟨λh=>(by rw[Env.lR]at h;cases h),zv (RoundIn.mono h2 ?_)⟩;rintro e w' ⟨v,x,G',S',rfl,hK,hs',hv⟩;exact hn _ _ _ hK ⟨G',hs'.put o.dst hv⟩
theorem wp_buildSlice (hs:bp E G S a w){t e:TypeId}{len:Nat}{parts:Array (Nat×Operand)}{d0:Nat}{K:ai->Prop}{sa sb:Nat}{sz:List Value}(ho:o.op=.buildSlice t len parts)(Gd:o.dst=some d0)(ht:bU E.C.jG t=some ⟨sa,sb,.slice e,sz⟩)(h:lW E.C S t len parts.toList λv=>match v with
 |.full xs=>match bU E.C.jG e with|none=>False|some j=>wU S d0 λnm=>K ((S.kill nm).put (some d0) (.eH nm e j.size xs))
 |_=>False){next:Act->World->Prop}{Q:Exit->Act->World->Prop}(hn:∀S' a' w',K S'->pV E S' a' w'->next a' w'):Dd E o a w next Q:=by obtain⟨xs,us,e',j,⟨_,_,_,ht'⟩,hj,hK,hrun,hlen,hr⟩:=yD hs ho h;rw[ht]at ht';have :=au ht';injection this with _ _ q _;injection q with q;subst q;simp only[hj,mM]at hK;generalize hd:S.off+d0=d at hK;have GY:Below w.heap.size w (w.alloc (.cells us e)):=(Below.refl _ _).alloc (ay _) _;have hsz:(w.alloc (.cells us e)).heap.size=w.heap.size+1:=World.size_alloc w _;have hg:=((hs.Nu GY λb o=>o<xs.length*j.size).kill d).AA (t:=d) (B:=w.heap.size) (s:=xs.length*j.size) (e:=xs.length*j.size) (T:=e) (tM _ d) (by rw[hsz];omega) hs.kept.size ⟨_,_,World.alloc_heap_new w _,trivial⟩ (λo h=>by simp only[aV.free]at h;split at h;cases h;have :=(hs.iz o _ h).1;omega) (λt' r h=>by simp only[aV.free]at h;split at h;cases h;have :=(hs.fF t' _ r.1 r.2.1 r.2.2 h).1;omega) (λo h=>by simp only[aV.free]at h;split at h;cases h;have :=(hs.jl.row o _ h).2.1;omega) (λi hi hi'=>oO);refine wp_value hrun ?_;rw[Gd];exact hn _ _ _ hK ⟨_,hg.put (some d0) (x:=.eH d e j.size xs) (.eH d e j.size xs (some ⟨w.heap.size,0,none⟩) xs.length hr (.inr ⟨w.heap.size,0,rfl,hlen,by simp⟩))⟩
theorem wp_bytes (hs:bp E G S a w){src dst:TypeId}{x:Operand}{d0:Nat}{K:ai->Prop}{s:List UInt8}(ho:o.op=.convert src dst x)(Gd:o.dst=some d0)(hx:S.val x=.p (.str s))(h:EN E.C S src dst d0 s K){next:Act->World->Prop}{Q:Exit->Act->World->Prop}(hn:∀S' a' w',K S'->pV E S' a' w'->next a' w'):Dd E o a w next Q:=by
 unfold EN at h;split at h
 ·rename_i e _ h1 h2;split at h
  ·rename_i by0 z0 he;rw[mM]at h;have Hw:=aT.val hs x;rw[hx]at Hw;have ex:=Hw.jR;have hu1:=(E.C.ok h1).str;have hu2:=(E.C.ok h2).slice;have hu3:=(E.C.ok he).int;have hrun:(execOp a.eval o).run E.C.P w=.ok (.value (.slice (some ⟨w.heap.size,0,none⟩) (⟨s.toArray⟩:ByteArray).size (grownCap w (⟨s.toArray⟩:ByteArray).size 0 e))) (Lib.bytesWorld w e ⟨s.toArray⟩):=by simp[execOp,ho,ex,Lib.run_convert_string_bytes w src dst e ⟨s.toArray⟩ hu1 hu2 hu3]
   have hsz:(⟨s.toArray⟩:ByteArray).size=s.length:=by simp[ByteArray.size]
   rw[hsz]at hrun;have hcap:=grownCap_ge w s.length 0 e;generalize hc:grownCap w s.length 0 e=c at hrun hcap;have hb:Below w.heap.size w (Lib.bytesWorld w e ⟨s.toArray⟩):=⟨rfl,rfl,rfl,by rw[Lib.bytesWorld_size];omega,λk hk=>Lib.bytesWorld_at_old w e _ k hk⟩;have hcs:(Lib.bytesCells w e ⟨s.toArray⟩).size=c:=by simp[Lib.bytesCells,hc,hsz];omega
   have hnew:=Lib.bytesWorld_at_new w e ⟨s.toArray⟩;have hsize:=Lib.bytesWorld_size w e ⟨s.toArray⟩;have oz:dh (λb' o=>G.aZ b' o\/(w.heap.size<=b'/\¬(b'=w.heap.size/\0+(s.map λb=>[AV.int .u8 (b.toNat:Int)]).length*1<=o/\o<0+c*1))) (Lib.bytesWorld w e ⟨s.toArray⟩) (.slice (some ⟨w.heap.size,0,none⟩) (s.map λb=>[AV.int .u8 (b.toNat:Int)]).length c) (.sl (s.map λb=>[AV.int .u8 (b.toNat:Int)])):=by
    refine .sl w.heap.size 0 c 1 _ (λi j=>.int .u8 ((s.getD i 0).toNat:Int)) (λi ys hi=>?_) (λi ys j y hi hj=>?_) (λi ys j y hi hj=>?_) (λi ys j y hi hj=>?_) (λi ys j y hi hj=>?_) (by simpa using hcap);rw[aR]at hi;obtain⟨b,-,rfl⟩:=qc.1 hi;rfl;all_goals
     rw[aR]at hi;obtain⟨b,hb,rfl⟩:=qc.1 hi;have hlt:=(aG.1 hb).1;obtain rfl:j=0:=by
      cases j with
      |zero=>rfl
      |succ j=>simp at hj
     simp at hj;subst hj
    rfl;have :=Lib.bytesWorld_cell w e ⟨s.toArray⟩ i (by rw[hsz];exact hlt);simpa using this;refine .inr ⟨ay _,?_⟩;simp;omega;simp[List.getD,hb];exact .int _ _
   obtain⟨G',hg⟩:=vV hs (dst:=o.dst) (r:=.fresh e 1 (s.map λb=>[AV.int .u8 (b.toNat:Int)])) (v:=.slice (some ⟨w.heap.size,0,none⟩) (s.map λb=>[AV.int .u8 (b.toNat:Int)]).length c) hb ⟨some ⟨w.heap.size,0,none⟩,c,rfl,.inr ⟨w.heap.size,0,_,_,rfl,ay _,by rw[hsize];omega,λys hy=>by obtain⟨b,-,rfl⟩:=aI.1 hy;rfl,hnew,λi hi hi'=>by
    refine⟨?_,?_⟩;have hlt:i<(Lib.bytesCells w e ⟨s.toArray⟩).size:=by rw[hcs];omega
    exact⟨_,by simp[World.cell?,hnew,hlt];rfl⟩;have hlt:i<(Lib.bytesCells w e ⟨s.toArray⟩).size:=by rw[hcs];omega
    simp[World.frozen?,hnew];omega,oz⟩⟩;refine wp_value (by rw[hrun,show s.length=(s.map λb=>[AV.int .u8 (b.toNat:Int)]).length from(aj _).symm]) (hn _ _ _ ?_ ⟨G',hg⟩);rw[Gd];exact h
  exact h.elim
 exact h.elim
theorem QB (hs:bp E G S a w){t:TypeId}{x h m:Operand}{K:FV->Prop}(ho:o.op=.slice t x none (some h) (some m))(hk:Td E.C t (S.val x) (S.val h) (S.val m) K):Yields E G a w o K:=by have hx:=aT.val hs x;have hh:=aT.val hs h;have hm:=aT.val hs m;generalize S.val x=vx at hk hx;generalize S.val h=vh at hk hh;generalize S.val m=vm at hk hm;unfold Td at hk;split at hk;rename_i e _ ht;split at hk;exact hk.elim;rename_i j hj;split at hk;rename_i xs kh a0 km b0 hxs;obtain⟨rfl,rfl,hk⟩:=hk;obtain⟨ad,c,hv,-,-⟩:=(hx.elems hxs).lD;have e1:=hh.fN;have e2:=hm.fN;have hok:=E.C.ok ht;have KO:=hok.slice;have hjs:=(E.C.ok hj).sizeOf w;refine Yields.same (v:=.slice ad 0 0) ?_ hk (.full [] ad (.Xi _ _));simp[execOp,ho,hv,e1,e2,Instr.slice,Instr.sliceAt,run_underlying KO,Instr.sliceBounds,Instr.sliceBound,asIntOf,hjs];exact hk.elim;exact hk.elim
theorem wp_evAppN (hs:bp E G S a w){d:Nat}{K:ai->Prop}{x y:Operand}{t u:TypeId}(ho:o.op=.call ⟨.builtin .append,#[x,y],#[t,u]⟩)(hd:o.dst=some d)(hx0:S.val x=.full [])(h:Nn E.C t u d S (S.val y) K){next:Act->World->Prop}{Q:Exit->Act->World->Prop}(hn:∀S' a' w',K S'->pV E S' a' w'->next a' w'):Dd E o a w next Q:=by
 have Hw:=aT.val hs x;have hy:=aT.val hs y;rw[hx0]at Hw;generalize S.val y=vy at h hy;unfold Nn at h;split at h;rename_i e _ ui ht hui;have KO:=(E.C.ok ht).slice;obtain⟨dd,hud,hsh⟩:=(E.C.ok hui).zm;split at h;exact h.elim;rename_i zB;have hdk:∀k,dd≠.int k:=λk e=>by rw[<-hsh,e]at zB;simp[shapeOf,Shape.FX]at zB
 split at h;exact h.elim;rename_i j hj;have hok:=E.C.ok hj;split at h;rename_i ys hys hb0 hp0;have hb0:=bt hb0;have p4:0<j.size:=xx (bt hp0);obtain⟨hne,zy,hbd,h⟩:=h;rw[lX]at h;obtain⟨hdn,zs,rfl,hK⟩:=h;have hdn:=bt hdn;have hm0:0<ys.length:=jr.2 hne;obtain⟨news,n1,n2,n3⟩:=hy.items (P:=E.C.P) (e:=j.size) hys zy;generalize Qq:a.eval y=vy at hy n2 n3;generalize NH:a.eval x=vv at Hw;cases Hw with
 |full _ ad hr0=>
  have nl:news.length=ys.length*j.size:=n1.len;have Xr:(aH ys.flatten).length=ys.length*j.size:=by rw[iZ];exact gG zy
  have nr:∀(i:Nat)(z:FV),(aH ys.flatten)[i]?=some z->∃u,news[i]?=some u/\aT G w u z:=λi z hz=>by
   rw[ue]at hz;have hi:i<ys.length*j.size:=by
    rw[<-gG zy];cases hq:ys.flatten[i]?with
    |none=>rw[hq]at hz;cases hz
    |some q=>exact(aG.1 hq).1
   have hq:i/j.size<ys.length:=Df (by rw[sZ];exact hi);have hr:i%j.size<(ys[i/j.size]).length:=by rw[zy _ (aK hq)];exact kr _ p4
   have hii:i/j.size*j.size+i%j.size=i:=Nat.div_add_mod' i j.size;have h1:=av hq;have h2:=av hr;have h3:=lT zy h1 h2;rw[hii]at h3;rw[h3]at hz;obtain rfl:=au hz;obtain⟨u,e1,e2,-⟩:=n1.at_ _ _ _ _ h1 h2;rw[hii]at e1;exact⟨u,e1,.p _ _ e2⟩
  have of':∀w',(∀b o,w'.cell? ⟨b,o,none⟩=w.cell? ⟨b,o,none⟩)->(Builtin.firstCells j.size 0 (.slice ad 0 0)).run E.C.P w'=.ok ([]:List Value).toArray w':=λw' _=>by cases ad<;>simp[Builtin.firstCells,loadCells,loadCellsFrom]
  obtain⟨rest,z,hz,qI,hrun⟩:=iS (P:=E.C.P) (w:=w) (ty:=o.type) (base:=ad) (n:=0) (c:=0) (news:=news) (olds:=[]) KO hud hdk hok n2 n3 of' oO (by rw[cM];exact hbd) hb0;have hcap:0+ys.length<=grownCap w (0+ys.length) 0 e:=grownCap_ge w _ _ _;generalize hcg:grownCap w (0+ys.length) 0 e=cap at*;have hrl:rest.size=(cap-(0+ys.length))*j.size:=by rw[qI,size_zeroCells,hz]
  have jH:(news++rest.toList).length=cap*j.size:=by simp only[aq,nl,js,hrl,<-bC];rw[show ys.length+(cap-(0+ys.length))=cap from oO]
  generalize hnm:S.off+d=nm at hK hdn;obtain⟨G',g1,g2,g3⟩:=AB hs.drew nm hdn (zs:=aH ys.flatten) (cells:=news++rest.toList) (s:=ys.length*j.size) (cap:=cap*j.size) (e:=e) Xr jH (λi z hz=>by have hk:∀{v:Value}{z:FV},aT G w v z->aT G {w with drawn:=w.drawn+1} v z:=λh=>h.keep (λ_ _ h=>h) (λ_ _ _ _ h=>h) (λ_ _ _ _ h=>h) (λ_ _ h=>h) (λ_ _ h=>h);obtain⟨u,h2,h3⟩:=nr i z hz;have Zw:=(aG.1 h2).1;exact⟨u,by rw[cO Zw];exact h2,hk h3⟩);rw[jj]at g1;have hW:w.drew.alloc (.cells (([]:List Value).toArray++news.toArray++rest) e)=({w with drawn:=w.drawn+1}:World).alloc (.cells (news++rest.toList).toArray e):=by
   have :([]:List Value).toArray++news.toArray++rest=(news++rest.toList).toArray:=by apply iO.1;simp
   rw[this];rfl
  rw[hW]at hrun;refine wp_value (v:=.slice (some ⟨w.heap.size,0,none⟩) (0+ys.length) cap) (w':=({w with drawn:=w.drawn+1}:World).alloc (.cells (news++rest.toList).toArray e)) ?_ (hn _ _ _ hK ⟨G',?_⟩);simp[execOp,ho,resolve,invoke,builtin,NH,Qq]at hrun⊢;rw[hrun];rfl;rw[hd];exact g1.put (some d) (v:=.slice (some ⟨w.heap.size,0,none⟩) (0+ys.length) cap) (x:=.fe nm e j.size) (.fe nm e j.size (0+ys.length) cap w.heap.size g2 (by rw[cM];exact g3) hcap p4)
 exact h.elim;exact h.elim
theorem ug {call:iw}{Y:pE}(de:mc E.C call)(hY:eN E Y)(hs:bp E G S a w){K:ai->Prop}(h:HX E.C call Y o K S){next:Act->World->Prop}{Q:Exit->Act->World->Prop}(hn:∀S' a' w',K S'->pV E S' a' w'->next a' w'):Dd E o a w next Q:=by
 have Tw:ew E.C S o.op (λv=>K (S.put o.dst v))->Dd E o a w next Q:=λh=>Gb hs h λx v G' w' hk hs' hv=>hn _ _ _ hk ⟨G',hs'.put o.dst hv⟩;unfold HX at h;split at h;rename_i fn first captured hop;obtain⟨fr,h⟩:=h;obtain⟨S',h,G',hs'⟩:=zD fr h ⟨G,hs⟩;simp only[jY]at h;exact wp_of_yields hs' (yC (K:=λx=>K (S'.put o.dst x)) hs' hop h) λx v G' w' hk hs' hv=>hn _ _ _ hk ⟨G',hs'.put o.dst hv⟩;rename_i t len parts hop;split at h;rename_i d _ _ e _ hd ht;split at h;exact wp_openSlice hs hop hd ht h hn;exact wp_buildSlice hs hop hd ht h hn;exact h.elim;rename_i t hop;split at h;rename_i d i hd hi;obtain⟨z,hz,Hv⟩:=(E.C.ok hi).zeroV w;have Tm:=λhdn=>De hs d hdn i.zero (i.zero.map FV.gP) t (qS _);have hrun:(execOp a.eval o).run E.C.P w=.ok (.value (.pointer (some ⟨w.heap.size,0,none⟩))) (w.alloc (.cells i.zero.toArray t)):=by
  have :z.cells=i.zero.toArray:=by rw[<-Hv]
  simp[execOp,hop,Instr.alloc,hz,newVar,newRow,this]
 split at h;rename_i hbt hz0;obtain rfl:=aP hbt;rw[HV]at h;obtain⟨hdn,h⟩:=h;obtain⟨G',hg,hgl,hgr⟩:=Tm (bt hdn);refine wp_value hrun (hn _ _ _ h ⟨G',?_⟩);rw[hd];have hw:(w.alloc (.cells i.zero.toArray E.C.bT)).heap[w.heap.size]?=some (.cells #[.pointer none,.slice none 0 0] E.C.bT (0,0)):=by rw[World.alloc_heap_new,hz0]
 exact hg.aiz (rest:=S.aN) rfl hgl hgr.1 hgr.2 hw;rw[jY,wV]at h;obtain⟨hdn,h⟩:=h;obtain⟨G',hg,hgl,hgr⟩:=Tm (bt hdn);refine wp_value hrun (hn _ _ _ h ⟨G',hd▸hg⟩);exact h.elim;rename_i t x hop;split at h;rename_i d i hd hi;split at h;rename_i hl;split at h;rename_i h1;rw[jY,wV]at h;obtain⟨hdn,h⟩:=h;have hx:=aT.val hs x;obtain⟨Qk,-⟩:=qR hx h1;obtain⟨G',hg,-,-⟩:=De hs d (bt hdn) (a.eval x).cells.toList (S.val x).cells t Qk;refine wp_value (v:=.pointer (some ⟨w.heap.size,0,none⟩)) (w':=w.alloc (.cells (a.eval x).cells.toList.toArray t)) ?_ (hn _ _ _ h ⟨G',hd▸hg⟩);simp[execOp,hop,Instr.box,newVar,newRow];exact h.elim;exact h.elim;exact h.elim;rename_i t ad x hop;split at h;rename_i i ob off hi yE;split at h;exact h.elim;rename_i cells hcells;split at h;rename_i hl;split at h;rename_i h1;split at h;rename_i cs hcs;rw[jY]at h;have hx:=aT.val hs x;have had:=aT.val hs ad;rw[yE]at had;obtain⟨b,hv,gb⟩:=had.oW;obtain⟨hg,hrun⟩:=zw hs hcells gb hx h1 hcs;obtain⟨Qk,-⟩:=qR hx h1;have hsz:(a.eval x).cells.size=i.size:=by rw[<-aP hl,<-Qk.1];simp
 have hr:(execOp a.eval o).run E.C.P w=.ok .skip (w.setCells b off (a.eval x).cells.toList):=by simp[execOp,hop,hv,Instr.storeAt,Instr.sureAddr,storeVar,(E.C.ok hi).sizeOf,hsz,hrun]
 refine⟨λf _=>Env.gd f,?_⟩;rw[Oper.semAt_eq _ _ _ (λc=>by rw[hop];simp),hr];exact hn _ _ _ h ⟨G,hg.put o.dst (v:=undef) (jI _ _)⟩;exact h.elim;exact h.elim;exact h.elim;rename_i i ob base off hi yE;split at h;exact h.elim;rename_i cells hcells;split at h;rename_i hl;split at h;rename_i h1;obtain⟨A,ys,B,hmid,hA,h⟩:=h;split at h;rename_i zs hzs;rw[jY]at h;obtain⟨cs,rfl,h⟩:=h;have hx:=aT.val hs x;have had:=aT.val hs ad;rw[yE]at had;obtain⟨b,hv,gb⟩:=had.zn.oW;have hcs:gD cells (base+off) (S.val x).cells=some (A++(zs++B)):=by rw[hmid];exact Di hA hzs
 obtain⟨hg,hrun⟩:=zw hs hcells gb hx h1 hcs;obtain⟨Qk,-⟩:=qR hx h1;have hsz:(a.eval x).cells.size=i.size:=by rw[<-aP hl,<-Qk.1];simp
 have hr:(execOp a.eval o).run E.C.P w=.ok .skip (w.setCells b (base+off) (a.eval x).cells.toList):=by simp[execOp,hop,hv,Instr.storeAt,Instr.sureAddr,storeVar,(E.C.ok hi).sizeOf,hsz,hrun]
 refine⟨λf _=>Env.gd f,?_⟩;rw[Oper.semAt_eq _ _ _ (λc=>by rw[hop];simp),hr];exact hn _ _ _ h ⟨G,hg.put o.dst (v:=undef) (jI _ _)⟩;exact h.elim;exact h.elim;exact h.elim;exact h.elim;rename_i t hop;split at h;rename_i d hd;exact wp_makeMap hs hop hd h hn;exact h.elim;rename_i t len cap hop;split at h;rename_i d hd;exact wp_make hs hop hd h hn;exact h.elim;rename_i t m k x hop;exact wp_upd hs (.inl hop) h hn;rename_i t m k x hop;exact wp_upd hs (.inr hop) h hn;rename_i t x lo hi mx hop;unfold PN at h;split at h;rename_i k T bP hx;split at h;exact wp_evCutO hs hop hx h hn;exact wp_evTailO hs hop hx h hn;exact h.elim;split at h;exact wp_of_yields hs (QB (K:=λv=>K (S.put o.dst v)) hs hop h) λx v G' w' hk hs' hv=>hn _ _ _ hk ⟨G',hs'.put o.dst hv⟩;exact Tw (by rw[hop];exact h);rename_i src ty x hop;unfold VA at h;split at h;rename_i d _ hd;split at h;rename_i hx;exact wp_bytes hs hop hd hx h hn;exact h.elim;exact Tw (by rw[hop];exact h)
 ·rename_i c hop;obtain⟨callee,args,types⟩:=c;simp only at h;split at h;split at h;rename_i vx vy t u d hargs Iu hd;obtain⟨args⟩:=args;obtain⟨types⟩:=types;simp only at hargs Iu;subst Iu;cases args with
  |nil=>simp at hargs
  |cons x args=>
   cases args with
   |nil=>simp at hargs
   |cons y args=>
    cases args with
    |cons z args=>simp at hargs
    |nil=>simp only[cS,iN,ko,and_true]at hargs;obtain⟨rfl,rfl⟩:=hargs;split at h;rename_i o2 T2 e2 hy2;exact wp_evAppO hs hop hd hy2 h hn;unfold Tc at h;split at h;split at h;rename_i hx0;exact wp_evAppN hs hop hd hx0 h hn;exact wp_evAppend hs hop hd h hn;exact wp_evAppend hs hop hd h hn
  exact h.elim;split at h;rename_i vx t hargs Iu;obtain⟨args⟩:=args;obtain⟨types⟩:=types;simp only at hargs Iu;subst Iu;match args,hargs with|[x],hargs=>simp only[cS,iN,ko,and_true]at hargs;rw[<-hargs]at h;exact wp_evClear hs hop h hn
  exact h.elim;exact wp_of_yields hs (zq hs hop h) λx v G' w' hk hs' hv=>hn _ _ _ hk ⟨G',hs'.put o.dst hv⟩
  ·rename_i f;have hfv:=aT.val hs f;unfold ZM at h;have byC:∀{g:FuncId}{first captured:Array Value}{xs:List AV},a.eval f=.func (.func g) first captured->((first++args.map a.eval++captured).toList.length=xs.length/\∀(i:Nat)(c:Value)(x:AV),(first++args.map a.eval++captured).toList[i]?=some c->xs[i]?=some x->dh G.aZ w c x)->(∃R,ak E.C g xs R/\∀r,R r->PJ S o.dst r K)->Dd E o a w next Q:=λhv hr ⟨R,hc,hk⟩=>wp_call hs hop hv hr hc λr v w' hR hb hok=>by obtain⟨Xt,hk'⟩:=Hs (hk r hR);obtain⟨G',hg⟩:=vV hs (dst:=o.dst) hb hok Xt;exact hn _ _ _ hk' ⟨G',hg⟩
   split at h;rename_i g first captured hf;rw[hf]at hfv;obtain⟨fs,cs,hv,h1,h2⟩:=Tp hfv;split at h;have h3:=lS (lS (zF (G:=G) h1 rfl) (uc hs args.toList)) (zF (G:=G) h2 rfl);exact wp_inl hs de hY (first:=fs.toArray) (captured:=cs.toArray) hop hv (by simpa using h3) h hn;split at h;rename_i xs hxs;have h3:=xo (xo h1 (mO (uc hs args.toList) hxs)) h2;exact byC (first:=fs.toArray) (captured:=cs.toArray) hv (by simpa using h3) h;have h3:=lS (lS (zF (G:=G) h1 rfl) (uc hs args.toList)) (zF (G:=G) h2 rfl);exact wp_inl hs de hY (first:=fs.toArray) (captured:=cs.toArray) hop hv (by simpa using h3) h hn;rename_i g first captured hf;rw[hf]at hfv;obtain⟨fs,cs,hv,h1,h2⟩:=NB hfv;have h3:=lS (lS h1 (uc hs args.toList)) h2;split at h;rename_i xs hxs;exact byC (first:=fs.toArray) (captured:=cs.toArray) hv (by simpa using mO h3 hxs) h;exact wp_inl hs de hY (first:=fs.toArray) (captured:=cs.toArray) hop hv (by simpa using h3) h hn;rename_i l hf;exact wp_yield hs hY hop hf h hn;exact h.elim
  exact h.elim
 exact Tw h
theorem tg (hs:bp E G S a w){ops:Array Oper}{j d:Nat}{b:Bool}(hd:(ops[j]?).bind (·.dst)=some d)(hg:S.get d=.p (.bool b)):yielded ops a.tmps j=some b:=by
 have h:=aT.get hs d;rw[hg]at h;have h:=h.ny;unfold yielded;rw[hd];have hlt:d<a.tmps.size:=by rw[hs.size];unfold ai.get at hg;split at hg;rename_i hb;simpa using hb;cases hg
 simp only[nR];rw[xB hlt];simp only[Array.getD,hlt,dite_true]at h;change a.tmps[d]=_ at h;rw[h]
theorem rN (hs:bp E G S a w){ops:Array Oper}{j d:Nat}(hd:(ops[j]?).bind (·.dst)=some d)(hg:S.get d=.p (.eV [])):yielded ops a.tmps j=none:=by have h:=aT.get hs d;rw[hg]at h;have h:=h.Xk;unfold yielded;rw[hd];simp only[nR];by_cases hlt:d<a.tmps.size;rw[xB hlt];simp only[Array.getD,hlt,dite_true]at h;change a.tmps[d]=_ at h;rw[h];rfl;rw[Dm oO]
theorem Gf {call:iw}{Y:pE}(de:mc E.C call)(hY:eN E Y){ops:Array Oper}{K:ai->Prop}{Q:Exit->Act->World->Prop}(hQ:∀S' a' w',K S'->pV E S' a' w'->Q .normal a' w'):∀(l:List Oper)(S:ai)(a:Act)(w:World),pK E.C call Y ops l K S->pV E S a w->wpListIn E.kX 0 E.C.P ops Q l a w:=by
 intro l;induction l with
 |nil=>intro S a w h hs;exact wpListIn_nil (hQ _ _ _ h hs)
 |cons o l ih=>intro S a w h hs;obtain⟨G,hs⟩:=hs;simp only[pK]at h;refine wpListIn_step λK' uF=>?_;split at h;rename_i hg;rw[af (by simp[Region.wanted,hg])];exact ug de hY hs h λS' a' w' hk hs'=>uF _ _ (ih _ _ _ hk hs');rename_i j want hg;split at h;exact h.elim;rename_i d hd;split at h;rename_i b hb;have hy:=tg hs hd hb;split at h;rename_i EF;rw[oI]at EF;rw[af (by simp[Region.wanted,hg,hy,beq_iff_eq.1 EF])];exact ug de hY hs h λS' a' w' hk hs'=>uF _ _ (ih _ _ _ hk hs');rename_i EF;rw[oI]at EF;rw[aa (by simp[Region.wanted,hg,hy];exact xC.1 EF)];exact⟨λf _=>Env.gd f,uF _ _ (ih _ _ _ h ⟨G,hs.put o.dst (jI G w)⟩)⟩;rename_i hb;have hy:=rN hs hd hb;rw[aa (by simp[Region.wanted,hg,hy])];exact⟨λf _=>Env.gd f,uF _ _ (ih _ _ _ h ⟨G,hs.put o.dst (jI G w)⟩)⟩;exact h.elim
structure Off (ds:List Nat)(S S':ai):Prop where
 n:S'.n=S.n
 off:S'.off=S.off
 bG:S'.bG=S.bG
 bZ:S'.bZ=S.bZ
 cL:S'.cL=S.cL
 aN:S'.aN=S.aN
 maps:S'.maps=S.maps
 iM:S'.iM=S.iM
 tmps:∀i,iF i ds=false->S'.tmps i=S.tmps i
theorem QC {i:Nat}{ds:List Nat}:iF i ds=true↔i∈ds:=by
 induction ds with
 |nil=>simp[iF]
 |cons d ds ih=>
  simp only[iF];by_cases h:i=d;subst h;simp;have :Nat.beq i d=false:=by cases hb:Nat.beq i d;rfl;exact absurd (aP hb) h
  rw[this];simp[ih,h]
theorem Off.put {ds:List Nat}{S S':ai}(h:Off ds S S'){dst:Option Nat}(hd:∀d,dst=some d->d∈ds)(v:FV):Off ds S (S'.put dst v):=by
 cases dst with
 |none=>exact h
 |some d=>
  refine⟨h.n,h.off,h.bG,h.bZ,h.cL,h.aN,h.maps,h.iM,λi hi=>?_⟩;simp only[ai.put];have hne:i≠d:=λe=>by have :=QC.2 (hd d rfl);rw[<-e,hi]at this;cases this
  have :Nat.beq i d=false:=by cases hb:Nat.beq i d;rfl;exact absurd (aP hb) hne
  rw[this];exact h.tmps i hi
theorem VR {C:Ctx}{ops:Array Oper}{ds:List Nat}{S0:ai}:∀(l:List Oper)(K:ai->Prop)(S:ai),(∀o,o∈l->∀d,o.dst=some d->d∈ds)->Off ds S0 S->Kv C ops l K S->Kv C ops l (λS'=>K S'/\Off ds S0 S') S:=by
 intro l;induction l with
 |nil=>intro K S _ ho h;exact⟨h,ho⟩
 |cons o l ih=>
  intro K S hl ho h;have hd:=hl o gq;have hl':=λo' ho'=>hl o' (bq _ ho');simp only[Kv]at h⊢;split at h;rename_i hg;obtain⟨v,h1,h2⟩:=h;try simp only[hg]
  exact⟨v,h1,ih _ _ hl' (ho.put hd v) h2⟩;rename_i j want hg;try simp only[hg]
  split at h;exact h.elim;rename_i d hdj;try simp only[hdj]
  split at h;rename_i b hb;first|rw[hb]|skip
  cases hsb:HY b want with
  |true=>simp only[hsb]at h⊢;obtain⟨v,h1,h2⟩:=h;exact⟨v,h1,ih _ _ hl' (ho.put hd v) h2⟩
  |false=>simp only[hsb]at h⊢;exact ih _ _ hl' (ho.put hd _) h
  rename_i hb;first|rw[hb]|skip
  exact ih _ _ hl' (ho.put hd _) h;exact h.elim
theorem EX {K:FV->Prop}(hs:bp E G S a w){v:FV}(h:ew E.C S o.op λu=>u=v){next:Act->World->Prop}{Q:Exit->Act->World->Prop}(hn:∀a' w',pV E (S.put o.dst v) a' w'->next a' w'):Dd E o a w next Q:=Gb hs h λx u G' w' hk hs' hv=>hn _ _ ⟨G',by subst hk;exact hs'.put o.dst hv⟩
theorem Xw {ops:Array Oper}{K:ai->Prop}{Q:Exit->Act->World->Prop}(hQ:∀S' a' w',K S'->pV E S' a' w'->Q .normal a' w'):∀(l:List Oper)(S:ai)(a:Act)(w:World),Kv E.C ops l K S->pV E S a w->wpListIn E.kX 0 E.C.P ops Q l a w:=by
 intro l;induction l with
 |nil=>intro S a w h hs;exact wpListIn_nil (hQ _ _ _ h hs)
 |cons o l ih=>intro S a w h hs;obtain⟨G,hs⟩:=hs;simp only[Kv]at h;refine wpListIn_step λK' uF=>?_;split at h;rename_i hg;rw[af (by simp[Region.wanted,hg])];obtain⟨v,h1,h2⟩:=h;exact EX (K:=λ_=>True) hs h1 λa' w' hs'=>uF _ _ (ih _ _ _ h2 hs');rename_i j want hg;split at h;exact h.elim;rename_i d hd;split at h;rename_i b hb;have hy:=tg hs hd hb;split at h;rename_i EF;rw[oI]at EF;rw[af (by simp[Region.wanted,hg,hy,beq_iff_eq.1 EF])];obtain⟨v,h1,h2⟩:=h;exact EX (K:=λ_=>True) hs h1 λa' w' hs'=>uF _ _ (ih _ _ _ h2 hs');rename_i EF;rw[oI]at EF;rw[aa (by simp[Region.wanted,hg,hy];exact xC.1 EF)];exact⟨λf _=>Env.gd f,uF _ _ (ih _ _ _ h ⟨G,hs.put o.dst (jI G w)⟩)⟩;rename_i hb;have hy:=rN hs hd hb;rw[aa (by simp[Region.wanted,hg,hy])];exact⟨λf _=>Env.gd f,uF _ _ (ih _ _ _ h ⟨G,hs.put o.dst (jI G w)⟩)⟩;exact h.elim
theorem aF.refl (x:FV):aF x x:=λ_ _ _ h=>h
theorem aF.dF (x:FV):aF x .dF:=λ_ _ _ _=>.dF _
theorem QD {K:ai->Prop}{S':ai}:∀(rs:List Nat)(T:ai)(φ:List FV->Prop),BD K T rs φ->φ (getAll S' rs)->bM S' T->∃T',K T'/\bM S' T':=by
 intro rs;induction rs with
 |nil=>intro T φ h hφ hw;exact⟨T,h.out hφ,hw⟩
 |cons r rs ih=>intro T φ h hφ hw;refine ih _ _ (h.out (S'.get r)) hφ ⟨hw.n,hw.off,hw.bZ,hw.cL,hw.bG,λi=>?_,hw.aN,hw.maps,hw.iM⟩;simp only[ai.put];split;rename_i hb;obtain rfl:=aP hb;unfold ai.get;split;exact aF.refl _;exact aF.dF _;exact hw.tmps i
theorem Off.weaken {ds:List Nat}{S S':ai}(h:Off ds S S'):bM S' (S.sG ds):=by
 refine⟨h.n.symm,h.off.symm,h.bZ.symm,λo bs q=>⟨by rw[h.cL];exact q,λq2=>by show Qv.getObj S.aN o=none;rw[<-h.aN];exact q2⟩,⟨by show S.bG.length=_;rw[h.bG],λi f f' h1 h2=>by have h2':S.bG[i]?=some f':=h2;rw[h.bG,h2']at h1;obtain rfl:=au h1;exact⟨rfl,rfl,λ_=>aF.refl _⟩⟩,λi=>?_,λo ys ho=>?_,λo l hl=>?_,λq x hx=>by rw[h.iM];exact hx⟩;simp only[ai.sG];cases hm:iF i ds with
 |true=>exact aF.dF _
 |false=>simp only;rw[h.tmps i hm];exact aF.refl _
 rw[h.aN];exact⟨ys,ho,rfl,λi x y hx hy=>by rw[hx]at hy;obtain rfl:=au hy;exact aF.refl _⟩;rw[h.maps];exact⟨l,hl,rfl,λi p p' h1 h2=>by rw[h1]at h2;obtain rfl:=au h2;exact⟨rfl,aF.refl _⟩⟩
theorem Tx {l:List Oper}{o:Oper}(h:o∈l){d:Nat}(hd:o.dst=some d):d∈dstsOf l:=by
 induction l with
 |nil=>cases h
 |cons p l ih=>simp only[dstsOf];rcases aQ.1 h with rfl|h;rw[hd];exact gq;split;exact bq _ (ih h);exact ih h
end
end Qv
