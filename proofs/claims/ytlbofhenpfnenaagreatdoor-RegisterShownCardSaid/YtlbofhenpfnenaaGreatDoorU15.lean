/- Part 15 of the proof: its lemmas. No condition. -/
import Derived.Test.YtlbofhenpfnenaaGreatDoorU14
set_option maxRecDepth 10000
set_option maxHeartbeats 80000000
set_option linter.all false
namespace Qv
open Go Go.RowKit
theorem Xx {α:Type}{o:Nat}{l:α}:∀{m:List (Nat×α)},getM m o=some l->vL m o l=m:=by
 intro m;induction m with
 |nil=>intro h;rfl
 |cons p m ih=>obtain⟨u,i⟩:=p;intro h;simp only[getM]at h;show(match Nat.beq u o with|true=>(u,l)::m|false=>(u,i)::vL m o l)=_;grind
theorem LG {α:Type}(o:Nat)(l l':α):∀(m:List (Nat×α)),vL (vL m o l) o l'=vL m o l'
 |[]=>rfl
 |(u,i)::m=>by
  cases hb:Nat.beq u o with
  |true=>simp only[vL,hb]
  |false=>simp only[vL,hb];rw[LG o l l' m]
theorem Bp {α:Type}{o:Nat}{l l':α}:∀{m:List (Nat×α)},getM m o=some l->getM (vL m o l') o=some l':=by
 intro m;induction m with
 |nil=>intro h;cases h
 |cons p m ih=>obtain⟨u,i⟩:=p;intro h;simp only[getM]at h;simp only[vL];split at h;rename_i hb;simp only[hb,getM];rename_i hb;simp only[hb,getM];simp_all
theorem Dn {a:Act}{d:Nat}{v:Value}(h:d<a.tmps.size):(a.put (some d) v).tmps.getD d undef=v:=by simp[Act.put,Array.getD,h]
theorem NM {a:Act}{d i:Nat}{v:Value}(h:i≠d):(a.put (some d) v).tmps.getD i undef=a.tmps.getD i undef:=by simp only[Act.put,Array.getD];by_cases hi:i<a.tmps.size;simp[hi,CH,eO h];grind
theorem Iv {a:Act}{d:Nat}{v:Value}:(a.put (some d) v).tmps.size=a.tmps.size:=by simp[Act.put]
theorem qU {S:ai}{d i:Nat}{x:FV}(h:i≠d):(S.put (some d) x).get i=S.get i:=by unfold ai.get ai.put;simp only[LF h]
theorem vW {i:Nat}{ds:List Nat}(h:iF i ds=false):i∉ds:=λhm=>by rw[QC.2 hm]at h;grind
section
variable {E:Env}{G:aV}{S:ai}{a:Act}{w:World}
theorem Ty {call:iw}{Y:pE}(de:mc E.C call)(hY:eN E Y){ops:Array Oper}{K:ai->Prop}{Q:Exit->Act->World->Prop}{rest:List Oper}(hQ:∀S' a' w',K S'->pV E S' a' w'->wpListIn E.kX 0 E.C.P ops Q rest a' w'):∀(l:List Oper)(S:ai)(a:Act)(w:World),pK E.C call Y ops l K S->pV E S a w->wpListIn E.kX 0 E.C.P ops Q (l++rest) a w:=by
 intro l;induction l with
 |nil=>intro S a w h hs;exact hQ _ _ _ h hs
 |cons o l ih=>intro S a w h hs;obtain⟨G,hs⟩:=hs;simp only[pK]at h;rw[eB];refine wpListIn_step λK' uF=>?_;split at h;rename_i hg;rw[af (by simp[Region.wanted,hg])];exact ug de hY hs h λS' a' w' hk hs'=>uF _ _ (ih _ _ _ hk hs');rename_i j want hg;split at h;simp_all;rename_i d hd;split at h;rename_i b hb;have hy:=tg hs hd hb;split at h;rename_i EF;rw[oI]at EF;rw[af (by simp[Region.wanted,hg,hy,beq_iff_eq.1 EF])];exact ug de hY hs h λS' a' w' hk hs'=>uF _ _ (ih _ _ _ hk hs');rename_i EF;rw[oI]at EF;rw[aa (by simp[Region.wanted,hg,hy];simp_all)];exact⟨λf _=>Env.gd f,uF _ _ (ih _ _ _ h ⟨G,hs.put o.dst (jI G w)⟩)⟩;rename_i hb;have hy:=rN hs hd hb;rw[aa (by simp[Region.wanted,hg,hy])];exact⟨λf _=>Env.gd f,uF _ _ (ih _ _ _ h ⟨G,hs.put o.dst (jI G w)⟩)⟩;simp_all
theorem Tz (hs:bp E G S a w){t kT eT:TypeId}(hu:E.C.P.underlying t=some (.map kT eT)){ob b:Nat}(hb:G.mp ob=some b){kk:AV}{l:List (AV×FV)}(hl:getM S.maps ob=some l){T:TypeId}{z:Nat}{x:Option AV}(Pv:getM E.C.ex.KF ob=some (T,z,x))(hx:x≠some kk)(hz:(E.C.P.info? eT).map (·.zero)=some (some (.slice none 0 0))){L:List gI}(hL:eM E.C.P 40 kT=some L)(hk:gB (gJ E.C.P kT) L kk=true)(hall:∀p,p∈l->gB (gJ E.C.P kT) L p.1=true){old:List (List AV)}(hold:match rW kk l with|some v=>v=.p (.sl old)|none=>old=[])(new:FV)(hkr:dh G.aZ w (tv (gJ E.C.P kT) kk.cells) kk):∃(w1:World) (es1:List MapEntry) (Ts:Nat) (l1:List (AV×FV)) (j:Nat) (e0:MapEntry) (ad:Option Addr) (c:Nat),(Instr.mapEntry t (.map (some b)) (tv (gJ E.C.P kT) kk.cells)).run E.C.P w=.ok (.tuple #[.slice ad old.length c,.int .i64 (e0.born:Int)]) w1/\bp (E.Qu ob) G {S with maps:=vL S.maps ob l1} a w1/\w1.heap[b]?=some (.map es1.toArray Ts)/\nL es1 Ts/\es1.length=l1.length/\es1[j]?=some e0/\e0.key=tv (gJ E.C.P kT) kk.cells/\e0.val=.slice ad old.length c/\old.length<=c/\dh G.aZ w1 (.slice ad old.length c) (.sl old)/\((old.length=0/\c=0)\/∃b2 off,(ad=some ⟨b2,off,none⟩/\off=0)/\G.tail (.inr (ob,e0.born))=some (b2,off+old.length*z,off+c*z,T))/\(∀(i:Nat)(e:MapEntry)(p:AV×FV),es1[i]?=some e->l1[i]?=some p->i≠j->x≠some p.1->EO G T z ob e)/\l1.set j (kk,new)=Cy kk new l/\(∀(i:Nat)(e:MapEntry),es1[i]?=some e->i≠j->e.born≠e0.born):=by
 obtain⟨b',fW,es,h1,h2,h3,h4,h5⟩:=hs.ext'.mps.at_ ob l hl;obtain rfl:b'=b:=by simp_all
 have hka:=Nz (w:=w) h4 (λi e p a b=>(h5 i e p a b).1) hall;have hent:=Xs (w:=w) hu hL hk h2 hka (z:=.slice none 0 0) (λw=>Ip hz);rw[Dc]at hold;rw[uQ];have hs1:=hs.Qu ob;have hnone:∀T z k,getM (E.Qu ob).C.ex.KF ob=some (T,z,k)->False:=λT z k h=>(qb h).1 rfl;cases gb:iA kk (gC l)with
 |none=>
  rw[gb]at hent hold;simp only[Option.bind_none]at hold;subst hold;refine⟨_,es++[({key:=tv (gJ E.C.P kT) kk.cells,val:=.slice none 0 0,born:=fW}:MapEntry)],fW+1,l++[(kk,.p (.sl []))],es.length,({key:=tv (gJ E.C.P kT) kk.cells,val:=.slice none 0 0,born:=fW}:MapEntry),none,0,hent,?_,World.putObj_heap_same (bB.1 h2).1,⟨λe he=>?_,?_⟩,by grind,by simp,rfl,rfl,ay _,.Xi _ _,.inl ⟨rfl,rfl⟩,λi e p he hp hi hxp=>?_,?_,λi e he hi=>?_⟩;refine hs1.Tr (es':=es++[({key:=tv (gJ E.C.P kT) kk.cells,val:=.slice none 0 0,born:=fW}:MapEntry)]) (EP:=fW+1) (l':=l++[(kk,.p (.sl []))]) hb h2 ⟨λe he=>?_,?_⟩ (by grind) (λi e p he hp=>?_) (λT z k h=>(hnone T z k h).elim);rcases bh.1 he with he|he;have :=h3.lt e he;omega;simp_all;rw[aM,kz];refine⟨h3.nd,by simp,λu hu v hv=>?_⟩;obtain⟨e,he,rfl⟩:=aI.1 hu;have :=h3.lt e he;grind;by_cases hi:i<es.length;grind;rw[dY oO]at he;rw[dY oO,<-h4]at hp;cases hq:i-es.length with
  |zero=>rw[hq]at he hp;simp at he hp;subst he;subst hp;exact⟨hkr,.p _ _ (.Xi _ _)⟩
  |succ q=>simp_all
  rcases bh.1 he with he|he;have :=h3.lt e he;omega;simp_all;rw[aM,kz];refine⟨h3.nd,by simp,λu hu v hv=>?_⟩;obtain⟨e,he,rfl⟩:=aI.1 hu;have :=h3.lt e he;grind;have hlt:i<es.length:=by have :=(aG.1 he).1;simp at this;omega
  rw[cO hlt]at he;rw[cO oO]at hp;exact hs.ext'.mps.room ob T z x l b' fW es hl Pv hb h2 i e p he hp hxp;simp_all;have hlt:i<es.length:=by have :=(aG.1 he).1;simp at this;omega
  rw[cO hlt]at he;have :=h3.lt e (bz he);grind
 |some j=>
  rw[gb]at hent hold;obtain⟨hj,hkj⟩:=uR gb;rw[nQ,aj]at hj;obtain⟨e0,he0,hek,hrun⟩:=hent;simp only[nR,av hj,eA]at hold;have anI:(l[j]).1=kk:=by
   have h6:(gC l)[j]?=some kk:=by rw[av oO,hkj]
   rw[nQ,aR,av hj]at h6;exact au h6
  obtain⟨h6,h7⟩:=h5 j e0 l[j] he0 (av hj);obtain⟨ad,n,c,g1,g2⟩:=hs.ext'.mps.room ob T z x l b' fW es hl Pv hb h2 j e0 l[j] he0 (av hj) (by simp_all);rw[hold,g1]at h7;have h8:dh G.aZ w (.slice ad n c) (.sl old):=h7.plain;obtain⟨_,_,hv,hle,-⟩:=h8.lD;injection hv with q1 q2 q3;subst q2;subst q3;rw[g1]at hrun;refine⟨w,es,fW,l,j,e0,ad,c,hrun,?_,h2,h3,h4,he0,hek,g1,hle,h8,g2,λi e p he hp hi hxp=>hs.ext'.mps.room ob T z x l b' fW es hl Pv hb h2 i e p he hp hxp,rfl,λi e he hi hbn=>?_⟩;rw[Xx hl];omega;have KQ:=h3.nd;have e1:(es.map (·.born))[i]?=some e0.born:=by rw[aR,he];simp[hbn]
  have e2:(es.map (·.born))[j]?=some e0.born:=by rw[aR,he0];rfl
  have yW:=(aG.1 e1).1;exact hi (((List.getElem?_inj yW KQ).1 (e1.trans e2.symm)))
theorem Dp {P:Program}{o:Oper}{ρ:Operand->Value}{x:Operand}{i:Nat}{vs:Array Value}{v:Value}(ho:o.op=.extract x i)(hx:ρ x=.tuple vs)(hv:vs[i]?=some v):(execOp ρ o).run P w=.ok (.value v) w:=by simp[execOp,ho,hx,Instr.extract,hv]
theorem TA {P:Program}{o:Oper}{ρ:Operand->Value}{t:TypeId}{m k:Operand}{v:Value}{w':World}(ho:o.op=.mapEntry t m k)(h:(Instr.mapEntry t (ρ m) (ρ k)).run P w=.ok v w'):(execOp ρ o).run P w=.ok (.value v) w':=by simp[execOp,ho,h]
theorem QE {P:Program}{o:Oper}{ρ:Operand->Value}{x y:Operand}{tx ty:TypeId}{v:Value}{w':World}(ho:o.op=.call ⟨.builtin .append,#[x,y],#[tx,ty]⟩)(h:(Builtin.append_ #[tx,ty] o.type #[ρ x,ρ y]).run P w=.ok v w'):(execOp ρ o).run P w=.ok (.value v) w':=by simp[execOp,ho,resolve,invoke,builtin,h]
theorem TB {P:Program}{o:Oper}{ρ:Operand->Value}{t:TypeId}{m s x:Operand}{w':World}(ho:o.op=.entryStore t m s x)(h:(Instr.entryStore t (ρ m) (ρ s) (ρ x)).run P w=.ok () w'):(execOp ρ o).run P w=.ok .skip w':=by simp[execOp,ho,h]
theorem aat {es:List MapEntry}{j:Nat}{e0:MapEntry}(h:es[j]?=some e0)(v:Value):(es.set j {e0 with val:=v}).map (·.born)=es.map (·.born):=by apply fO;grind
theorem Xy {ob:Nat}{G':aV}{Sx:ai}{ax:Act}{w2:World}(hsE:bp (E.Qu ob) G' Sx ax w2){b:Nat}(hb:G'.mp ob=some b){es:List MapEntry}{fW:Nat}(hw2:w2.heap[b]?=some (.map es.toArray fW))(Dk:nL es fW){l0 l1:List (AV×FV)}{m0:List (Nat×List (AV×FV))}(hm0:getM m0 ob=some l0)(af5:Sx.maps=vL m0 ob l1)(hlen:es.length=l1.length){j:Nat}{e0:MapEntry}(he0:es[j]?=some e0){kk:AV}(hkr:dh G'.aZ w2 e0.key kk){v':Value}{new:List (List AV)}(hnew:dh G'.aZ w2 v' (.sl new)){T:TypeId}{z:Nat}{x:Option AV}(Pv:getM E.C.ex.KF ob=some (T,z,x))(hroom:EO G' T z ob {e0 with val:=v'})(Ir:∀(i:Nat)(e:MapEntry)(p:AV×FV),es[i]?=some e->l1[i]?=some p->i≠j->x≠some p.1->EO G' T z ob e):bp E G' {Sx with maps:=vL m0 ob (l1.set j (kk,.p (.sl new)))} ax (w2.putObj b (.map (es.set j {e0 with val:=v'}).toArray fW)):=by
 have NI:getM Sx.maps ob=some l1:=by rw[af5];exact Bp hm0
 obtain⟨b2,aiJ,es2,q1,q2,q3,q4,q5⟩:=hsE.ext'.mps.at_ ob l1 NI;obtain rfl:b2=b:=by simp_all
 obtain rfl:=Nt hw2 q2;have hjl:j<es2.length:=(aG.1 he0).1;have hsF:=hsE.Tr (es':=es2.set j {e0 with val:=v'}) (EP:=fW) (l':=l1.set j (kk,.p (.sl new))) hb hw2 ⟨λe he=>by rcases List.mem_or_eq_of_mem_set he with he|rfl;exact Dk.lt e he;exact Dk.lt e0 (bz he0),by rw[aat he0];exact Dk.nd⟩ (by grind) (λi e p he hp=>by rw[List.getElem?_set]at he hp;by_cases hi:j=i;subst hi;rw[af rfl,af hjl]at he;rw[af rfl,af oO]at hp;obtain rfl:=au he;obtain rfl:=au hp;exact⟨hkr,.p _ _ hnew⟩;grind) (λT z k h=>((qb h).1 rfl).elim);rw[af5,LG]at hsF;refine bp.agR hsF λT2 z2 k2 l2 b3 anJ es3 v1 v2 v3 v4 i e p v5 v6 v7=>?_;rw[Pv]at v2;obtain⟨rfl,rfl,rfl⟩:T=T2/\z=z2/\x=k2:=by simp_all
 have Ge:l2=l1.set j (kk,.p (.sl new)):=by have :=Bp (l':=l1.set j (kk,.p (.sl new))) hm0;simp only at v1;rw[this]at v1;exact(au v1).symm
 subst Ge;obtain rfl:b2=b3:=by simp_all
 have vR:(w2.putObj b2 (.map (es2.set j {e0 with val:=v'}).toArray fW)).heap[b2]?=some (.map (es2.set j {e0 with val:=v'}).toArray fW):=World.putObj_heap_same (bB.1 hw2).1;grind
theorem QF (S:ai)(d0 d1 d2 d3:Nat)(m:List (Nat×List (AV×FV)))(m1:List (Nat×List (AV×FV))):bM {(((({S with maps:=m1}.put (some d0) .dF).put (some d1) .dF).put (some d2) .dF).put (some d3) .dF)with maps:=m} ((S.sG [d0,d1,d2,d3]).PD m):=by
 refine⟨rfl,rfl,rfl,λo bs h=>⟨h,id⟩,⟨rfl,λi f f' h h'=>?_⟩,λi=>?_,λo ys h=>⟨ys,h,rfl,λi x y h1 h2=>?_⟩,λo l h=>⟨l,h,rfl,λi p p' h1 h2=>?_⟩,λq x h=>h⟩;have h':S.bG[i]?=some f':=h';have h:S.bG[i]?=some f:=h;rw[h]at h';obtain rfl:=au h';exact⟨rfl,rfl,λ_=>aF.refl _⟩;show aF _ (match iF i [d0,d1,d2,d3]with|true=>.dF|false=>S.tmps i);cases hm:iF i [d0,d1,d2,d3]with
 |true=>exact aF.dF _
 |false=>have :=vW hm;simp only[aQ,gr,or_false,not_or]at this;obtain⟨h0,h1,h2,h3⟩:=this;simp only[ai.put,LF h0,LF h1,LF h2,LF h3];exact aF.refl _
 rw[h1]at h2;obtain rfl:=au h2;exact aF.refl _;rw[h1]at h2;obtain rfl:=au h2;exact⟨rfl,aF.refl _⟩
theorem akU {α:Type}{l:List α}(h:l.length=5):∃a b c d e,l=[a,b,c,d,e]:=by match l,h with|[a,b,c,d,e],_=>simp_all
theorem Xz {m k y d0 d1 d2 d3 n:Nat}(h:ZN m k y d0 d1 d2 d3 n=true):(d0<n/\d1<n/\d2<n/\d3<n)/\(m≠d0/\m≠d1/\m≠d2/\m≠d3)/\(k≠d0/\k≠d1/\k≠d2/\k≠d3)/\(y≠d0/\y≠d1/\y≠d2/\y≠d3)/\(d0≠d1/\d0≠d2/\d0≠d3)/\(d1≠d2/\d1≠d3)/\d2≠d3:=by unfold ZN at h;simp only[aW,adJ,eC]at h;obtain⟨⟨⟨⟨⟨⟨⟨⟨⟨Gd,Px⟩,hd2⟩,hd3⟩,hm⟩,hk⟩,hy⟩,ad5⟩,ad6⟩,agV⟩:=h;have hm:=vW hm;have hk:=vW hk;have hy:=vW hy;have ad5:=vW ad5;have ad6:=vW ad6;simp only[aQ,gr,or_false,not_or]at hm hk hy ad5 ad6;exact⟨⟨Gd,Px,hd2,hd3⟩,hm,hk,hy,ad5,ad6,bt agV⟩
theorem TC {ops:Array Oper}{K:ai->Prop}{Q:Exit->Act->World->Prop}(hQ:∀S' a' w',K S'->pV E S' a' w'->Q .normal a' w'){l:List Oper}(h:Te E.C l K S)(hs:bp E G S a w):wpListIn E.kX 0 E.C.P ops Q l a w:=by
 unfold Te at h;obtain⟨t,tx,ty,m,k,y,d0,d1,d2,d3,He,Iw,hgu,hd,h⟩:=h;have hlen:l.length=5:=by rw[<-aj (f:=λo:Oper=>o.op),He];rfl
 obtain⟨o1,o2,o3,o4,o5,hl5⟩:=akU hlen;rw[hl5]at He Iw hgu⊢;obtain⟨p1,He⟩:=eS He;obtain⟨p2,He⟩:=eS He;obtain⟨p3,He⟩:=eS He;obtain⟨p4,He⟩:=eS He;obtain⟨p5,-⟩:=eS He;obtain⟨s1,Iw⟩:=eS Iw;obtain⟨s2,Iw⟩:=eS Iw;obtain⟨s3,Iw⟩:=eS Iw;obtain⟨s4,Iw⟩:=eS Iw;obtain⟨s5,-⟩:=eS Iw;obtain⟨g1,hgu⟩:=eS hgu;obtain⟨g2,hgu⟩:=eS hgu;obtain⟨g3,hgu⟩:=eS hgu;obtain⟨g4,hgu⟩:=eS hgu;obtain⟨g5,-⟩:=eS hgu;obtain⟨⟨Gd,Px,hd2,hd3⟩,⟨m0,m1,m2,m3⟩,⟨k0,k1,k2,k3⟩,⟨y0,y1,y2,y3⟩,⟨d01,d02,d03⟩,⟨d12,d13⟩,agV⟩:=Xz hd;clear hd hlen hl5 He Iw hgu;have p1:o1.op=_:=p1;have p2:o2.op=_:=p2;have p3:o3.op=_:=p3;have p4:o4.op=_:=p4;have p5:o5.op=_:=p5;have s1:o1.dst=_:=s1;have s2:o2.dst=_:=s2;have s3:o3.dst=_:=s3;have s4:o4.dst=_:=s4;have s5:o5.dst=_:=s5;split at h;rename_i kT eT _ e _ ui ht htx hty;have hu:=(E.C.ok ht).map;have KO:=(E.C.ok htx).slice;obtain⟨dd,hud,hsh⟩:=(E.C.ok hty).zm;split at h;rename_i j ki ob zB hj hki VS;have hok:=E.C.ok hj;have hdk:∀k,dd≠.int k:=λk e=>by rw[<-hsh,e]at zB;simp[shapeOf,Shape.FX]at zB
 split at h;rename_i kk ys l0 T z x hkk hyy hl Pv;obtain⟨hT,hz,hb0,hx,hzero,L,hL,hkf,hall,zy,old,hold,hlo,hbd,l',hl',hK⟩:=h;obtain rfl:=aP hT;obtain rfl:=aP hz;have hb0:=bt hb0;have hagg:=(E.C.ok hki).gJ;rw[<-hagg]at hkf hall;have hkr:=(aT.get hs k).fh hkk;have hkey:=tK hkr hkf;have hmr:=aT.get hs m;rw[VS]at hmr;obtain⟨b,hvm,hb⟩:∃b,a.tmps.getD m undef=.map (some b)/\G.mp ob=some b:=by
  generalize a.tmps.getD m undef=vm at hmr;cases hmr with
  |fI _ b hb=>simp_all
 obtain⟨w1,es1,Ts,l1,jx,e0,ad,c,r1,hsB,hw1,Dk,af6,he0,hek,LD,hle,oz,hroom,NK,BH,aiK⟩:=Tz hs hu hb hl Pv hx hzero hL hkf hall hold (.p (.sl (old++ys))) (by simp_all);have hsz:a.tmps.size=S.n:=hs.size;obtain⟨vt,hvt⟩:∃vt,vt=Value.tuple #[.slice ad old.length c,.int .i64 (e0.born:Int)]:=⟨_,rfl⟩;obtain⟨v0,hv0⟩:∃v0,v0=Value.slice ad old.length c:=⟨_,rfl⟩;have hsC:=(hsB.put (some d0) (v:=vt) (x:=.dF) (.dF _)).put (some d1) (v:=v0) (x:=.dF) (.dF _);obtain⟨a1,ha1⟩:∃a1,a1=a.put (some d0) vt:=⟨_,rfl⟩;obtain⟨a2,ha2⟩:∃a2,a2=a1.put (some d1) v0:=⟨_,rfl⟩;rw[<-ha1,<-ha2]at hsC;have z1:a1.tmps.size=S.n:=by rw[ha1,Iv,hsz]
 have z2:a2.tmps.size=S.n:=by rw[ha2,Iv,z1]
 have f1:∀i,i≠d0->a1.tmps.getD i undef=a.tmps.getD i undef:=λi hi=>by rw[ha1];exact NM hi
 have f2:∀i,i≠d1->a2.tmps.getD i undef=a1.tmps.getD i undef:=λi hi=>by rw[ha2];exact NM hi
 have x1:a1.tmps.getD d0 undef=vt:=by rw[ha1];exact Dn oO
 have x2:a2.tmps.getD d1 undef=v0:=by rw[ha2];exact Dn oO
 refine wpListIn_plain g1 λK1 hK1=>wp_value (v:=vt) (w':=w1) (TA p1 (by rw[pY,pY,hvm,hkey,r1,hvt])) (hK1 _ _ ?_);rw[s1,<-ha1];refine wpListIn_plain g2 λK2 hK2=>wp_value (v:=v0) (w':=w1) (Dp (vs:=#[v0,.int .i64 (e0.born:Int)]) p2 (by rw[pY,x1,hvt,hv0]) rfl) (hK2 _ _ ?_);rw[s2,<-ha2];have hyr:=aT.get hsC y;rw[qU y1,qU y0]at hyr;obtain⟨news,n1,n2,n3⟩:=aT.items (P:=E.C.P) (e:=j.size) hyy hyr zy;obtain⟨ad',c',w2,G',r2,hsD,af7,agX,hkeep,hmp,Ir⟩:=Qx (ty:=o3.type) hsC (q:=(ob,e0.born)) (by
  cases hq:getM (E.Qu ob).C.ex.KF ob with
  |none=>rfl
  |some r=>exact absurd rfl (qb hq).1) KO hud hdk hok oz hlo zy hle hroom n1 n2 n3 hbd hb0
 obtain⟨v',Xu⟩:∃v',v'=Value.slice ad' (old++ys).length c':=⟨_,rfl⟩;rw[<-hv0,<-Xu]at r2;rw[<-Xu]at af7;have hsE:=(hsD.put (some d2) (v:=v') (x:=.dF) (.dF _)).put (some d3) (v:=.int .i64 (e0.born:Int)) (x:=.dF) (.dF _);obtain⟨a3,ha3⟩:∃a3,a3=a2.put (some d2) v':=⟨_,rfl⟩;obtain⟨a4,ha4⟩:∃a4,a4=a3.put (some d3) (.int .i64 (e0.born:Int)):=⟨_,rfl⟩;rw[<-ha3,<-ha4]at hsE;have z3:a3.tmps.size=S.n:=by rw[ha3,Iv,z2]
 have f3:∀i,i≠d2->a3.tmps.getD i undef=a2.tmps.getD i undef:=λi hi=>by rw[ha3];exact NM hi
 have f4:∀i,i≠d3->a4.tmps.getD i undef=a3.tmps.getD i undef:=λi hi=>by rw[ha4];exact NM hi
 have x3:a3.tmps.getD d2 undef=v':=by rw[ha3];exact Dn oO
 have x4:a4.tmps.getD d3 undef=.int .i64 (e0.born:Int):=by rw[ha4];exact Dn oO
 refine wpListIn_plain g3 λK3 hK3=>wp_value (v:=v') (w':=w2) (QE p3 (by rw[pY,pY,x2];exact r2)) (hK3 _ _ ?_);rw[s3,<-ha3];refine wpListIn_plain g4 λK4 hK4=>wp_value (v:=.int .i64 (e0.born:Int)) (w':=w2) (Dp (vs:=#[v0,.int .i64 (e0.born:Int)]) p4 (by rw[pY,f3 _ d02,f2 _ d01,x1,hvt,hv0]) rfl) (hK4 _ _ ?_);rw[s4,<-ha4];have hw2:w2.heap[b]?=some (.map es1.toArray Ts):=Ir _ _ hw1 rfl;have ad7:=aT.get hsE k;rw[qU k3,qU k2,qU k1,qU k0,f4 _ k3,f3 _ k2,f2 _ k1,f1 _ k0,hkey]at ad7;have ad7:dh G'.aZ w2 e0.key kk:=by rw[hek];exact ad7.fh (y:=kk) hkk
 have hG:=Xy (E:=E) hsE (b:=b) (by grind) hw2 Dk (m0:=S.maps) hl rfl af6 he0 ad7 af7 Pv ⟨ad',_,c',Xu,agX⟩ (λi e p he hp hi hxp=>by obtain⟨ad2,n2,c2,u1,u2⟩:=NK i e p he hp hi hxp;exact⟨ad2,n2,c2,u1,u2.imp id λ⟨b2,off,u3,u4⟩=>⟨b2,off,u3,hkeep _ _ (λe1=>aiK i e he hi (gV e1).2) u4⟩⟩);refine wpListIn_plain g5 λK5 hK5=>?_;refine⟨λf _=>Env.gd f,?_⟩;have aiM:=TB (P:=E.C.P) (w:=w2) (ρ:=a4.eval) p5 (w':=w2.putObj b (.map (es1.set jx {e0 with val:=v'}).toArray Ts)) (by rw[pY,pY,pY,f4 _ m3,f3 _ m2,f2 _ m1,f1 _ m0,hvm,x4,f4 _ agV,x3];exact run_store hw2 Dk.nd he0 v');rw[Oper.semAt_eq _ _ _ (λc=>by grind),aiM];refine hK5 _ _ ?_;rw[s5];refine hQ _ _ _ hK ?_;rw[<-hl',<-BH];exact pV.weaken ⟨_,hG⟩ (QF S d0 d1 d2 d3 _ _);simp_all;simp_all;simp_all
theorem KR {call:iw}{Y:pE}(de:mc E.C call)(hY:eN E Y){id:Nat}{ops:Array Oper}{draw:Bool}{K:ai->Prop}{Q:Exit->Act->World->Prop}(hQ:∀S a w,K S->pV E S a w->Q .normal a w)(hs:pV E S a w)(h:Nq E.C call Y ops draw K S):(Code.region id ops draw).wpIn E.kX 0 E.C.P Q a w:=by
 unfold Nq at h;cases draw with
 |true=>simp_all
 |false=>refine wpIn_region_list ?_;rw[<-cT (ops.toList.length-5) ops.toList];exact Ty de hY (λS' a' w' hk ⟨G',hs'⟩=>TC hQ hk hs') _ _ _ _ h hs
end
end Qv
