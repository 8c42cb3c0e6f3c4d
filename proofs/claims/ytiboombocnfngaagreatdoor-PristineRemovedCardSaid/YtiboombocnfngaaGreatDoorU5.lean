/- Part 5 of the proof: its lemmas. No condition. -/
import Derived.Test.YtiboombocnfngaaGreatDoorU4
import Derived.Deep.LoopGhost
set_option maxRecDepth 10000
set_option maxHeartbeats 80000000
set_option linter.all false
namespace Qv
open Go Go.RowKit
theorem VU {α:Type}{o:Nat}{l:α}:∀{m:List (Nat×α)},getM m o=some l->uU m o l=m:=by
 intro m;induction m with
 |nil=>intro h;rfl
 |cons p m ih=>obtain⟨u,i⟩:=p;intro h;simp only[getM]at h;show(match Nat.beq u o with|true=>(u,l)::m|false=>(u,i)::uU m o l)=_;grind
theorem KT {α:Type}(o:Nat)(l l':α):∀(m:List (Nat×α)),uU (uU m o l) o l'=uU m o l'
 |[]=>rfl
 |(u,i)::m=>by
  cases hb:Nat.beq u o with
  |true=>simp only[uU,hb]
  |false=>simp only[uU,hb];rw[KT o l l' m]
theorem AN {α:Type}{o:Nat}{l l':α}:∀{m:List (Nat×α)},getM m o=some l->getM (uU m o l') o=some l':=by
 intro m;induction m with
 |nil=>intro h;cases h
 |cons p m ih=>obtain⟨u,i⟩:=p;intro h;simp only[getM]at h;simp only[uU];split at h;rename_i hb;simp only[hb,getM];rename_i hb;simp only[hb,getM];simp_all
theorem CV {a:Act}{d:Nat}{v:Value}(h:d<a.tmps.size):(a.put (some d) v).tmps.getD d undef=v:=by simp[Act.put,Array.getD,h]
theorem Br {a:Act}{d i:Nat}{v:Value}(h:i≠d):(a.put (some d) v).tmps.getD i undef=a.tmps.getD i undef:=by simp only[Act.put,Array.getD];by_cases hi:i<a.tmps.size;simp[hi,Cs,eu h];grind
theorem HU {a:Act}{d:Nat}{v:Value}:(a.put (some d) v).tmps.size=a.tmps.size:=by simp[Act.put]
theorem qR {S:aj}{d i:Nat}{x:FV}(h:i≠d):(S.put (some d) x).get i=S.get i:=by unfold aj.get aj.put;simp only[Pe h]
theorem vz {i:Nat}{ds:List Nat}(h:gM i ds=false):i∉ds:=λhm=>by rw[oJ.2 hm]at h;grind
section
variable {E:Env}{G:bf}{S:aj}{a:Act}{w:World}
theorem Sh {call:iQ}{Y:pH}(dJ:mS E.C call)(hY:eR E Y){ops:Array Oper}{K:aj->Prop}{Q:Exit->Act->World->Prop}{rest:List Oper}(hQ:∀S' a' w',K S'->nO E S' a' w'->wpListIn E.jb 0 E.C.P ops Q rest a' w'):∀(l:List Oper)(S:aj)(a:Act)(w:World),pI E.C call Y ops l K S->nO E S a w->wpListIn E.jb 0 E.C.P ops Q (l++rest) a w:=by
 intro l;induction l with
 |nil=>intro S a w h hs;exact hQ _ _ _ h hs
 |cons o l ih=>intro S a w h hs;obtain⟨G,hs⟩:=hs;simp only[pI]at h;rw[dm];refine wpListIn_step λK' Bq=>?_;split at h;rename_i hg;rw[ag (by simp[Region.wanted,hg])];exact tR dJ hY hs h λS' a' w' hk hs'=>Bq _ _ (ih _ _ _ hk hs');rename_i j want hg;split at h;simp_all;rename_i d hd;split at h;rename_i b hb;have hy:=sN hs hd hb;split at h;rename_i Ec;rw[oH]at Ec;rw[ag (by simp[Region.wanted,hg,hy,beq_iff_eq.1 Ec])];exact tR dJ hY hs h λS' a' w' hk hs'=>Bq _ _ (ih _ _ _ hk hs');rename_i Ec;rw[oH]at Ec;rw[af (by simp[Region.wanted,hg,hy];simp_all)];exact⟨λf _=>Env.gi f,Bq _ _ (ih _ _ _ h ⟨G,hs.put o.dst (jB G w)⟩)⟩;rename_i hb;have hy:=rH hs hd hb;rw[af (by simp[Region.wanted,hg,hy])];exact⟨λf _=>Env.gi f,Bq _ _ (ih _ _ _ h ⟨G,hs.put o.dst (jB G w)⟩)⟩;simp_all
theorem Si (hs:bt E G S a w){t kT eT:TypeId}(hu:E.C.P.underlying t=some (.map kT eT)){ob b:Nat}(hb:G.mp ob=some b){kk:AV}{l:List (AV×FV)}(hl:getM S.maps ob=some l){T:TypeId}{z:Nat}{x:Option AV}(Sa:getM E.C.ex.Mi ob=some (T,z,x))(hx:x≠some kk)(hz:(E.C.P.info? eT).map (·.zero)=some (some (.slice none 0 0))){L:List gJ}(hL:eZ E.C.P 40 kT=some L)(hk:gL (gU E.C.P kT) L kk=true)(hall:∀p,p∈l->gL (gU E.C.P kT) L p.1=true){old:List (List AV)}(hold:match sw kk l with|some v=>v=.p (.sl old)|none=>old=[])(new:FV)(hkr:dA G.bk w (tv (gU E.C.P kT) kk.cells) kk):∃(w1:World) (YO:List MapEntry) (Pg:Nat) (l1:List (AV×FV)) (j:Nat) (e0:MapEntry) (ad:Option Addr) (c:Nat),(Instr.mapEntry t (.map (some b)) (tv (gU E.C.P kT) kk.cells)).run E.C.P w=.ok (.tuple #[.slice ad old.length c,.int .i64 (e0.born:Int)]) w1/\bt (E.Pj ob) G {S with maps:=uU S.maps ob l1} a w1/\w1.heap[b]?=some (.map YO.toArray Pg)/\pV YO Pg/\YO.length=l1.length/\YO[j]?=some e0/\e0.key=tv (gU E.C.P kT) kk.cells/\e0.val=.slice ad old.length c/\old.length<=c/\dA G.bk w1 (.slice ad old.length c) (.sl old)/\((old.length=0/\c=0)\/∃b2 off,(ad=some ⟨b2,off,none⟩/\off=0)/\G.tail (.inr (ob,e0.born))=some (b2,off+old.length*z,off+c*z,T))/\(∀(i:Nat)(e:MapEntry)(p:AV×FV),YO[i]?=some e->l1[i]?=some p->i≠j->x≠some p.1->El G T z ob e)/\l1.set j (kk,new)=Bf kk new l/\(∀(i:Nat)(e:MapEntry),YO[i]?=some e->i≠j->e.born≠e0.born):=by
 obtain⟨b',gu,es,h1,h2,h3,h4,h5⟩:=hs.ext'.mps.at_ ob l hl;obtain rfl:b'=b:=by simp_all
 have hka:=MC (w:=w) h4 (λi e p a b=>(h5 i e p a b).1) hall;have hent:=VQ (w:=w) hu hL hk h2 hka (z:=.slice none 0 0) (λw=>HN hz);rw[CN]at hold;rw[uE];have hs1:=hs.Pj ob;have hnone:∀T z k,getM (E.Pj ob).C.ex.Mi ob=some (T,z,k)->False:=λT z k h=>(qa h).1 rfl;cases fF:iy kk (gF l)with
 |none=>
  rw[fF]at hent hold;simp only[Option.bind_none]at hold;subst hold;refine⟨_,es++[({key:=tv (gU E.C.P kT) kk.cells,val:=.slice none 0 0,born:=gu}:MapEntry)],gu+1,l++[(kk,.p (.sl []))],es.length,({key:=tv (gU E.C.P kT) kk.cells,val:=.slice none 0 0,born:=gu}:MapEntry),none,0,hent,?_,World.putObj_heap_same (bq.1 h2).1,⟨λe he=>?_,?_⟩,by grind,by simp,rfl,rfl,aA _,.TZ _ _,.inl ⟨rfl,rfl⟩,λi e p he hp hi hxp=>?_,?_,λi e he hi=>?_⟩;refine hs1.MJ (es':=es++[({key:=tv (gU E.C.P kT) kk.cells,val:=.slice none 0 0,born:=gu}:MapEntry)]) (Bh:=gu+1) (l':=l++[(kk,.p (.sl []))]) hb h2 ⟨λe he=>?_,?_⟩ (by grind) (λi e p he hp=>?_) (λT z k h=>(hnone T z k h).elim);rcases aZ.1 he with he|he;have :=h3.lt e he;omega;simp_all;rw[aD,kz];refine⟨h3.nd,by simp,λu hu v hv=>?_⟩;obtain⟨e,he,rfl⟩:=aC.1 hu;have :=h3.lt e he;grind;by_cases hi:i<es.length;grind;rw[dH oO]at he;rw[dH oO,<-h4]at hp;cases hq:i-es.length with
  |zero=>rw[hq]at he hp;simp at he hp;subst he;subst hp;exact⟨hkr,.p _ _ (.TZ _ _)⟩
  |succ q=>simp_all
  rcases aZ.1 he with he|he;have :=h3.lt e he;omega;simp_all;rw[aD,kz];refine⟨h3.nd,by simp,λu hu v hv=>?_⟩;obtain⟨e,he,rfl⟩:=aC.1 hu;have :=h3.lt e he;grind;have hlt:i<es.length:=by have :=(aJ.1 he).1;simp at this;omega
  rw[cG hlt]at he;rw[cG oO]at hp;exact hs.ext'.mps.room ob T z x l b' gu es hl Sa hb h2 i e p he hp hxp;simp_all;have hlt:i<es.length:=by have :=(aJ.1 he).1;simp at this;omega
  rw[cG hlt]at he;have :=h3.lt e (bU he);grind
 |some j=>
  rw[fF]at hent hold;obtain⟨hj,hkj⟩:=uF fF;rw[nV,ah]at hj;obtain⟨e0,YU,hek,hrun⟩:=hent;simp only[nW,av hj,eM]at hold;have amN:(l[j]).1=kk:=by
   have h6:(gF l)[j]?=some kk:=by rw[av oO,hkj]
   rw[nV,aN,av hj]at h6;exact au h6
  obtain⟨h6,h7⟩:=h5 j e0 l[j] YU (av hj);obtain⟨ad,n,c,g1,g2⟩:=hs.ext'.mps.room ob T z x l b' gu es hl Sa hb h2 j e0 l[j] YU (av hj) (by simp_all);rw[hold,g1]at h7;have h8:dA G.bk w (.slice ad n c) (.sl old):=h7.plain;obtain⟨_,_,hv,hle,-⟩:=h8.mq;injection hv with q1 q2 q3;subst q2;subst q3;rw[g1]at hrun;refine⟨w,es,gu,l,j,e0,ad,c,hrun,?_,h2,h3,h4,YU,hek,g1,hle,h8,g2,λi e p he hp hi hxp=>hs.ext'.mps.room ob T z x l b' gu es hl Sa hb h2 i e p he hp hxp,rfl,λi e he hi hbn=>?_⟩;rw[VU hl];omega;have MN:=h3.nd;have e1:(es.map (·.born))[i]?=some e0.born:=by rw[aN,he];simp[hbn]
  have e2:(es.map (·.born))[j]?=some e0.born:=by rw[aN,YU];rfl
  have Eb:=(aJ.1 e1).1;exact hi (((List.getElem?_inj Eb MN).1 (e1.trans e2.symm)))
theorem qd {P:Program}{o:Oper}{ρ:Operand->Value}{x:Operand}{i:Nat}{vs:Array Value}{v:Value}(ho:o.op=.extract x i)(hx:ρ x=.tuple vs)(hv:vs[i]?=some v):(execOp ρ o).run P w=.ok (.value v) w:=by simp[execOp,ho,hx,Instr.extract,hv]
theorem Sj {P:Program}{o:Oper}{ρ:Operand->Value}{t:TypeId}{m k:Operand}{v:Value}{w':World}(ho:o.op=.mapEntry t m k)(h:(Instr.mapEntry t (ρ m) (ρ k)).run P w=.ok v w'):(execOp ρ o).run P w=.ok (.value v) w':=by simp[execOp,ho,h]
theorem Fv {P:Program}{o:Oper}{ρ:Operand->Value}{x y:Operand}{tx ty:TypeId}{v:Value}{w':World}(ho:o.op=.call ⟨.builtin .append,#[x,y],#[tx,ty]⟩)(h:(Builtin.append_ #[tx,ty] o.type #[ρ x,ρ y]).run P w=.ok v w'):(execOp ρ o).run P w=.ok (.value v) w':=by simp[execOp,ho,resolve,invoke,builtin,h]
theorem Sk {P:Program}{o:Oper}{ρ:Operand->Value}{t:TypeId}{m s x:Operand}{w':World}(ho:o.op=.entryStore t m s x)(h:(Instr.entryStore t (ρ m) (ρ s) (ρ x)).run P w=.ok () w'):(execOp ρ o).run P w=.ok .skip w':=by simp[execOp,ho,h]
theorem YV {es:List MapEntry}{j:Nat}{e0:MapEntry}(h:es[j]?=some e0)(v:Value):(es.set j {e0 with val:=v}).map (·.born)=es.map (·.born):=by apply fZ;grind
theorem VV {ob:Nat}{G':bf}{Sx:aj}{ax:Act}{w2:World}(hsE:bt (E.Pj ob) G' Sx ax w2){b:Nat}(hb:G'.mp ob=some b){es:List MapEntry}{gu:Nat}(hw2:w2.heap[b]?=some (.map es.toArray gu))(CS:pV es gu){l0 l1:List (AV×FV)}{m0:List (Nat×List (AV×FV))}(hm0:getM m0 ob=some l0)(ae6:Sx.maps=uU m0 ob l1)(hlen:es.length=l1.length){j:Nat}{e0:MapEntry}(YU:es[j]?=some e0){kk:AV}(hkr:dA G'.bk w2 e0.key kk){v':Value}{new:List (List AV)}(hnew:dA G'.bk w2 v' (.sl new)){T:TypeId}{z:Nat}{x:Option AV}(Sa:getM E.C.ex.Mi ob=some (T,z,x))(hroom:El G' T z ob {e0 with val:=v'})(Bo:∀(i:Nat)(e:MapEntry)(p:AV×FV),es[i]?=some e->l1[i]?=some p->i≠j->x≠some p.1->El G' T z ob e):bt E G' {Sx with maps:=uU m0 ob (l1.set j (kk,.p (.sl new)))} ax (w2.putObj b (.map (es.set j {e0 with val:=v'}).toArray gu)):=by
 have GH:getM Sx.maps ob=some l1:=by rw[ae6];exact AN hm0
 obtain⟨b2,amO,es2,q1,q2,q3,q4,q5⟩:=hsE.ext'.mps.at_ ob l1 GH;obtain rfl:b2=b:=by simp_all
 obtain rfl:=Mx hw2 q2;have hjl:j<es2.length:=(aJ.1 YU).1;have hsF:=hsE.MJ (es':=es2.set j {e0 with val:=v'}) (Bh:=gu) (l':=l1.set j (kk,.p (.sl new))) hb hw2 ⟨λe he=>by rcases List.mem_or_eq_of_mem_set he with he|rfl;exact CS.lt e he;exact CS.lt e0 (bU YU),by rw[YV YU];exact CS.nd⟩ (by grind) (λi e p he hp=>by rw[List.getElem?_set]at he hp;by_cases hi:j=i;subst hi;rw[ag rfl,ag hjl]at he;rw[ag rfl,ag oO]at hp;obtain rfl:=au he;obtain rfl:=au hp;exact⟨hkr,.p _ _ hnew⟩;grind) (λT z k h=>((qa h).1 rfl).elim);rw[ae6,KT]at hsF;refine bt.afU hsF λT2 z2 k2 l2 b3 amP es3 v1 v2 v3 v4 i e p v5 v6 v7=>?_;rw[Sa]at v2;obtain⟨rfl,rfl,rfl⟩:T=T2/\z=z2/\x=k2:=by simp_all
 have Gp:l2=l1.set j (kk,.p (.sl new)):=by have :=AN (l':=l1.set j (kk,.p (.sl new))) hm0;simp only at v1;rw[this]at v1;exact(au v1).symm
 subst Gp;obtain rfl:b2=b3:=by simp_all
 have rQ:(w2.putObj b2 (.map (es2.set j {e0 with val:=v'}).toArray gu)).heap[b2]?=some (.map (es2.set j {e0 with val:=v'}).toArray gu):=World.putObj_heap_same (bq.1 hw2).1;grind
theorem Pr (S:aj)(d0 d1 d2 d3:Nat)(m:List (Nat×List (AV×FV)))(m1:List (Nat×List (AV×FV))):cK {(((({S with maps:=m1}.put (some d0) .dR).put (some d1) .dR).put (some d2) .dR).put (some d3) .dR)with maps:=m} ((S.Bg [d0,d1,d2,d3]).KF m):=by
 refine⟨rfl,rfl,rfl,λo bs h=>⟨h,id⟩,⟨rfl,λi f f' h h'=>?_⟩,λi=>?_,λo ys h=>⟨ys,h,rfl,λi x y h1 h2=>?_⟩,λo l h=>⟨l,h,rfl,λi p p' h1 h2=>?_⟩,λq x h=>h⟩;have h':S.bK[i]?=some f':=h';have h:S.bK[i]?=some f:=h;rw[h]at h';obtain rfl:=au h';exact⟨rfl,rfl,λ_=>bh.refl _⟩;show bh _ (match gM i [d0,d1,d2,d3]with|true=>.dR|false=>S.tmps i);cases hm:gM i [d0,d1,d2,d3]with
 |true=>exact bh.dR _
 |false=>have :=vz hm;simp only[aK,gy,or_false,not_or]at this;obtain⟨h0,h1,h2,h3⟩:=this;simp only[aj.put,Pe h0,Pe h1,Pe h2,Pe h3];exact bh.refl _
 rw[h1]at h2;obtain rfl:=au h2;exact bh.refl _;rw[h1]at h2;obtain rfl:=au h2;exact⟨rfl,bh.refl _⟩
theorem aj9 {α:Type}{l:List α}(h:l.length=5):∃a b c d e,l=[a,b,c,d,e]:=by match l,h with|[a,b,c,d,e],_=>simp_all
theorem VW {m k y d0 d1 d2 d3 n:Nat}(h:Yn m k y d0 d1 d2 d3 n=true):(d0<n/\d1<n/\d2<n/\d3<n)/\(m≠d0/\m≠d1/\m≠d2/\m≠d3)/\(k≠d0/\k≠d1/\k≠d2/\k≠d3)/\(y≠d0/\y≠d1/\y≠d2/\y≠d3)/\(d0≠d1/\d0≠d2/\d0≠d3)/\(d1≠d2/\d1≠d3)/\d2≠d3:=by unfold Yn at h;simp only[br,acs,dY]at h;obtain⟨⟨⟨⟨⟨⟨⟨⟨⟨VO,Oe⟩,hd2⟩,hd3⟩,hm⟩,hk⟩,hy⟩,acT⟩,acU⟩,afZ⟩:=h;have hm:=vz hm;have hk:=vz hk;have hy:=vz hy;have acT:=vz acT;have acU:=vz acU;simp only[aK,gy,or_false,not_or]at hm hk hy acT acU;exact⟨⟨VO,Oe,hd2,hd3⟩,hm,hk,hy,acT,acU,bD afZ⟩
def AO (E:Env)(Q:Exit->Act->World->Prop)(o:Oper)(a:Act)(w:World)(a':Act)(w':World):Prop:=∀X:Act->World->Prop,X a' w'->Bl E o a w X Q
theorem HV {K:aj->Prop}{Q:Exit->Act->World->Prop}(hQ:∀S' a' w',K S'->nO E S' a' w'->Q .normal a' w'){l:List Oper}(h:uV E.C l K S)(hs:bt E G S a w):∃(o1 o2 o3 o4 o5:Oper) (a1 a2 a3 a4 a5 b3 c2:Act) (w1 w2 w3:World),l=[o1,o2,o3,o4,o5]/\(o1.guard=none/\o2.guard=none/\o3.guard=none/\o4.guard=none/\o5.guard=none)/\AO E Q o1 a w a1 w1/\AO E Q o2 a1 w1 a2 w1/\AO E Q o3 a2 w1 a3 w2/\AO E Q o4 a3 w2 a4 w2/\AO E Q o5 a4 w2 a5 w3/\Q .normal a5 w3/\AO E Q o4 a2 w1 b3 w1/\AO E Q o3 b3 w1 a4 w2/\AO E Q o4 a1 w1 c2 w1/\AO E Q o2 c2 w1 b3 w1:=by
 unfold uV at h;obtain⟨t,tx,ty,m,k,y,d0,d1,d2,d3,Gr,HW,YW,hd,h⟩:=h;have hlen:l.length=5:=by rw[<-ah (f:=λo:Oper=>o.op),Gr];rfl
 obtain⟨o1,o2,o3,o4,o5,hl5⟩:=aj9 hlen;rw[hl5]at Gr HW YW;obtain⟨p1,Gr⟩:=fK Gr;obtain⟨p2,Gr⟩:=fK Gr;obtain⟨p3,Gr⟩:=fK Gr;obtain⟨p4,Gr⟩:=fK Gr;obtain⟨p5,-⟩:=fK Gr;obtain⟨s1,HW⟩:=fK HW;obtain⟨s2,HW⟩:=fK HW;obtain⟨s3,HW⟩:=fK HW;obtain⟨s4,HW⟩:=fK HW;obtain⟨s5,-⟩:=fK HW;obtain⟨g1,YW⟩:=fK YW;obtain⟨g2,YW⟩:=fK YW;obtain⟨g3,YW⟩:=fK YW;obtain⟨g4,YW⟩:=fK YW;obtain⟨g5,-⟩:=fK YW;obtain⟨⟨VO,Oe,hd2,hd3⟩,⟨m0,m1,m2,m3⟩,⟨k0,k1,k2,k3⟩,⟨y0,y1,y2,y3⟩,⟨d01,d02,d03⟩,⟨d12,d13⟩,afZ⟩:=VW hd;clear hd hlen Gr HW YW;have p1:o1.op=_:=p1;have p2:o2.op=_:=p2;have p3:o3.op=_:=p3;have p4:o4.op=_:=p4;have p5:o5.op=_:=p5;have s1:o1.dst=_:=s1;have s2:o2.dst=_:=s2;have s3:o3.dst=_:=s3;have s4:o4.dst=_:=s4;have s5:o5.dst=_:=s5;split at h;rename_i kT eT _ e _ ui ht htx hty;have hu:=(E.C.ok ht).map;have JZ:=(E.C.ok htx).slice;obtain⟨dd,YL,hsh⟩:=(E.C.ok hty).yC;split at h;rename_i j ki ob yM hj hki hmm;have hok:=E.C.ok hj;have hdk:∀k,dd≠.int k:=λk e=>by rw[<-hsh,e]at yM;simp[shapeOf,Shape.Fj]at yM
 split at h;rename_i kk ys l0 T z x hkk hyy hl Sa;obtain⟨hT,hz,hb0,hx,hzero,L,hL,hkf,hall,yL,old,hold,hlo,hbd,l',hl',hK⟩:=h;obtain rfl:=aM hT;obtain rfl:=aM hz;have hb0:=bD hb0;have hagg:=(E.C.ok hki).gU;rw[<-hagg]at hkf hall;have hkr:=(aT.get hs k).eG hkk;have hkey:=tC hkr hkf;have hmr:=aT.get hs m;rw[hmm]at hmr;obtain⟨b,hvm,hb⟩:∃b,a.tmps.getD m undef=.map (some b)/\G.mp ob=some b:=by
  generalize a.tmps.getD m undef=vm at hmr;cases hmr with
  |fG _ b hb=>simp_all
 obtain⟨w1,YO,Pg,l1,jx,e0,ad,c,r1,hsB,hw1,CS,ae7,YU,hek,KQ,hle,oC,hroom,ML,Bk,ahM⟩:=Si hs hu hb hl Sa hx hzero hL hkf hall hold (.p (.sl (old++ys))) (by simp_all);have hsz:a.tmps.size=S.n:=hs.size;obtain⟨vt,hvt⟩:∃vt,vt=Value.tuple #[.slice ad old.length c,.int .i64 (e0.born:Int)]:=⟨_,rfl⟩;obtain⟨v0,hv0⟩:∃v0,v0=Value.slice ad old.length c:=⟨_,rfl⟩;have hsC:=(hsB.put (some d0) (v:=vt) (x:=.dR) (.dR _)).put (some d1) (v:=v0) (x:=.dR) (.dR _);obtain⟨a1,ha1⟩:∃a1,a1=a.put (some d0) vt:=⟨_,rfl⟩;obtain⟨a2,ha2⟩:∃a2,a2=a1.put (some d1) v0:=⟨_,rfl⟩;rw[<-ha1,<-ha2]at hsC;have z1:a1.tmps.size=S.n:=by rw[ha1,HU,hsz]
 have z2:a2.tmps.size=S.n:=by rw[ha2,HU,z1]
 have f1:∀i,i≠d0->a1.tmps.getD i undef=a.tmps.getD i undef:=λi hi=>by rw[ha1];exact Br hi
 have f2:∀i,i≠d1->a2.tmps.getD i undef=a1.tmps.getD i undef:=λi hi=>by rw[ha2];exact Br hi
 have x1:a1.tmps.getD d0 undef=vt:=by rw[ha1];exact CV oO
 have x2:a2.tmps.getD d1 undef=v0:=by rw[ha2];exact CV oO
 have hyr:=aT.get hsC y;rw[qR y1,qR y0]at hyr;obtain⟨news,n1,n2,n3⟩:=aT.items (P:=E.C.P) (e:=j.size) hyy hyr yL;obtain⟨ad',c',w2,G',r2,hsD,ae8,af0,hkeep,hmp,Bo⟩:=Pm (ty:=o3.type) hsC (q:=(ob,e0.born)) (by
  cases hq:getM (E.Pj ob).C.ex.Mi ob with
  |none=>rfl
  |some r=>exact absurd rfl (qa hq).1) JZ YL hdk hok oC hlo yL hle hroom n1 n2 n3 hbd hb0
 obtain⟨v',VR⟩:∃v',v'=Value.slice ad' (old++ys).length c':=⟨_,rfl⟩;rw[<-hv0,<-VR]at r2;rw[<-VR]at ae8;have hsE:=(hsD.put (some d2) (v:=v') (x:=.dR) (.dR _)).put (some d3) (v:=.int .i64 (e0.born:Int)) (x:=.dR) (.dR _);obtain⟨a3,ha3⟩:∃a3,a3=a2.put (some d2) v':=⟨_,rfl⟩;obtain⟨a4,ha4⟩:∃a4,a4=a3.put (some d3) (.int .i64 (e0.born:Int)):=⟨_,rfl⟩;rw[<-ha3,<-ha4]at hsE;have z3:a3.tmps.size=S.n:=by rw[ha3,HU,z2]
 have f3:∀i,i≠d2->a3.tmps.getD i undef=a2.tmps.getD i undef:=λi hi=>by rw[ha3];exact Br hi
 have f4:∀i,i≠d3->a4.tmps.getD i undef=a3.tmps.getD i undef:=λi hi=>by rw[ha4];exact Br hi
 have x3:a3.tmps.getD d2 undef=v':=by rw[ha3];exact CV oO
 have x4:a4.tmps.getD d3 undef=.int .i64 (e0.born:Int):=by rw[ha4];exact CV oO
 have hw2:w2.heap[b]?=some (.map YO.toArray Pg):=Bo _ _ hw1 rfl;have acV:=aT.get hsE k;rw[qR k3,qR k2,qR k1,qR k0,f4 _ k3,f3 _ k2,f2 _ k1,f1 _ k0,hkey]at acV;have acV:dA G'.bk w2 e0.key kk:=by rw[hek];exact acV.eG (y:=kk) hkk
 have hG:=VV (E:=E) hsE (b:=b) (by grind) hw2 CS (m0:=S.maps) hl rfl ae7 YU acV ae8 Sa ⟨ad',_,c',VR,af0⟩ (λi e p he hp hi hxp=>by obtain⟨ad2,n2,c2,u1,u2⟩:=ML i e p he hp hi hxp;exact⟨ad2,n2,c2,u1,u2.imp id λ⟨b2,off,u3,u4⟩=>⟨b2,off,u3,hkeep _ _ (λe1=>ahM i e he hi (fJ e1).2) u4⟩⟩);have ahO:=Sk (P:=E.C.P) (w:=w2) (ρ:=a4.eval) p5 (w':=w2.putObj b (.map (YO.set jx {e0 with val:=v'}).toArray Pg)) (by rw[kj,kj,kj,f4 _ m3,f3 _ m2,f2 _ m1,f1 _ m0,hvm,x4,f4 _ afZ,x3];exact run_store hw2 CS.nd YU v');have hne:∀{p q:Nat},p≠q->∀d,some p=some d->some q≠some d:=λh d e e2=>h (au (e.trans e2.symm));have eb:(a2.put (some d3) (.int .i64 (e0.born:Int))).put (some d2) v'=a4:=by rw[ha4,ha3];exact Act.put_comm _ _ _ (by simp;omega)
 have ec:(a1.put (some d3) (.int .i64 (e0.born:Int))).put (some d1) v0=a2.put (some d3) (.int .i64 (e0.born:Int)):=by rw[ha2];exact Act.put_comm _ _ _ (by simp;omega)
 refine⟨o1,o2,o3,o4,o5,a1,a2,a3,a4,a4.put o5.dst undef,a2.put (some d3) (.int .i64 (e0.born:Int)),a1.put (some d3) (.int .i64 (e0.born:Int)),w1,w2,w2.putObj b (.map (YO.set jx {e0 with val:=v'}).toArray Pg),hl5,⟨g1,g2,g3,g4,g5⟩,λX hX=>?_,λX hX=>?_,λX hX=>?_,λX hX=>?_,λX hX=>?_,?_,λX hX=>?_,λX hX=>?_,λX hX=>?_,λX hX=>?_⟩;exact wp_value (v:=vt) (w':=w1) (Sj p1 (by rw[kj,kj,hvm,hkey,r1,hvt])) (by rw[s1,<-ha1];exact hX);exact wp_value (v:=v0) (w':=w1) (qd (vs:=#[v0,.int .i64 (e0.born:Int)]) p2 (by rw[kj,x1,hvt,hv0]) rfl) (by rw[s2,<-ha2];exact hX);exact wp_value (v:=v') (w':=w2) (Fv p3 (by rw[kj,kj,x2];exact r2)) (by rw[s3,<-ha3];exact hX);exact wp_value (v:=.int .i64 (e0.born:Int)) (w':=w2) (qd (vs:=#[v0,.int .i64 (e0.born:Int)]) p4 (by rw[kj,f3 _ d02,f2 _ d01,x1,hvt,hv0]) rfl) (by rw[s4,<-ha4];exact hX);refine⟨λf _=>Env.gi f,?_⟩;rw[Oper.semAt_eq _ _ _ (λc=>by grind),ahO];exact hX;rw[s5];refine hQ _ _ _ hK ?_;rw[<-hl',<-Bk];exact nO.weaken ⟨_,hG⟩ (Pr S d0 d1 d2 d3 _ _);exact wp_value (v:=.int .i64 (e0.born:Int)) (w':=w1) (qd (vs:=#[v0,.int .i64 (e0.born:Int)]) p4 (by rw[kj,f2 _ d01,x1,hvt,hv0]) rfl) (by rw[s4];exact hX);exact wp_value (v:=v') (w':=w2) (Fv p3 (by rw[kj,kj,Br d13,Br y3,x2];exact r2)) (by rw[s3,eb];exact hX);exact wp_value (v:=.int .i64 (e0.born:Int)) (w':=w1) (qd (vs:=#[v0,.int .i64 (e0.born:Int)]) p4 (by rw[kj,x1,hvt,hv0]) rfl) (by rw[s4];exact hX);exact wp_value (v:=v0) (w':=w1) (qd (vs:=#[v0,.int .i64 (e0.born:Int)]) p2 (by rw[kj,Br d03,x1,hvt,hv0]) rfl) (by rw[s2,ec];exact hX);simp_all;simp_all;simp_all
theorem Sl {ops:Array Oper}{K:aj->Prop}{Q:Exit->Act->World->Prop}(hQ:∀S' a' w',K S'->nO E S' a' w'->Q .normal a' w'){l:List Oper}(h:uV E.C l K S)(hs:bt E G S a w):wpListIn E.jb 0 E.C.P ops Q l a w:=by obtain⟨o1,o2,o3,o4,o5,a1,a2,a3,a4,a5,b3,c2,w1,w2,w3,rfl,⟨g1,g2,g3,g4,g5⟩,s1,s2,s3,s4,s5,q,-⟩:=HV hQ h hs;exact wpListIn_plain g1 λK1 hK1=>s1 _ (hK1 _ _ (wpListIn_plain g2 λK2 hK2=>s2 _ (hK2 _ _ (wpListIn_plain g3 λK3 hK3=>s3 _ (hK3 _ _ (wpListIn_plain g4 λK4 hK4=>s4 _ (hK4 _ _ (wpListIn_plain g5 λK5 hK5=>s5 _ (hK5 _ _ q)))))))))
theorem HX {call:iQ}{Y:pH}(dJ:mS E.C call)(hY:eR E Y){id:Nat}{ops:Array Oper}{draw:Bool}{K:aj->Prop}{Q:Exit->Act->World->Prop}(hQ:∀S a w,K S->nO E S a w->Q .normal a w)(hs:nO E S a w)(hd:draw=false)(h:GD E.C call Y ops draw K S):(Code.region id ops draw).wpIn E.jb 0 E.C.P Q a w:=by
 unfold GD at h;cases draw with
 |true=>cases hd
 |false=>refine wpIn_region_list ?_;rw[<-dI (ops.toList.length-5) ops.toList];exact Sh dJ hY (λS' a' w' hk ⟨G',hs'⟩=>Sl hQ hk hs') _ _ _ _ h hs
end
section
variable {E:Env}{G:bf}{S:aj}{a:Act}{w:World}{o:Oper}{ops:Array Oper}{C:Ctx}{call:iQ}{Y:pH}
theorem Ew {fs:List (Nat×TypeId)}{iZ:List (TypeId×jF)}{S S':aj}:∀(parts:List (Nat×Operand))(cells:List FV),(∀p,p∈parts->S'.val p.2=S.val p.2)->nw fs iZ S' parts cells=nw fs iZ S parts cells:=by
 intro parts;induction parts with
 |nil=>intro cells _;rfl
 |cons p parts ih=>obtain⟨i,x⟩:=p;intro cells h;have hx:=h (i,x) iN;simp only at hx;simp only[nw,hx];split;rfl;split;rfl;split;split;rfl;exact ih _ λp hp=>h p (cR _ hp);rfl
theorem vA {size:Nat}{S S':aj}:∀(parts:List (Nat×Operand))(cells:List FV),(∀p,p∈parts->S'.val p.2=S.val p.2)->fP size S' parts cells=fP size S parts cells:=by
 intro parts;induction parts with
 |nil=>intro cells _;rfl
 |cons p parts ih=>obtain⟨i,x⟩:=p;intro cells h;have hx:=h (i,x) iN;simp only at hx;simp only[fP,hx];split;split;rfl;exact ih _ λp hp=>h p (cR _ hp);rfl
theorem Fw {S S':aj}{t:TypeId}{parts:Array (Nat×Operand)}{K:FV->Prop}(h:∀p,p∈parts.toList->S'.val p.2=S.val p.2):eH C S' (.build t parts) K=eH C S (.build t parts) K:=by simp only[eH,Gz];split;split;rfl;rw[Ew _ _ h];split;rfl;rw[vA _ _ h];rfl
theorem vB {S S':aj}{t:TypeId}{len:Nat}{parts:Array (Nat×Operand)}{K:FV->Prop}(h:∀p,p∈parts.toList->S'.val p.2=S.val p.2):eH C S' (.buildSlice t len parts) K=eH C S (.buildSlice t len parts) K:=by simp only[eH,mh];split;split;rfl;split;rfl;rw[vA _ _ h];rfl
theorem Fx {S S':aj}{op:Op}{K:FV->Prop}(hv:∀x,x∈op.operands->S'.val x=S.val x)(ho:S'.aI=S.aI)(hm:∀t x i ok,op=.lookup t x i ok->S'.maps=S.maps)(hit:∀it,op=.entry it->S'.je=S.je):eH C S' op K=eH C S op K:=by
 cases op<;>try rfl
 case lookup t x i ok=>simp only[eH];rw[hv x (by simp[Op.operands]),hv i (by simp[Op.operands]),hm _ _ _ _ rfl]
 case move x=>simp only[eH];rw[hv x (by simp[Op.operands])]
 case assign x=>simp only[eH];rw[hv x (by simp[Op.operands])]
 case pick c x y=>simp only[eH];rw[hv c (by simp[Op.operands]),hv x (by simp[Op.operands]),hv y (by simp[Op.operands])]
 case binOp op t x y yt=>simp only[eH];rw[hv x (by simp[Op.operands]),hv y (by simp[Op.operands])]
 case unOp op t x=>simp only[eH];rw[hv x (by simp[Op.operands])]
 case convert s d x=>simp only[eH];rw[hv x (by simp[Op.operands])]
 case makeInterface t x=>simp only[eH];rw[hv x (by simp[Op.operands])]
 case makeFunc fn first captured=>simp only[eH];have h1:first.toList.map S'.val=first.toList.map S.val:=dZ λx hx=>hv x (by simp[Op.operands];exact .inl (by simpa using hx));have h2:captured.toList.map S'.val=captured.toList.map S.val:=dZ λx hx=>hv x (by simp[Op.operands];exact .inr (by simpa using hx));rw[h1,h2]
 case build t parts=>exact Fw λp hp=>hv p.2 (by simp[Op.operands];exact⟨p.1,by simpa using hp⟩)
 case buildSlice t len parts=>exact vB λp hp=>hv p.2 (by simp[Op.operands];exact⟨p.1,by simpa using hp⟩)
 case load t x=>simp only[eH];rw[hv x (by simp[Op.operands]),ho]
 case nilCheck x=>simp only[eH];rw[hv x (by simp[Op.operands])]
 case fieldAddr s x f=>simp only[eH];rw[hv x (by simp[Op.operands])]
 case field s x f=>simp only[eH];rw[hv x (by simp[Op.operands])]
 case indexAddr t x i=>simp only[eH];rw[hv x (by simp[Op.operands]),hv i (by simp[Op.operands]),ho]
 case index t x i=>simp only[eH];rw[hv x (by simp[Op.operands]),hv i (by simp[Op.operands])]
 case slice t x lo hi mx=>
  cases mx with
  |some m=>rfl
  |none=>
   simp only[eH];have h1:lo.map S'.val=lo.map S.val:=by
    cases lo with
    |none=>rfl
    |some y=>simp only[eM];rw[hv y (by simp[Op.operands])]
   have h2:hi.map S'.val=hi.map S.val:=by
    cases hi with
    |none=>rfl
    |some y=>simp only[eM];rw[hv y (by simp[Op.operands])]
   rw[hv x (by simp[Op.operands]),h1,h2]
 case extract x i=>simp only[eH];rw[hv x (by simp[Op.operands])]
 case call c=>
  obtain⟨callee,args,types⟩:=c;have h1:args.toList.map S'.val=args.toList.map S.val:=dZ λx hx=>hv x (by cases callee<;>simp[Op.operands,Call.operands]<;>first|exact .inr (by simpa using hx)|(simpa using hx));cases callee with
  |value f=>simp only[eH];rw[h1,hv f (by simp[Op.operands,Call.operands])]
  |builtin b=>simp only[eH];rw[h1,ho]
  |invoke r m=>rfl
theorem aj.HY {S:aj}{dst:Option Nat}{v:FV}{t:Nat}(h:∀d,dst=some d->t≠d):(S.put dst v).get t=S.get t:=by
 cases dst with
 |none=>rfl
 |some d=>
  have hne:=h d rfl;have :Nat.beq t d=false:=by cases hb:Nat.beq t d;rfl;exact absurd (aM hb) hne
  simp only[aj.get,aj.put,this]
theorem aj.wQ {S:aj}{dst:Option Nat}{v:FV}{x:Operand}(h:∀d,dst=some d->x≠.tmp d):(S.put dst v).val x=S.val x:=by
 cases x with
 |tmp t=>exact aj.HY λd hd e=>h d hd (by rw[e])
 |_=>rfl
theorem aj.Pt {S:aj}{dst:Option Nat}{v:FV}:(S.put dst v).aI=S.aI:=by cases dst<;>rfl
theorem aj.put_comm {S:aj}{x y:Option Nat}{u v:FV}(h:∀d,x=some d->y≠some d):(S.put x u).put y v=(S.put y v).put x u:=by
 cases x with
 |none=>rfl
 |some d=>
  cases y with
  |none=>rfl
  |some e=>
   have hne:d≠e:=λhe=>h d rfl (he▸rfl);simp only[aj.put];congr 1;funext i;by_cases h1:i=d;have h2:Nat.beq i e=false:=by cases hb:Nat.beq i e;rfl;exact absurd ((aM hb).symm.trans h1).symm hne
   rw[h2];have h2:Nat.beq i d=false:=by cases hb:Nat.beq i d;rfl;exact absurd (aM hb) h1
   rw[h2]
theorem sO {S:aj}{dst:Option Nat}{v:FV}{o:Oper}{K:FV->Prop}(h:∀d,dst=some d->d∉o.looksAt ops):eH C (S.put dst v) o.op K=eH C S o.op K:=Fx (λx hx=>aj.wQ λd hd hxd=>h d hd (by subst hxd;exact jj _ (wR.2 ⟨.tmp d,by simpa using hx,rfl⟩))) aj.Pt (λ_ _ _ _ _=>by cases dst<;>rfl) (λ_ _=>by cases dst<;>rfl)
def jk (ops:Array Oper)(S:aj)(o:Oper):Option Bool:=match o.guard with|none=>some true|some (j,want)=>match(ops[j]?).bind (·.dst)with|none=>none|some d=>match S.get d with|.p (.bool b)=>some (b==want)|.p (.eW [])=>some false|_=>none
theorem rR {dst:Option Nat}{v:FV}(h:∀d,dst=some d->d∉o.looksAt ops):jk ops (S.put dst v) o=jk ops S o:=by unfold jk;split;rfl;rename_i j want hg;split;rfl;rename_i d hd;have :(S.put dst v).get d=S.get d:=aj.HY λe he hde=>h e he (by subst hde;simp[Oper.looksAt,hg,hd]);rw[this]
theorem sR (hs:bt E G S a w){b:Bool}(h:jk ops S o=some b):Region.wanted o (yielded ops a.tmps)=b:=by unfold jk at h;unfold Region.wanted;split at h;rename_i hg;rw[hg];exact au h;rename_i j want hg;rw[hg];split at h;cases h;rename_i d hd;split at h;rename_i c hc;simp only[sN hs hd hc];have :=au h;rw[<-this];cases c<;>cases want<;>rfl;rename_i hc;simp only[rH hs hd hc];exact au h;cases h
def Ex:FV:=.p (.eW [])
def lH (C:Ctx)(ops:Array Oper)(o:Oper)(K:aj->Prop)(S:aj):Prop:=match jk ops S o with|some true=>∃v,eH C S o.op (λu=>u=v)/\K (S.put o.dst v)|some false=>K (S.put o.dst Ex)|none=>False
def Fy (C:Ctx)(call:iQ)(Y:pH)(ops:Array Oper)(o:Oper)(K:aj->Prop)(S:aj):Prop:=match jk ops S o with|some true=>Gk C call Y o K S|some false=>K (S.put o.dst Ex)|none=>False
theorem HZ {rest:List Oper}{K:aj->Prop}(h:Hv C ops (o::rest) K S):lH C ops o (Hv C ops rest K) S:=by
 simp only[Hv]at h;unfold lH jk;split at h;rename_i hg;rw[hg];exact h;rename_i j want hg;rw[hg];split at h;exact h.elim;rename_i d hd;simp only[hd];split at h;rename_i b hb;rw[oH]at h;simp only[hb];cases Ec:(b==want)with
 |true=>rw[Ec]at h;exact h
 |false=>rw[Ec]at h;exact h
 rename_i hb;simp only[hb];exact h;exact h.elim
theorem Ia {rest:List Oper}{K:aj->Prop}(h:pI C call Y ops (o::rest) K S):Fy C call Y ops o (pI C call Y ops rest K) S:=by
 simp only[pI]at h;unfold Fy jk;split at h;rename_i hg;rw[hg];exact h;rename_i j want hg;rw[hg];split at h;exact h.elim;rename_i d hd;simp only[hd];split at h;rename_i b hb;rw[oH]at h;simp only[hb];cases Ec:(b==want)with
 |true=>rw[Ec]at h;exact h
 |false=>rw[Ec]at h;exact h
 rename_i hb;simp only[hb];exact h;exact h.elim
def jQ (C:Ctx)(ops:Array Oper)(o:Oper)(x:FV)(S:aj):Prop:=(jk ops S o=some true/\eH C S o.op λu=>u=x)\/(jk ops S o=some false/\x=Ex)
theorem iO {K:aj->Prop}(h:lH C ops o K S):∃x,jQ C ops o x S/\K (S.put o.dst x):=by unfold lH at h;split at h;rename_i hw;obtain⟨v,h1,h2⟩:=h;exact⟨v,.inl ⟨hw,h1⟩,h2⟩;rename_i hw;exact⟨Ex,.inr ⟨hw,rfl⟩,h⟩;exact h.elim
theorem jQ.lH {x:FV}(hy:jQ C ops o x S){K:aj->Prop}(h:K (S.put o.dst x)):lH C ops o K S:=by unfold Qv.lH;rcases hy with⟨hw,hv⟩|⟨hw,rfl⟩;rw[hw];exact⟨x,hv,h⟩;rw[hw];exact h
theorem jQ.put {x:FV}(hy:jQ C ops o x S){dst:Option Nat}{v:FV}(h:∀d,dst=some d->d∉o.looksAt ops):jQ C ops o x (S.put dst v):=by unfold jQ at*;rw[rR h,sO h];exact hy
theorem jQ.Uq {x:FV}{dst:Option Nat}{v:FV}(hy:jQ C ops o x (S.put dst v))(h:∀d,dst=some d->d∉o.looksAt ops):jQ C ops o x S:=by unfold jQ at*;rw[rR h,sO h]at hy;exact hy
theorem KU {oi oj:Oper}{x:FV}(hap:oi.apart ops oj=true){K:aj->Prop}(hy:jQ C ops oi x S)(h:lH C ops oj K (S.put oi.dst x)):lH C ops oj (λS'=>jQ C ops oi x S'/\K (S'.put oi.dst x)) S:=by obtain⟨h1,h2,h3⟩:=Oper.apart_spec hap;obtain⟨u,hu,hK⟩:=iO h;refine(hu.Uq h1).lH ⟨hy.put h3,?_⟩;rw[<-aj.put_comm h2];exact hK
def KV (C:Ctx)(call:iQ)(Y:pH)(ops:Array Oper)(q:Nat->Bool)(i:Nat)(K:aj->Prop)(S:aj):Prop:=match ops[i]?with|none=>K S|some o=>match q i with|true=>lH C ops o K S|false=>∃K':aj->Prop,Fy C call Y ops o K' S/\∀S',K' S'->K S'
def VX (C:Ctx)(call:iQ)(Y:pH)(ops:Array Oper)(q:Nat->Bool)(K:aj->Prop):Nat->Array Bool->aj->Prop|0,listed,S=>Region.ready .any ops listed=[]/\K S|fuel+1,listed,S=>(Region.ready .any ops listed=[]->K S)/\∀i∈Region.ready .any ops listed,KV C call Y ops q i (VX C call Y ops q K fuel (listed.setIfInBounds i true)) S
theorem uG (hs:nO E S a w){K:aj->Prop}{K':Act->World->Prop}{Q:Exit->Act->World->Prop}(h:lH E.C ops o K S)(hK:∀S a w,K S->nO E S a w->K' a w):if Region.wanted o (yielded ops a.tmps)then Bl E o a w K' Q else(∀f,o.about E.C.P w a.eval=some f->E.jb.fn f)/\K' (a.put o.dst undef) w:=by obtain⟨G,hs⟩:=hs;unfold lH at h;split at h;rename_i hw;rw[ag (sR hs hw)];obtain⟨v,h1,h2⟩:=h;exact Ev (K:=λ_=>True) hs h1 λa' w' hs'=>hK _ _ _ h2 hs';rename_i hw;rw[af (by rw[sR hs hw];simp)];exact⟨λf _=>Env.gi f,hK _ _ _ h ⟨G,hs.put o.dst (jB G w)⟩⟩;exact h.elim
theorem yS (dJ:mS E.C call)(hY:eR E Y)(hs:nO E S a w){K:aj->Prop}{K':Act->World->Prop}{Q:Exit->Act->World->Prop}(h:Fy E.C call Y ops o K S)(hK:∀S a w,K S->nO E S a w->K' a w):if Region.wanted o (yielded ops a.tmps)then Bl E o a w K' Q else(∀f,o.about E.C.P w a.eval=some f->E.jb.fn f)/\K' (a.put o.dst undef) w:=by obtain⟨G,hs⟩:=hs;unfold Fy at h;split at h;rename_i hw;rw[ag (sR hs hw)];exact tR dJ hY hs h λS' a' w' hk hs'=>hK _ _ _ hk hs';rename_i hw;rw[af (by rw[sR hs hw];simp)];exact⟨λf _=>Env.gi f,hK _ _ _ h ⟨G,hs.put o.dst (jB G w)⟩⟩;exact h.elim
theorem Sm (dJ:mS E.C call)(hY:eR E Y){q:Nat->Bool}{K:aj->Prop}{Q:Exit->Act->World->Prop}(hQ:∀S a w,K S->nO E S a w->Q .normal a w):∀(fuel:Nat)(listed:Array Bool)(S:aj)(a:Act)(w:World),nO E S a w->VX E.C call Y ops q K fuel listed S->wpAnyIn E.jb 0 E.C.P .any ops Q fuel listed a w:=by
 intro fuel;induction fuel with
 |zero=>intro listed S a w hs h;exact⟨h.1,hQ _ _ _ h.2 hs⟩
 |succ fuel ih=>intro listed S a w hs h;refine⟨λh0=>hQ _ _ _ (h.1 h0) hs,λi hi=>?_⟩;have h2:=h.2 i hi;unfold KV at h2;unfold wpOpIn;split at h2;rename_i ho;simp only[ho];exact ih _ _ _ _ hs h2;rename_i o ho;simp only[ho];split at h2;exact uG hs h2 λS a w hk hs'=>ih _ _ _ _ hs' hk;obtain⟨K',h3,h4⟩:=h2;exact yS dJ hY hs h3 λS a w hk hs'=>ih _ _ _ _ hs' (h4 _ hk)
def qS (ops:Array Oper)(listed:Array Bool):Prop:=listed.size=ops.size/\∀p o,ops[p]?=some o->listed.getD p false=true->∀e∈o.after,Region.binds .any e=true->listed.getD e.on false=true
theorem qS.set {listed:Array Bool}{i:Nat}(h:qS ops listed)(hi:i∈Region.ready .any ops listed):qS ops (listed.setIfInBounds i true):=by obtain⟨h1,h2⟩:=h;obtain⟨h0,o,ho,hall⟩:=mem_ready.1 hi;refine⟨by simpa using h1,λp op hp hl e he hb=>?_⟩;by_cases hpi:i=p;subst hpi;rw[ho]at hp;obtain rfl:=au hp;exact getD_set_true (hall e he hb);rw[getD_set_ne false hpi]at hl;exact getD_set_true (h2 p op hp hl e he hb)
theorem qS.reach {listed:Array Bool}(h:qS ops listed):∀(fuel j i:Nat),tK ops fuel j i=true->(∀o,ops[j]?=some o->∀e∈o.after,Region.binds .any e=true->listed.getD e.on false=true)->listed.getD i false=true:=by
 intro fuel;induction fuel with
 |zero=>intro j i hr;cases hr
 |succ fuel ih=>intro j i hr hall;simp only[tK]at hr;split at hr;cases hr;rename_i o ho;obtain⟨e,he,hb⟩:=fc.1 hr;simp only[br,qe,beq_iff_eq]at hb;have hl:=hall o ho e (by simpa using he) hb.1;rcases hb.2 with hi|hr';exact hi▸hl;exact ih e.on i hr' λo' ho'=>h.2 e.on o' ho' hl
theorem CW {listed:Array Bool}{i:Nat}(h:listed.getD i true=false):listed.getD i false=false:=by rcases Nat.lt_or_ge i listed.size with h'|h';simp[h']at h⊢;exact h;simp[CU h']at h
theorem Sn {q:Nat->Bool}{K:aj->Prop}{i:Nat}{oi:Oper}{x:FV}(hi:ops[i]?=some oi)(him:q i=true):∀(fuel:Nat)(listed:Array Bool)(S:aj),qS ops listed->(∀j oj,ops[j]?=some oj->j≠i->listed.getD j true=false->tK ops ops.size j i=true\/(q j=true/\oi.apart ops oj=true))->i∈Region.ready .any ops listed->jQ C ops oi x S->VX C call Y ops q K fuel (listed.setIfInBounds i true) (S.put oi.dst x)->VX C call Y ops q K (fuel+1) listed S:=by
 have self:∀{K':aj->Prop}{S:aj},jQ C ops oi x S->K' (S.put oi.dst x)->KV C call Y ops q i K' S:=λhy h=>by unfold KV;simp only[hi,him];exact hy.lH h
 intro fuel;induction fuel with
 |zero=>intro listed S _ _ hr hy H;refine⟨λh=>(by rw[h]at hr;cases hr),λj hj=>?_⟩;by_cases hji:j=i;subst hji;exact self hy H;have :=ready_mono hj hji;rw[H.1]at this;cases this
 |succ fuel ih=>
  intro listed S lU hfree hr hy H;refine⟨λh=>(by rw[h]at hr;cases hr),λj hj=>?_⟩;by_cases hji:j=i;subst hji;exact self hy H;have h1:=H.2 j (ready_mono hj hji);obtain⟨Ib,oj,Ur,hall⟩:=mem_ready.1 hj;rcases hfree j oj Ur hji Ib with hre|⟨hjm,hap⟩;have h2:=lU.reach _ _ _ hre λo ho=>by rw[Ur]at ho;obtain rfl:=au ho;exact hall
  rw[CW (mem_ready.1 hr).1]at h2;cases h2;unfold KV at h1⊢;simp only[Ur,hjm]at h1⊢;have h2:=KU hap hy h1;have Ic:∀k ok,ops[k]?=some ok->k≠i->(listed.setIfInBounds j true).getD k true=false->tK ops ops.size k i=true\/(q k=true/\oi.apart ops ok=true):=λk ok hk hki hun=>by refine hfree k ok hk hki ?_;by_cases hjk:j=k;subst hjk;exact Ib;rw[getD_set_ne true hjk]at hun;exact hun
  obtain⟨y,hy2,h3⟩:=iO h2;refine hy2.lH (ih (listed.setIfInBounds j true) _ (lU.set hj) Ic (ready_mono hr (eu hji)) h3.1 ?_);rw[CY _ _ hji];exact h3.2
theorem Bs {q:Nat->Bool}{listed:Array Bool}{i:Nat}{oi:Oper}(hi:ops[i]?=some oi)(h:Ox ops q listed i=true)(j:Nat)(oj:Oper)(hj:ops[j]?=some oj)(hne:j≠i)(hun:listed.getD j true=false):tK ops ops.size j i=true\/(q j=true/\oi.apart ops oj=true):=by simp only[Ox,hi,bA,hU]at h;have h1:=h j (bq.1 hj).1;simp only[hj,qe,beq_iff_eq,hne,false_or,hun,sD,br]at h1;exact h1
theorem VY {m:Nat}{K:aj->Prop}:∀(l:List Oper)(k:Nat)(listed:Array Bool)(S:aj),m<=k->(∀j,l[j]?=ops[k+j]?)->tL ops m l.length k listed=true->pI C call Y ops l K S->VX C call Y ops (λi=>decide (i<m)) K l.length listed S:=by
 intro l;induction l with
 |nil=>intro k listed S _ _ hB h;exact⟨by simpa[tL]using hB,h⟩
 |cons o l ih=>
  intro k listed S hk hl hB h;have h0:ops[k]?=some o:=by simpa using(hl 0).symm
  have hkm:decide (k<m)=false:=by simp;omega
  simp only[aR,tL,hkm,br,beq_iff_eq]at hB;obtain⟨hr,hB'⟩:=hB;refine⟨λe=>(by rw[hr]at e;cases e),λi hi=>?_⟩;rw[hr]at hi;obtain rfl:i=k:=by simpa using hi
  unfold KV;simp only[h0,hkm];exact⟨_,Ia h,λS' h'=>ih (i+1) _ S' oO (λj=>by have :=hl (j+1);simpa[fH,nQ 1 j]using this) hB' h'⟩
theorem YX {m:Nat}{K:aj->Prop}:∀(l l':List Oper)(k:Nat)(listed:Array Bool)(S:aj),qS ops listed->k+l.length=m->(∀j,(l++l')[j]?=ops[k+j]?)->tL ops m (l++l').length k listed=true->Hv C ops l (pI C call Y ops l' K) S->VX C call Y ops (λi=>decide (i<m)) K (l++l').length listed S:=by
 intro l;induction l with
 |nil=>intro l' k listed S _ hkm hl hB h;exact VY l' k listed S (by simp at hkm;omega) (by simpa using hl) (by simpa using hB) h
 |cons o l ih=>
  intro l' k listed S lU hkm hl hB h;have h0:ops[k]?=some o:=by simpa using(hl 0).symm
  have hlt:k<m:=by simp at hkm;omega
  have hk':decide (k<m)=true:=by simp[hlt]
  simp only[dm,aR,tL,hk',br]at hB;obtain⟨⟨hr,hf⟩,hB'⟩:=hB;have hr':k∈Region.ready .any ops listed:=by simpa using hr
  obtain⟨x,hy,hK⟩:=iO (HZ h);simp only[dm,aR];refine Sn h0 hk' (l++l').length listed S lU (λj oj hj hne hun=>Bs h0 hf j oj hj hne hun) hr' hy ?_;exact ih l' (k+1) _ _ (lU.set hr') (by simp at hkm;omega) (λj=>by have :=hl (j+1);simpa[fH,nQ 1 j]using this) hB' hK
theorem Ie (dJ:mS E.C call)(hY:eR E Y){id m:Nat}{K:aj->Prop}{Q:Exit->Act->World->Prop}(hQ:∀S a w,K S->nO E S a w->Q .normal a w)(hB:Ej ops m=true)(hs:nO E S a w)(h:Hv E.C ops (ops.toList.take m) (pI E.C call Y ops (ops.toList.drop m) K) S)(hm:m<=ops.size):(Code.region id ops true).wpIn E.jb 0 E.C.P Q a w:=by
 simp only[Ej,br]at hB;refine wpIn_region_any E.C.mixed (Sm dJ hY (q:=λi=>decide (i<m)) hQ _ _ _ _ _ (let⟨G,hs⟩:=hs;⟨G,hs.drew⟩) ?_);have hlen:(ops.toList.take m++ops.toList.drop m).length=ops.size:=by simp
 have :=YX (C:=E.C) (call:=call) (Y:=Y) (ops:=ops) (m:=m) (K:=K) (ops.toList.take m) (ops.toList.drop m) 0 (Array.replicate ops.size false) S ⟨by simp,λp o hp hl=>by have :p<ops.size:=(bq.1 hp).1;simp[this]at hl⟩ (by simp;omega) (λj=>by simp) (by rw[hlen];exact hB.2) h;rw[hlen]at this;exact this
theorem kA {pr:List Nat}{o k:Nat}(h:gM o pr=true)(hk:gM k pr=false):Nat.beq o k=false:=by cases hb:Nat.beq o k;rfl;rw[aM hb]at h;rw[h]at hk;cases hk
mutual theorem FV.oc {pr:List Nat}{k:Nat}(hk:gM k pr=false):∀{x:FV},x.safe pr=true->x.kill k=x
 |.p _,_=>rfl
 |.agg xs,h=>by simp only[FV.safe]at h;simp only[FV.kill,FV.tS hk h]
 |.eW xs,h=>by simp only[FV.safe]at h;simp only[FV.kill,FV.tS hk h]
 |.ptr o off,h=>by simp only[FV.safe]at h;simp only[FV.kill,kA h hk]
 |.fM t T e xs,h=>by simp only[FV.safe]at h;simp only[FV.kill,kA h hk]
 |.full _,_=>rfl
 |.fn f a b,h=>by simp only[FV.safe]at h;split at h;rename_i h1;simp only[FV.kill,FV.tS hk h1,FV.tS hk h];cases h
 |.lX l,h=>by simp only[FV.safe]at h;simp only[FV.kill,kA h hk]
 |.gd o T e,h=>by simp only[FV.safe]at h;simp only[FV.kill,kA h hk]
 |.uk o x T e,h=>by simp only[FV.safe]at h;simp only[FV.kill,kA h hk]
 |.gD o b off,h=>by simp only[FV.safe]at h;simp only[FV.kill,kA h hk]
 |.fG o,h=>by simp only[FV.safe]at h;simp only[FV.kill,kA h hk]
 |.zR o,h=>by simp only[FV.safe]at h;simp only[FV.kill,kA h hk]
 |.dR,_=>rfl theorem FV.tS {pr:List Nat}{k:Nat}(hk:gM k pr=false):∀{xs:List FV},FV.uz pr xs=true->FV.eD k xs=xs|[],_=>rfl|x::xs,h=>by simp only[FV.uz]at h;split at h;rename_i h1;simp only[FV.eD,FV.oc hk h1,FV.tS hk h];cases h end
structure Agree (pr:List Nat)(S S':aj):Prop where
 val:∀z:Operand,(S.val z).safe pr=true->S'.val z=S.val z
 aI:∀o cells,gM o pr=true->Qv.getObj S.aI o=some cells->∃cells',Qv.getObj S'.aI o=some cells'/\cells'.length=cells.length/\∀(i:Nat)(y:FV),cells[i]?=some y->y.safe pr=true->cells'[i]?=some y
theorem Agree.refl {pr:List Nat}(S:aj):Agree pr S S:=⟨λ_ _=>rfl,λo cells _ hc=>⟨cells,hc,rfl,λi y hi _=>hi⟩⟩
theorem Agree.trans {pr:List Nat}{S S' um:aj}(h:Agree pr S S')(h':Agree pr S' um):Agree pr S um:=by refine⟨λz hz=>?_,λo cells ho hc=>?_⟩;have :=h.val z hz;rw[h'.val z (by rw[this];exact hz),this];obtain⟨c1,h1,l1,h2⟩:=h.aI o cells ho hc;obtain⟨c2,h3,l2,h4⟩:=h'.aI o c1 ho h1;exact⟨c2,h3,l2.trans l1,λi y hi hy=>h4 i y (h2 i y hi hy) hy⟩
theorem YY (S:aj)(k:Nat)(z:Operand):(S.kill k).val z=(S.val z).kill k\/(S.val z).kill k=(S.kill k).val z:=by
 left;cases z with
 |tmp t=>simp only[aj.val,aj.get,aj.kill];split<;>rfl
 |const v=>
  simp only[aj.val];have h1:∀u:Value,(FV.gv u).kill k=FV.gv u:=λu=>by unfold FV.gv;split<;>rfl
  unfold FV.Ol;split;simp only[FV.kill,FV.fB,fL];congr 1;exact(dZ λu _=>(h1 u)).symm;rfl;exact(h1 _).symm
 |func f=>rfl
 |global g=>simp only[aj.val];split<;>rfl
theorem Pu {d o:Nat}:∀{l:List (Nat×List FV)}{cs:List FV},o≠d->Qv.getObj l o=some cs->Qv.getObj (eA d l) o=some (FV.eD d cs):=by
 intro l;induction l with
 |nil=>intro cs _ h;cases h
 |cons p l ih=>
  obtain⟨u,i⟩:=p;intro cs hne h;simp only[Qv.getObj]at h;simp only[eA];split at h;rename_i hb;obtain rfl:=aM hb;obtain rfl:=au h;have :Nat.beq u d=false:=by cases hb:Nat.beq u d;rfl;exact absurd (aM hb) hne
  rw[this];simp[Qv.getObj];rename_i hb;split;exact ih hne h;simp only[Qv.getObj,hb];exact ih hne h
theorem Agree.kill {pr:List Nat}(S:aj){k:Nat}(hk:gM k pr=false):Agree pr S (S.kill k):=by refine⟨λz hz=>?_,λo cells ho hc=>?_⟩;rcases YY S k z with h|h;rw[h,FV.oc hk hz];rw[<-h,FV.oc hk hz];refine⟨_,Pu (λe=>by rw[e,hk]at ho;cases ho) hc,by rw[FV.fB,ah],λi y hi hy=>?_⟩;rw[FV.fB,aN,hi];simp[FV.oc hk hy]
theorem MO {ob o:Nat}{c:List FV}:∀{l:List (Nat×List FV)},o≠ob->Qv.getObj (setObj l ob c) o=Qv.getObj l o:=by
 intro l hne;induction l with
 |nil=>rfl
 |cons p l ih=>
  obtain⟨u,i⟩:=p;simp only[setObj];split;rename_i hb;obtain rfl:=aM hb;have :Nat.beq u o=false:=by cases hb:Nat.beq u o;rfl;exact absurd (aM hb).symm hne
  simp only[Qv.getObj,this];simp only[Qv.getObj,ih]
theorem Agree.Cj {pr:List Nat}(S:aj){ob:Nat}(c:List FV)(hk:gM ob pr=false):Agree pr S (S.Cj ob c):=⟨λz _=>by cases z<;>rfl,λo cells ho hc=>⟨cells,by show Qv.getObj (setObj S.aI ob c) o=_;rw[MO (λe=>by rw[e,hk]at ho;cases ho)];exact hc,rfl,λi y hi _=>hi⟩⟩
theorem Agree.YZ {pr:List Nat}(S:aj){d:Nat}(c:List FV)(hk:gM d pr=false):Agree pr S {S with aI:=(d,c)::S.aI}:=⟨λz _=>by cases z<;>rfl,λo cells ho hc=>⟨cells,by
 have :Nat.beq d o=false:=by cases hb:Nat.beq d o;rfl;rw[aM hb,ho]at hk;cases hk
 simp only[Qv.getObj,this];exact hc,rfl,λi y hi _=>hi⟩⟩
theorem Agree.iX {pr:List Nat}(S:aj)(b:List (Nat×List UInt8)):Agree pr S {S with cT:=b}:=⟨λz _=>by cases z<;>rfl,λo cells ho hc=>⟨cells,hc,rfl,λi y hi _=>hi⟩⟩
def gT (C:Ctx)(ops:Array Oper)(pr:List Nat)(o:Oper)(x:FV)(S:aj):Prop:=(jk ops S o=some true/\(eH C S o.op λu=>u=x)/\xL pr S o.op x=true)\/(jk ops S o=some false/\x=Ex)
theorem gT.yA {pr:List Nat}{x:FV}(h:gT C ops pr o x S):jQ C ops o x S:=h.imp (λh=>⟨h.1,h.2.1⟩) id
theorem tU {pr:List Nat}{op:Op}{x:FV}(h:xL pr S op x=true):(∃zs,opsL op=some zs/\∀z,z∈zs->(S.val z).safe pr=true)/\x.safe pr=true:=by
 unfold xL at h;split at h;cases h;rename_i zs hz;split at h;rename_i hs;refine⟨⟨zs,hz,?_⟩,h⟩;clear hz;induction zs with
 |nil=>simp
 |cons y ys ih=>simp only[yq]at hs;split at hs;rename_i hy;intro z hz;rcases aK.1 hz with rfl|hz;exact hy;exact ih hs z hz;cases hs
 cases h
theorem Ig {pr:List Nat}{op:Op}{x:FV}{zs:List Operand}(h:opsL op=some zs)(hz:∀z,z∈zs->(S.val z).safe pr=true)(hx:x.safe pr=true):xL pr S op x=true:=by
 unfold xL;rw[h];have :yq pr S zs=true:=by
  clear h;induction zs with
  |nil=>rfl
  |cons y ys ih=>simp only[yq,hz y iN];exact ih λz h=>hz z (cR _ h)
 simp only[this];exact hx
theorem gT.safe {pr:List Nat}{x:FV}(h:gT C ops pr o x S):x.safe pr=true:=by rcases h with h|⟨-,rfl⟩;exact(tU h.2.2).2;rfl
theorem Pv {op:Op}{zs:List Operand}(h:opsL op=some zs):∀z,z∈zs->z∈op.operands:=by
 intro z hz;unfold opsL at h;split at h;all_goals cases h
 all_goals simp[Op.operands,Call.operands]at hz⊢
 all_goals exact hz
theorem Za {op:Op}{zs:List Operand}(h:opsL op=some zs):∀z,z∈op.operands->z∈zs:=by
 intro z hz;unfold opsL at h;split at h;all_goals cases h
 all_goals simp[Op.operands,Call.operands]at hz⊢
 all_goals exact hz
theorem VZ {pr:List Nat}{x:FV}{dst:Option Nat}{v:FV}(h:∀d,dst=some d->d∉o.looksAt ops)(hs:xL pr S o.op x=true):xL pr (S.put dst v) o.op x=true:=by obtain⟨⟨zs,h1,h2⟩,h3⟩:=tU hs;refine Ig h1 (λz hz=>?_) h3;rw[aj.wQ λd hd hzd=>h d hd (by subst hzd;exact jj _ (wR.2 ⟨.tmp d,by simpa using Pv h1 _ hz,rfl⟩))];exact h2 z hz
theorem Pw {pr:List Nat}{x:FV}{dst:Option Nat}{v:FV}(h:∀d,dst=some d->d∉o.looksAt ops)(hs:xL pr (S.put dst v) o.op x=true):xL pr S o.op x=true:=by obtain⟨⟨zs,h1,h2⟩,h3⟩:=tU hs;refine Ig h1 (λz hz=>?_) h3;have :=h2 z hz;rw[aj.wQ λd hd hzd=>h d hd (by subst hzd;exact jj _ (wR.2 ⟨.tmp d,by simpa using Pv h1 _ hz,rfl⟩))]at this;exact this
theorem gT.put {pr:List Nat}{x:FV}(hy:gT C ops pr o x S){dst:Option Nat}{v:FV}(h:∀d,dst=some d->d∉o.looksAt ops):gT C ops pr o x (S.put dst v):=by unfold gT at*;rw[rR h,sO h];exact hy.imp (λq=>⟨q.1,q.2.1,VZ h q.2.2⟩) id
theorem gT.Uq {pr:List Nat}{x:FV}{dst:Option Nat}{v:FV}(hy:gT C ops pr o x (S.put dst v))(h:∀d,dst=some d->d∉o.looksAt ops):gT C ops pr o x S:=by unfold gT at*;rw[rR h,sO h]at hy;exact hy.imp (λq=>⟨q.1,q.2.1,Pw h q.2.2⟩) id
theorem yT {pr:List Nat}:∀(n:Nat){xs xs' cs:List FV},takeN n xs=some cs->FV.uz pr cs=true->(∀(i:Nat)(y:FV),xs[i]?=some y->y.safe pr=true->xs'[i]?=some y)->takeN n xs'=some cs
 |0,xs,xs',cs,h,_,_=>h
 |n+1,[],xs',cs,h,_,_=>by simp[takeN]at h
 |n+1,x::xs,xs',cs,h,hs,ha=>by
  simp only[takeN]at h;split at h;rename_i ys hys;obtain rfl:=au h;simp only[FV.uz]at hs;split at hs;rename_i hx;have h0:=ha 0 x rfl hx;cases xs' with
  |nil=>simp at h0
  |cons x' xs'=>
   simp at h0;subst h0;have :=yT n (xs:=xs) (xs':=xs') hys hs λi y hi hy=>by simpa using ha (i+1) y (by simpa using hi) hy
   simp only[takeN,this]
  cases hs;cases h
theorem Ey {α:Type}:∀(n:Nat)(xs:List α)(i:Nat),(gh n xs)[i]?=xs[n+i]?
 |0,xs,i=>by simp[gh]
 |n+1,[],i=>by simp[gh]
 |n+1,x::xs,i=>by rw[gh,Ey n xs i,show n+1+i=(n+i)+1 by omega];simp
theorem MP {pr:List Nat}{S':aj}(h:Agree pr S S'){t:TypeId}{v x:FV}(hv:v.safe pr=true)(hx:x.safe pr=true)(he:nu C S.aI t v λu=>u=x):nu C S'.aI t v λu=>u=x:=by
 unfold nu at he⊢;cases hi:bO C.iZ t with
 |none=>rw[hi]at he;exact he.elim
 |some i=>
  rw[hi]at he;simp only at he⊢;cases v with
  |ptr o off=>
   simp only at he⊢;cases hc:Qv.getObj S.aI o with
   |none=>rw[hc]at he;exact he.elim
   |some cells=>
    rw[hc]at he;obtain⟨cells',h1,hl,h2⟩:=h.aI o cells hv hc;rw[h1];simp only at he⊢;have hd:∀(i:Nat)(y:FV),(gh off cells)[i]?=some y->y.safe pr=true->(gh off cells')[i]?=some y:=λi y hi hy=>by rw[Ey]at hi⊢;exact h2 _ y hi hy
    cases hag:i.shape.isAgg with
    |true=>
     rw[hag]at he;simp only at he⊢;cases hcs:takeN i.size (gh off cells)with
     |none=>rw[hcs]at he;exact he.elim
     |some cs=>rw[hcs]at he;simp only at he;subst he;rw[yT _ hcs hx hd]
    |false=>
     rw[hag]at he;simp only at he⊢;cases hys:gh off cells with
     |nil=>rw[hys]at he;exact he.elim
     |cons y ys=>
      rw[hys]at he;simp only at he;subst he;have :=hd 0 y (by rw[hys];rfl) hx;cases hq:gh off cells' with
      |nil=>rw[hq]at this;simp at this
      |cons z zs=>rw[hq]at this;simpa using this
  |gD o base off=>
   simp only at he⊢;cases hc:Qv.getObj S.aI o with
   |none=>rw[hc]at he;exact he.elim
   |some cells=>
    rw[hc]at he;obtain⟨cells',h1,hl,h2⟩:=h.aI o cells hv hc;rw[h1];simp only at he⊢;obtain⟨A,ys,B,rfl,hA,he⟩:=he;have hlen:cells'.length=A.length+(ys.length+B.length):=by simpa using hl
    refine⟨cells'.take A.length,(cells'.drop A.length).take ys.length,(cells'.drop A.length).drop ys.length,by rw[dI,dI],by rw[aL,<-hA];omega,?_⟩;have hd:∀(i:Nat)(y:FV),(gh off ys)[i]?=some y->y.safe pr=true->(gh off ((cells'.drop A.length).take ys.length))[i]?=some y:=λi y hi hy=>by rw[Ey]at hi⊢;have hlt:=(aJ.1 hi).1;rw[CL hlt,gY];refine h2 _ y ?_ hy;rw[dH oO,cG oO,<-hi];congr 1;omega
    cases hag:i.shape.isAgg with
    |true=>
     rw[hag]at he;simp only at he⊢;cases hcs:takeN i.size (gh off ys)with
     |none=>rw[hcs]at he;exact he.elim
     |some cs=>rw[hcs]at he;simp only at he;subst he;rw[yT _ hcs hx hd]
    |false=>
     rw[hag]at he;simp only at he⊢;cases hys:gh off ys with
     |nil=>rw[hys]at he;exact he.elim
     |cons y zs=>
      rw[hys]at he;simp only at he;subst he;have :=hd 0 y (by rw[hys];rfl) hx;cases hq:gh off ((cells'.drop A.length).take ys.length)with
      |nil=>rw[hq]at this;simp at this
      |cons z zs=>rw[hq]at this;simpa using this
  |p y=>cases y<;>first|exact he|exact he.elim
  |_=>exact he.elim
theorem CZ {pr:List Nat}{S':aj}(h:Agree pr S S'){t:TypeId}{v i:FV}{K:FV->Prop}(hv:v.safe pr=true)(he:js C S.aI t v i K):js C S'.aI t v i K:=by
 unfold js at he⊢;split at he;rename_i k n;split at he;split at he;exact he.elim;rename_i j hj;try simp only[hj]
 split at he;rename_i o T bM;split at he;rename_i cells hc hb;obtain⟨cells',h1,hl,-⟩:=h.aI o cells hv hc;rw[h1];simp only[hb];obtain⟨m,base,e1,e2,e3,e4⟩:=he;exact⟨m,base,e1,e2,oO,e4⟩;exact he.elim;rename_i o bx T bM;split at he;rename_i cells hc hb;obtain⟨cells',h1,hl,-⟩:=h.aI o cells hv hc;rw[h1];simp only[hb];obtain⟨m,base,e1,e2,e3,e4⟩:=he;exact⟨m,base,e1,e2,oO,e4⟩;exact he.elim;exact he;exact he;exact he;exact he
theorem Ez {pr:List Nat}{S':aj}(h:Agree pr S S'){b:Builtin}{args:List FV}{types:List TypeId}{K:FV->Prop}(hv:∀v,v∈args->v.safe pr=true)(he:jI C S.aI b args types K):jI C S'.aI b args types K:=by unfold jI at he⊢;split at he;split at he;split at he;exact he;exact he;split at he;rename_i o T bM;split at he;rename_i cells hc;obtain⟨cells',h1,hl,-⟩:=h.aI o cells (hv (.gd o T bM) (by simp)) hc;rw[h1];obtain⟨n,e1,e2⟩:=he;exact⟨n,oO,e2⟩;exact he.elim;rename_i o bx T bM;split at he;rename_i cells hc;obtain⟨cells',h1,hl,-⟩:=h.aI o cells (hv (.uk o bx T bM) (by simp)) hc;rw[h1];obtain⟨n,e1,e2⟩:=he;exact⟨n,oO,e2⟩;exact he.elim;exact he;exact he;exact he;exact he;exact he;exact he
theorem Px {pr:List Nat}{S':aj}(h:Agree pr S S'){op:Op}{x:FV}(hs:xL pr S op x=true)(he:eH C S op λu=>u=x):eH C S' op λu=>u=x:=by
 obtain⟨⟨zs,h1,h2⟩,h3⟩:=tU hs;have hv:∀z,z∈zs->S'.val z=S.val z:=λz hz=>h.val z (h2 z hz);have gen:∀S2:aj,(∀z,z∈op.operands->S2.val z=S.val z)->S2.aI=S.aI->eH C S2 op (λu=>u=x):=λS2 a b=>by rw[Fx a b (λ_ _ _ _ e=>by subst e;cases h1) (λ_ e=>by subst e;cases h1)];exact he
 by_cases hl:∃t a,op=.load t a;obtain⟨t,a,rfl⟩:=hl;simp only[opsL,bN]at h1;subst h1;have ha:=h2 a (by simp);simp only[eH]at he⊢;rw[hv a (by simp)];exact MP h ha h3 he;by_cases Gp:∃t a i,op=.indexAddr t a i;obtain⟨t,a,i,rfl⟩:=Gp;simp only[opsL,bN]at h1;subst h1;have ha:=h2 a (by simp);simp only[eH]at he⊢;rw[hv a (by simp),hv i (by simp)];exact CZ h ha he;by_cases hl3:∃b args types,op=.call ⟨.builtin b,args,types⟩;obtain⟨b,args,types,rfl⟩:=hl3;simp only[opsL,bN]at h1;subst h1;simp only[eH]at he⊢;have ha:args.toList.map S'.val=args.toList.map S.val:=dZ λz hz=>hv z hz;rw[ha];exact Ez h (λv VR=>by obtain⟨z,hz,rfl⟩:=aC.1 VR;exact h2 z hz) he;have hall:=Za h1;have :=gen {S' with aI:=S.aI} (λz hz=>by have :=hv z (hall z hz);cases z<;>exact this) rfl;cases op;case slice t x lo hi mx=>
  cases mx with
  |none=>exact this
  |some m=>cases h1
 case load t a=>exact absurd ⟨t,a,rfl⟩ hl
 case indexAddr t a i=>exact absurd ⟨t,a,i,rfl⟩ Gp
 case call c=>
  obtain⟨callee,args,types⟩:=c;cases callee with
  |builtin b=>exact absurd ⟨b,args,types,rfl⟩ hl3
  |_=>exact this
 case build t parts=>simp only[opsL,bN]at h1;subst h1;exact(Fw (λp hp=>hv p.2 (sS hp))).mpr he
 case buildSlice t len parts=>simp only[opsL,bN]at h1;subst h1;exact(vB (λp hp=>hv p.2 (sS hp))).mpr he
 all_goals exact this
theorem AP {pr:List Nat}{S':aj}(h:Agree pr S S'){b:Bool}(hw:jk ops S o=some b):jk ops S' o=some b:=by
 unfold jk at*;split at hw;exact hw;rename_i j want hg;split at hw;cases hw;rename_i d hd;have key:∀y:AV,S.get d=.p y->S'.get d=.p y:=λy hy=>by have :=h.val (.tmp d) (by show(S.get d).safe pr=true;rw[hy];rfl);exact this.trans hy
 split at hw;rename_i c hc;rw[key _ hc];exact hw;rename_i hc;rw[key _ hc];exact hw;cases hw
theorem gT.agree {pr:List Nat}{S':aj}(h:Agree pr S S'){x:FV}(hy:gT C ops pr o x S):gT C ops pr o x S':=by rcases hy with⟨h1,h2,h3⟩|⟨h1,h2⟩;refine .inl ⟨AP h h1,Px h h3 h2,?_⟩;obtain⟨⟨zs,q1,q2⟩,q3⟩:=tU h3;exact Ig q1 (λz hz=>by rw[h.val z (q2 z hz)];exact q2 z hz) q3;exact .inr ⟨AP h h1,h2⟩
def Zb (C:Ctx)(ops:Array Oper)(pr:List Nat)(o:Oper)(K:aj->Prop)(S:aj):Prop:=∃x,gT C ops pr o x S/\K (S.put o.dst x)
def Fz (C:Ctx)(call:iQ)(Y:pH)(ops:Array Oper)(pr:List Nat)(o:Oper)(K:aj->Prop)(S:aj):Prop:=match jk ops S o with|some true=>oI C.ex.inl pr S o.dst o.op=true/\Gk C call Y o K S|some false=>K (S.put o.dst Ex)|none=>False
theorem Wa {pr:List Nat}{K:aj->Prop}(h:afI C ops pr o K S):Zb C ops pr o K S:=by
 unfold afI at h;unfold Zb gT jk;split at h;rename_i hg;rw[hg];obtain⟨v,h1,h2,h3⟩:=h;exact⟨v,.inl ⟨by first|rfl|trivial,h1,h2⟩,h3⟩;rename_i j want hg;rw[hg];split at h;exact h.elim;rename_i d hd;simp only[hd];split at h;rename_i b hb;rw[oH]at h;simp only[hb];cases Ec:(b==want)with
 |true=>rw[Ec]at h;obtain⟨v,h1,h2,h3⟩:=h;exact⟨v,.inl ⟨by first|rfl|trivial,h1,h2⟩,h3⟩
 |false=>rw[Ec]at h;exact⟨_,.inr ⟨by first|rfl|trivial,rfl⟩,h⟩
 rename_i hb;simp only[hb];exact⟨_,.inr ⟨by first|rfl|trivial,rfl⟩,h⟩;exact h.elim
theorem Wb {pr:List Nat}{K:aj->Prop}(h:afJ C call Y ops pr o K S):Fz C call Y ops pr o K S:=by
 unfold afJ at h;unfold Fz jk;split at h;rename_i hg;rw[hg];exact h;rename_i j want hg;rw[hg];split at h;exact h.elim;rename_i d hd;simp only[hd];split at h;rename_i b hb;rw[oH]at h;simp only[hb];cases Ec:(b==want)with
 |true=>rw[Ec]at h;exact h
 |false=>rw[Ec]at h;exact h
 rename_i hb;simp only[hb];exact h;exact h.elim
theorem rS {dst:Option Nat}{x:FV}{k:Nat}(hx:x.kill k=x):(S.put dst x).kill k=(S.kill k).put dst x:=by
 cases dst with
 |none=>rfl
 |some d=>simp only[aj.put,aj.kill];congr 1;funext i;split;exact hx;rfl
theorem Wc {pr:List Nat}{oi oj:Oper}{x:FV}(hap:oi.apart ops oj=true){K:aj->Prop}(hy:gT C ops pr oi x S)(h:Fz C call Y ops pr oj K (S.put oi.dst x)):Fz C call Y ops pr oj (λS1=>gT C ops pr oi x S1/\K (S1.put oi.dst x)) S:=by
 obtain⟨h1,h2,h3⟩:=Oper.apart_spec hap;have hxs:=hy.safe;unfold Fz at*;rw[rR h1]at h;split at h;obtain⟨hh,he⟩:=h;have hval:∀z,z∈oj.op.operands->(S.put oi.dst x).val z=S.val z:=λz hz=>aj.wQ λd hd hzd=>h1 d hd (by subst hzd;exact jj _ (wR.2 ⟨.tmp d,by simpa using hz,rfl⟩));have hoff:(S.put oi.dst x).off=S.off:=by cases oi.dst<;>rfl
 have OZ:(S.put oi.dst x).aI=S.aI:=aj.Pt;have hbl:(S.put oi.dst x).cT=S.cT:=by cases oi.dst<;>rfl
 have fin:∀(S1 S2:aj)(v:FV),Agree pr S S1->S2=S1.put oi.dst x->K (S2.put oj.dst v)->gT C ops pr oi x (S1.put oj.dst v)/\K ((S1.put oj.dst v).put oi.dst x):=λS1 S2 v ha e hk=>by refine⟨(hy.agree ha).put h3,?_⟩;rw[<-aj.put_comm h2,<-e];exact hk
 cases hop:oj.op with
 |alloc t=>
  rw[hop]at hh;simp only[Gk,hop]at he⊢;simp only[oI]at hh⊢;split at he;rename_i d inf hd CK;rw[hd]at hh;rw[hoff]at hh;simp only[dY]at hh;simp only[hd,CK];refine⟨by simpa using hh,?_⟩;have hk:=FV.oc hh hxs;split at he;rename_i hb hz;try simp only[hb,hz]
  have :=fin {S.kill (S.off+d)with cT:=(S.off+d,[])::Ch (S.off+d) S.cT} {(S.put oi.dst x).kill (S.off+d)with cT:=(S.off+d,[])::Ch (S.off+d) S.cT} (.ptr (S.off+d) 0) ((Agree.kill S hh).trans (Agree.iX _ _)) (by rw[rS hk];cases oi.dst<;>rfl);rw[hd]at this;rw[Hs]at he⊢;unfold RH at*;rw[hoff,hbl]at he;exact⟨he.1,this he.2⟩;rename_i hno;rw[jX,wh]at he;rw[jX,wh];unfold newObj at*;rw[hoff,OZ]at he;have :=fin {S.kill (S.off+d)with aI:=(S.off+d,FV.eD (S.off+d) (inf.zero.map FV.gv))::eA (S.off+d) S.aI} {(S.put oi.dst x).kill (S.off+d)with aI:=(S.off+d,FV.eD (S.off+d) (inf.zero.map FV.gv))::eA (S.off+d) S.aI} (.ptr (S.off+d) 0) ((Agree.kill S hh).trans (Agree.YZ (S.kill (S.off+d)) _ hh)) (by rw[rS hk];cases oi.dst<;>rfl);rw[hd]at this;exact⟨he.1,this he.2⟩;exact he.elim
 |store t p z=>
  rw[hop]at hh hval;have hp:=hval p (by simp[Op.operands]);have hz:=hval z (by simp[Op.operands]);simp only[Gk,hop,hz,hp,OZ]at he⊢;simp only[oI,hp]at hh⊢;split at he;rename_i inf ob off CK vj;rw[vj]at hh;simp only[dY]at hh;simp only[CK,vj];refine⟨by simpa using hh,?_⟩;split at he;exact he.elim;rename_i cells hc;try simp only[hc]
  split at he;rename_i hb;try simp only[hb]
  split at he;rename_i Cg;try simp only[Cg]
  split at he;rename_i cs hcs;try simp only[hcs]
  rw[jX]at he⊢;have :=fin (S.Cj ob cs) ((S.put oi.dst x).Cj ob cs) (.p (.eW [])) (Agree.Cj S cs hh) (by unfold aj.Cj;cases oi.dst<;>rfl);exact this he;exact he.elim;exact he.elim;exact he.elim;rename_i vj;rw[vj]at hh;simp at hh;exact he.elim
 |call c=>
  obtain⟨callee,args,types⟩:=c;cases callee with
  |value f=>
   rw[hop]at hh hval;have hf:=hval f (by simp[Op.operands,Call.operands]);have hargs:args.toList.map (S.put oi.dst x).val=args.toList.map S.val:=dZ λz hz=>hval z (by simp[Op.operands,Call.operands];simp_all);simp only[Gk,hop,hf,hargs]at he⊢;simp only[oI,hf,hargs]at hh⊢;split at hh;rename_i g first captured hfv;rw[hfv]at he⊢;split at hh;rename_i xs d hg ahP hd;rw[hoff]at hh;simp only[hg,ahP,hd];simp only[dY]at hh;have hk:=FV.oc hh hxs;simp only[RI,hg,ahP]at he⊢;obtain⟨R,hc,hr⟩:=he;refine⟨by simpa using hh,R,hc,λr hrr=>?_⟩;have h:=hr r hrr;rw[hd]at h;cases r with
   |val y=>have :=fin S (S.put oi.dst x) (.p y) (Agree.refl S) rfl;rw[hd]at this;exact this h
   |vf y=>have :=fin S (S.put oi.dst x) y (Agree.refl S) rfl;rw[hd]at this;exact this h
   |fresh T bM ys=>simp only[JQ,lD,hoff]at h⊢;have :=fin (S.kill (S.off+d)) ((S.put oi.dst x).kill (S.off+d)) (.fM (S.off+d) T bM ys) (Agree.kill S hh) (rS hk);rw[hd]at this;exact this h
   |own rest T bM qK=>simp only[JQ,jH,hoff,OZ]at h⊢;obtain⟨q1,zs,q2,q3⟩:=h;have :=fin {S.kill (S.off+d)with aI:=(S.off+d,zs)::eA (S.off+d) S.aI} {(S.put oi.dst x).kill (S.off+d)with aI:=(S.off+d,zs)::eA (S.off+d) S.aI} (acw rest (.gd (S.off+d) T bM)) ((Agree.kill S hh).trans (Agree.YZ (S.kill (S.off+d)) _ hh)) (by rw[rS hk];cases oi.dst<;>rfl);rw[hd]at this;exact⟨q1,zs,q2,this q3⟩
   cases hh;cases hh
  |invoke r m=>rw[hop]at hh;simp[oI]at hh
  |builtin b=>
   cases b<;>try (rw[hop]at hh;simp[oI]at hh;done)
   rw[hop]at hh hval;have hargs:args.toList.map (S.put oi.dst x).val=args.toList.map S.val:=dZ λz hz=>hval z (by simp[Op.operands,Call.operands];simpa using hz);simp only[Gk,hop,hargs]at he⊢;simp only[oI,hargs]at hh⊢;split at he;rename_i a b t u d ha ht hd;rw[ha,hd]at hh;simp only at hh;rw[hoff]at hh;simp only[ha,ht,hd];refine⟨by simpa using hh,?_⟩;split at he;cases hh;replace hh:KH pr (S.off+d) a=true:=by split at hh;cases hh;exact hh
   have app:tI C t u d (S.put oi.dst x) a b K->tI C t u d S a b (λS'=>gT C ops pr oi x S'/\K (S'.put oi.dst x)):=λhe=>by
    unfold tI at he⊢;split at he;rename_i b1 b2 e b3 b4 hti hui;simp only[hti,hui];split at he;exact he.elim;rename_i Sq;try simp only[Sq]
    split at he;exact he.elim;rename_i j hj;try simp only[hj]
    split at he;exact he.elim;rename_i ys hys;try simp only[hys]
    cases a with
    |fM k T bM xs=>
     simp only[KH]at hh he⊢;simp only[dY]at hh;have hk:=FV.oc hh hxs;split at he;rename_i e1 e2 e3;try simp only[e1,e2,e3]
     obtain⟨q1,q2,q3,zs,q4,q5⟩:=he;have :=fin (S.kill k) ((S.put oi.dst x).kill k) (.fM k T bM zs) (Agree.kill S hh) (rS hk);rw[hd]at this;exact⟨q1,q2,q3,zs,q4,this q5⟩;exact he.elim
    |full xs=>
     simp only[KH]at hh;simp only[dY]at hh;have hk:=FV.oc hh hxs;cases xs with
     |nil=>
      simp only at he⊢;split at he;rename_i e1;try simp only[e1]
      obtain⟨q1,q2,q3⟩:=he;rw[lD,hoff]at q3;rw[lD];have :=fin (S.kill (S.off+d)) ((S.put oi.dst x).kill (S.off+d)) (.fM (S.off+d) e j.size ys) (Agree.kill S hh) (rS hk);rw[hd]at this;exact⟨q1,q2,this q3⟩;exact he.elim
     |cons z zs=>
      simp only at he⊢;split at he;rename_i e1;try simp only[e1]
      obtain⟨q1,q2,q3,q4,q5⟩:=he;rw[lD,hoff]at q5;rw[lD];obtain⟨zs',q6,q7⟩:=q5;have :=fin (S.kill (S.off+d)) ((S.put oi.dst x).kill (S.off+d)) (.fM (S.off+d) e j.size zs') (Agree.kill S hh) (rS hk);rw[hd]at this;exact⟨q1,q2,q3,q4,zs',q6,this q7⟩;exact he.elim
    |_=>first|(simp[KH]at hh;done)|exact he.elim
    exact he.elim
   unfold RN at he⊢;split at he;rename_i KP;try simp only[KP]
   cases a with
   |full xs=>
    cases xs with
    |cons z zs=>exact app he
    |nil=>
     simp only[KH]at hh he⊢;simp only[dY]at hh;have hk:=FV.oc hh hxs;unfold Ms at he⊢;split at he;rename_i b1 b2 e b3 b4 hti hui;simp only[hti,hui];split at he;exact he.elim;rename_i Sq;try simp only[Sq]
     split at he;exact he.elim;rename_i j hj;try simp only[hj]
     split at he;rename_i ys v1 v2 v3;try simp only[v1,v2,v3]
     obtain⟨q1,q2,q3,q5⟩:=he;rw[jH,hoff]at q5;rw[jH];obtain⟨q8,zs,q6,q7⟩:=q5;have :=fin {S.kill (S.off+d)with aI:=(S.off+d,zs)::eA (S.off+d) S.aI} {(S.put oi.dst x).kill (S.off+d)with aI:=(S.off+d,zs)::eA (S.off+d) S.aI} (.gd (S.off+d) e j.size) ((Agree.kill S hh).trans (Agree.YZ (S.kill (S.off+d)) _ hh)) (by rw[rS hk];cases oi.dst<;>rfl);rw[hd]at this;rw[OZ]at q7;exact⟨q1,q2,q3,q8,zs,q6,this q7⟩;exact he.elim;exact he.elim
   |_=>exact app he
   rename_i KP;try simp only[KP]
   exact app he;exact he.elim
 |_=>rw[hop]at hh;simp[oI]at hh
 rename_i hw;refine⟨hy.put h3,?_⟩;rw[<-aj.put_comm h2];exact h;exact h.elim
def sx (C:Ctx)(call:iQ)(Y:pH)(ops:Array Oper)(c:rO)(i:Nat)(K:aj->Prop)(S:aj):Prop:=match ops[i]?with|none=>K S|some o=>match c.of i with|0=>lH C ops o K S|1=>Zb C ops c.pr o K S|2=>∃K':aj->Prop,Fz C call Y ops c.pr o K' S/\∀S',K' S'->K S'|_=>∃K':aj->Prop,Fy C call Y ops o K' S/\∀S',K' S'->K S'
def Kb (C:Ctx)(call:iQ)(Y:pH)(ops:Array Oper)(c:rO)(K:aj->Prop):Nat->Array Bool->aj->Prop|0,listed,S=>Region.ready .any ops listed=[]/\K S|fuel+1,listed,S=>(Region.ready .any ops listed=[]->K S)/\∀i∈Region.ready .any ops listed,sx C call Y ops c i (Kb C call Y ops c K fuel (listed.setIfInBounds i true)) S
theorem acW {pr:List Nat}{K:aj->Prop}(h:Fz C call Y ops pr o K S):Fy C call Y ops o K S:=by
 unfold Fz at h;unfold Fy;split at h;rename_i hw;first|exact h.2|(rw[hw];exact h.2)
 rename_i hw;first|exact h|(rw[hw];exact h)
 exact h.elim
theorem Ih (dJ:mS E.C call)(hY:eR E Y){c:rO}{K:aj->Prop}{Q:Exit->Act->World->Prop}(hQ:∀S a w,K S->nO E S a w->Q .normal a w):∀(fuel:Nat)(listed:Array Bool)(S:aj)(a:Act)(w:World),nO E S a w->Kb E.C call Y ops c K fuel listed S->wpAnyIn E.jb 0 E.C.P .any ops Q fuel listed a w:=by
 intro fuel;induction fuel with
 |zero=>intro listed S a w hs h;exact⟨h.1,hQ _ _ _ h.2 hs⟩
 |succ fuel ih=>intro listed S a w hs h;refine⟨λh0=>hQ _ _ _ (h.1 h0) hs,λi hi=>?_⟩;have h2:=h.2 i hi;unfold sx at h2;unfold wpOpIn;split at h2;rename_i ho;simp only[ho];exact ih _ _ _ _ hs h2;rename_i o ho;simp only[ho];split at h2;exact uG hs h2 λS a w hk hs'=>ih _ _ _ _ hs' hk;obtain⟨x,hy,hK⟩:=h2;exact uG hs (hy.yA.lH hK) λS a w hk hs'=>ih _ _ _ _ hs' hk;obtain⟨K',h3,h4⟩:=h2;exact yS dJ hY hs (acW h3) λS a w hk hs'=>ih _ _ _ _ hs' (h4 _ hk);obtain⟨K',h3,h4⟩:=h2;exact yS dJ hY hs h3 λS a w hk hs'=>ih _ _ _ _ hs' (h4 _ hk)
def xP (C:Ctx)(ops:Array Oper)(c:rO)(i:Nat)(o:Oper)(x:FV)(S:aj):Prop:=match c.of i with|0=>jQ C ops o x S|_=>gT C ops c.pr o x S
theorem Wd {c:rO}{i j:Nat}{oi oj:Oper}{x:FV}(hj:ops[j]?=some oj)(hi1:c.of i<=1)(hjc:c.of j<=c.of i+1)(hap:oi.apart ops oj=true){K:aj->Prop}(hy:xP C ops c i oi x S)(h:sx C call Y ops c j K (S.put oi.dst x)):sx C call Y ops c j (λS'=>xP C ops c i oi x S'/\K (S'.put oi.dst x)) S:=by
 obtain⟨h1,h2,h3⟩:=Oper.apart_spec hap;have ahQ:∀{S:aj}{v:FV},xP C ops c i oi x S->xP C ops c i oi x (S.put oj.dst v):=λ{S v} hk=>by
  unfold xP at*;split;rename_i he;simp only[he]at hk;exact hk.put h3;rename_i he;have :gT C ops c.pr oi x S:=by split at hk;rename_i he2;exact absurd he2 he;exact hk
  exact this.put h3
 unfold sx at*;simp only[hj]at h⊢;split at h;obtain⟨u,hu,hK⟩:=iO h;refine(hu.Uq h1).lH ⟨ahQ hy,?_⟩;rw[<-aj.put_comm h2];exact hK;obtain⟨u,hu,hK⟩:=h;refine⟨u,hu.Uq h1,ahQ hy,?_⟩;rw[<-aj.put_comm h2];exact hK;rename_i hc2;have hi:c.of i=1:=oO
 have hyc:gT C ops c.pr oi x S:=by unfold xP at hy;simp only[hi]at hy;exact hy
 obtain⟨K',h4,h5⟩:=h;refine⟨_,Wc hap hyc h4,λS' h'=>⟨?_,h5 _ h'.2⟩⟩;unfold xP;simp only[hi];exact h'.1;rename_i n0 n1 n2;exfalso;have :c.of j<=2:=oO
 have :c.of j=0\/c.of j=1\/c.of j=2:=oO
 rcases this with e|e|e;exact n0 e;exact n1 e;exact n2 e
theorem Sr {c:rO}{K:aj->Prop}{i:Nat}{oi:Oper}{x:FV}(hi:ops[i]?=some oi)(hi1:c.of i<=1):∀(fuel:Nat)(listed:Array Bool)(S:aj),qS ops listed->(∀j oj,ops[j]?=some oj->j≠i->listed.getD j true=false->tK ops ops.size j i=true\/(c.of j<=c.of i+1/\oi.apart ops oj=true))->i∈Region.ready .any ops listed->xP C ops c i oi x S->Kb C call Y ops c K fuel (listed.setIfInBounds i true) (S.put oi.dst x)->Kb C call Y ops c K (fuel+1) listed S:=by
 have self:∀{K':aj->Prop}{S:aj},xP C ops c i oi x S->K' (S.put oi.dst x)->sx C call Y ops c i K' S:=λ{K' S} hy h=>by
  unfold sx;simp only[hi];unfold xP at hy;have :c.of i=0\/c.of i=1:=oO
  rcases this with e|e;simp only[e]at hy⊢;exact hy.lH h;simp only[e]at hy⊢;exact⟨x,hy,h⟩
 intro fuel;induction fuel with
 |zero=>intro listed S _ _ hr hy H;refine⟨λh=>(by rw[h]at hr;cases hr),λj hj=>?_⟩;by_cases hji:j=i;subst hji;exact self hy H;have :=ready_mono hj hji;rw[H.1]at this;cases this
 |succ fuel ih=>
  intro listed S lU hfree hr hy H;refine⟨λh=>(by rw[h]at hr;cases hr),λj hj=>?_⟩;by_cases hji:j=i;subst hji;exact self hy H;have h1:=H.2 j (ready_mono hj hji);obtain⟨Ib,oj,Ur,hall⟩:=mem_ready.1 hj;rcases hfree j oj Ur hji Ib with hre|⟨hjm,hap⟩;have h2:=lU.reach _ _ _ hre λo ho=>by rw[Ur]at ho;obtain rfl:=au ho;exact hall
  rw[CW (mem_ready.1 hr).1]at h2;cases h2;have h2:=Wd Ur hi1 hjm hap hy h1;have Ic:∀k ok,ops[k]?=some ok->k≠i->(listed.setIfInBounds j true).getD k true=false->tK ops ops.size k i=true\/(c.of k<=c.of i+1/\oi.apart ops ok=true):=λk ok hk hki hun=>by refine hfree k ok hk hki ?_;by_cases hjk:j=k;subst hjk;exact Ib;rw[getD_set_ne true hjk]at hun;exact hun
  have mono:∀{K1 K2:aj->Prop}{S:aj},(∀S',K1 S'->K2 S')->sx C call Y ops c j K1 S->sx C call Y ops c j K2 S:=λ{K1 K2 S} hm hq=>by unfold sx at*;simp only[Ur]at hq⊢;split at hq;obtain⟨y,q1,q2⟩:=iO hq;exact q1.lH (hm _ q2);obtain⟨y,q1,q2⟩:=hq;exact⟨y,q1,hm _ q2⟩;obtain⟨K',q1,q2⟩:=hq;exact⟨K',q1,λS' h=>hm _ (q2 S' h)⟩;obtain⟨K',q1,q2⟩:=hq;exact⟨K',q1,λS' h=>hm _ (q2 S' h)⟩
  refine mono (λS' h'=>?_) h2;refine ih (listed.setIfInBounds j true) _ (lU.set hj) Ic (ready_mono hr (eu hji)) h'.1 ?_;rw[CY _ _ hji];exact h'.2
theorem yU {c:rO}{k:Nat}{K:aj->Prop}(h:yu C call Y ops c k K S):sx C call Y ops c k K S/\(c.of k<=1->∃o x,ops[k]?=some o/\xP C ops c k o x S/\K (S.put o.dst x)):=by
 unfold yu at h;split at h;exact h.elim;rename_i o ho;have ho':ops[k]?=some o:=by simpa using ho
 unfold sx xP;simp only[ho'];split at h;rename_i e;have :=HZ h;obtain⟨x,hy,hK⟩:=iO this;simp only[e];exact⟨hy.lH hK,λ_=>⟨o,x,rfl,hy,hK⟩⟩;rename_i e;obtain⟨x,hy,hK⟩:=Wa h;simp only[e];exact⟨⟨x,hy,hK⟩,λ_=>⟨o,x,rfl,hy,hK⟩⟩;rename_i e;simp only[e];exact⟨⟨_,Wb h,λ_ h=>h⟩,λhle=>absurd hle oO⟩;rename_i n0 n1 n2;have a0:c.of k≠0:=n0;have a1:c.of k≠1:=n1;have a2:c.of k≠2:=n2;obtain⟨n,hn⟩:∃n,c.of k=n+3:=⟨c.of k-3,oO⟩;simp only[hn];exact⟨⟨_,Ia h,λ_ h=>h⟩,λhle=>absurd hle oO⟩
theorem MQ {c:rO}{K:aj->Prop}:∀(p:JS),(∀(fuel:Nat)(listed:Array Bool)(S:aj),qS ops listed->oA ops c p true fuel listed=true->oB C call Y ops c K p S->Kb C call Y ops c K fuel listed S)/\(∀(fuel:Nat)(listed:Array Bool)(S:aj),qS ops listed->oA ops c p false fuel listed=true->oB C call Y ops c K p S->∀i,i∈p.Uf->i∈Region.ready .any ops listed->∃f,fuel=f+1/\sx C call Y ops c i (Kb C call Y ops c K f (listed.setIfInBounds i true)) S):=by
 intro p;induction p with
 |fin=>
  refine⟨λfuel listed S lU hB h=>?_,λfuel listed S lU hB h i hi=>by cases hi⟩;simp only[oA,iI,List.isEmpty_iff]at hB;cases fuel with
  |zero=>exact⟨hB,h⟩
  |succ fuel=>exact⟨λ_=>h,λi hi=>by rw[hB]at hi;cases hi⟩
 |stop=>refine⟨λfuel listed S lU hB h=>?_,λfuel listed S lU hB h i hi=>by cases hi⟩;simp[oA]at hB
 |one k p ih=>
  refine⟨λfuel listed S lU hB h=>?_,λfuel listed S lU hB h i hi=>by cases hi⟩;cases fuel with
  |zero=>simp[oA]at hB
  |succ fuel=>
   simp only[oA,iI,br]at hB;obtain⟨⟨⟨hq,hr⟩,hf⟩,hB'⟩:=hB;have hr':k∈Region.ready .any ops listed:=by simpa using hr
   have MF:c.of k<=1:=gZ hq;simp only[oB]at h;obtain⟨o,x,ho,hy,hK⟩:=(yU h).2 MF;refine Sr ho MF fuel listed S lU (λj oj hj hne hun=>?_) hr' hy ?_;refine(Bs ho hf j oj hj hne hun).imp id λh=>⟨gZ h.1,h.2⟩;exact ih.1 fuel _ _ (lU.set hr') hB' hK
 |alt k p r ihp ihr=>
  have parts:∀{S:aj},oB C call Y ops c K (.alt k p r) S->yu C call Y ops c k (oB C call Y ops c K p) S/\oB C call Y ops c K r S:=λ{S} h=>by simp only[oB]at h;split at h;exact⟨h,trivial⟩;exact h
  have both:∀(top:Bool)(fuel:Nat)(listed:Array Bool)(S:aj),qS ops listed->oA ops c (.alt k p r) top fuel listed=true->oB C call Y ops c K (.alt k p r) S->∀i,i∈(JS.alt k p r).Uf->i∈Region.ready .any ops listed->∃f,fuel=f+1/\sx C call Y ops c i (Kb C call Y ops c K f (listed.setIfInBounds i true)) S:=λtop fuel listed S lU hB h i hi hr=>by
   obtain⟨hst,qF⟩:=parts h;cases fuel with
   |zero=>simp[oA]at hB
   |succ f=>simp only[oA,br]at hB;rcases aK.1 hi with rfl|hi;refine⟨f,rfl,?_⟩;have hs:=(yU hst).1;obtain⟨-,o,ho,-⟩:=mem_ready.1 hr;unfold sx at hs⊢;simp only[ho]at hs⊢;have AQ:∀S',oB C call Y ops c K p S'->Kb C call Y ops c K f (listed.setIfInBounds i true) S':=λS' h'=>ihp.1 f _ _ (lU.set hr) hB.2.1 h';split at hs;obtain⟨y,q1,q2⟩:=iO hs;exact q1.lH (AQ _ q2);obtain⟨y,q1,q2⟩:=hs;exact⟨y,q1,AQ _ q2⟩;obtain⟨K',q1,q2⟩:=hs;exact⟨K',q1,λS' h=>AQ _ (q2 S' h)⟩;obtain⟨K',q1,q2⟩:=hs;exact⟨K',q1,λS' h=>AQ _ (q2 S' h)⟩;exact ihr.2 (f+1) listed S lU hB.2.2 qF i hi hr
  refine⟨λfuel listed S lU hB h=>?_,λfuel listed S lU hB h i hi hr=>both false fuel listed S lU hB h i hi hr⟩;have Zc:=hB;cases fuel with
  |zero=>simp[oA]at hB
  |succ f=>
   simp only[oA,Bool.not_true,od,br,beq_iff_eq]at hB;refine⟨λe=>(by rw[hB.1]at e;cases e),λi hi=>?_⟩;obtain⟨f',hf,hst⟩:=both true (f+1) listed S lU Zc h i (by rw[hB.1]at hi;exact hi) hi;obtain rfl:f=f':=oO
   exact hst
theorem Ii (dJ:mS E.C call)(hY:eR E Y){id:Nat}{c:rO}{p:JS}{K:aj->Prop}{Q:Exit->Act->World->Prop}(hQ:∀S a w,K S->nO E S a w->Q .normal a w)(hB:oA ops c p true ops.size (Array.replicate ops.size false)=true)(hs:nO E S a w)(h:oB E.C call Y ops c K p S):(Code.region id ops true).wpIn E.jb 0 E.C.P Q a w:=by refine wpIn_region_any E.C.mixed (Ih dJ hY (c:=c) hQ _ _ _ _ _ (let⟨G,hs⟩:=hs;⟨G,hs.drew⟩) ?_);exact(MQ p).1 _ _ _ ⟨by simp,λp o hp hl=>by have :p<ops.size:=(bq.1 hp).1;simp[this]at hl⟩ hB h
def acX (n:Nat)(listed:Array Bool):Nat:=((List.range n).filter λi=>!listed.getD i true).length
theorem FA {α:Type}{p q:α->Bool}{k:α}:∀{l:List α},(∀i,i∈l->q i=true->p i=true)->k∈l->p k=true->q k=false->(l.filter q).length<(l.filter p).length
 |[],_,hk,_,_=>by cases hk
 |x::l,h,hk,h1,h2=>by
  have hle:∀{l:List α},(∀i,i∈l->q i=true->p i=true)->(l.filter q).length<=(l.filter p).length:=by
   intro l;induction l with
   |nil=>intro _;exact aA _
   |cons y l ih=>
    intro h;have :=ih λi hi=>h i (cR _ hi);rw[oe,oe];cases hq:q y with
    |true=>rw[h y iN hq];simp;exact this
    |false=>cases p y<;>simp<;>omega
  have hl:=λi hi=>h i (cR _ hi);rw[oe,oe];rcases aK.1 hk with rfl|hk;rw[h1,h2];have :=hle hl;simp;omega;have :=FA hl hk h1 h2;cases hq:q x with
  |true=>rw[h x iN hq];simp;exact this
  |false=>cases p x<;>simp<;>omega
theorem acY {c:rO}{J:Array Bool->aj->Prop}{K:aj->Prop}(h1:∀(listed:Array Bool)(S':aj)(k:Nat),J listed S'->k∈Region.ready .any ops listed->yu C call Y ops c k (J (listed.setIfInBounds k true)) S')(h2:∀(listed:Array Bool)(S':aj),J listed S'->Region.ready .any ops listed=[]->K S'):∀(fuel:Nat)(listed:Array Bool)(S:aj),acX ops.size listed<=fuel->J listed S->Kb C call Y ops c K fuel listed S:=by
 intro fuel;induction fuel with
 |zero=>
  intro listed S hn hJ;have hr:Region.ready .any ops listed=[]:=by
   cases hq:Region.ready .any ops listed with
   |nil=>rfl
   |cons k r=>
    exfalso;have hk:k∈Region.ready .any ops listed:=by rw[hq];exact iN
    obtain⟨h3,o,ho,-⟩:=mem_ready.1 hk;have hlt:=(bq.1 ho).1;have :k∈(List.range ops.size).filter λi=>!listed.getD i true:=jl.2 ⟨hU.2 hlt,by rw[h3];rfl⟩;have :=List.length_pos_of_mem this;unfold acX at hn;omega
  exact⟨hr,h2 _ _ hJ hr⟩
 |succ fuel ih=>
  intro listed S hn hJ;refine⟨h2 _ _ hJ,λk hk=>?_⟩;obtain⟨h3,o,ho,-⟩:=mem_ready.1 hk;have hlt:=(bq.1 ho).1;have hun:acX ops.size (listed.setIfInBounds k true)<acX ops.size listed:=by
   refine FA (k:=k) (λi _ h=>?_) (hU.2 hlt) (by rw[h3];rfl) ?_;by_cases hik:k=i;subst hik;rw[h3];rfl;rw[getD_set_ne true hik]at h;exact h;have hsz:k<listed.size:=by rcases Nat.lt_or_ge k listed.size with h|h;exact h;rw[Da,CU h]at h3;cases h3
   simp[Da,MM,hsz]
  have hs:=(yU (h1 listed S k hJ hk)).1;have AQ:∀S',J (listed.setIfInBounds k true) S'->Kb C call Y ops c K fuel (listed.setIfInBounds k true) S':=λS' h=>ih _ _ oO h;unfold sx at hs⊢;simp only[ho]at hs⊢;split at hs;obtain⟨y,q1,q2⟩:=iO hs;exact q1.lH (AQ _ q2);obtain⟨y,q1,q2⟩:=hs;exact⟨y,q1,AQ _ q2⟩;obtain⟨K',q1,q2⟩:=hs;exact⟨K',q1,λS' h=>AQ _ (q2 S' h)⟩;obtain⟨K',q1,q2⟩:=hs;exact⟨K',q1,λS' h=>AQ _ (q2 S' h)⟩
theorem FB {o:Nat}{l:List (Nat×List FV)}{ys:List FV}(h:Qv.getObj l o=some ys):∃xs,Qv.getObj l o=some xs/\xs.length=ys.length/\∀(i:Nat)(x y:FV),xs[i]?=some x->ys[i]?=some y->bh x y:=⟨ys,h,rfl,λi x y hx hy=>by rw[hx]at hy;obtain rfl:=au hy;exact bh.refl _⟩
theorem cK.refl (S:aj):cK S S:=⟨rfl,rfl,rfl,λ_ _ q=>⟨q,id⟩,⟨rfl,λi f f' h1 h2=>by rw[h1]at h2;obtain rfl:=au h2;exact⟨rfl,rfl,λ_=>bh.refl _⟩⟩,λ_=>bh.refl _,λ_ _ h=>FB h,λo l h=>⟨l,h,rfl,λi p p' h1 h2=>by rw[h1]at h2;obtain rfl:=au h2;exact⟨rfl,bh.refl _⟩⟩,λ_ _ h=>h⟩
theorem Py (S:aj)(ds:List Nat):Off ds S S:=⟨rfl,rfl,rfl,rfl,rfl,rfl,rfl,rfl,λ_ _=>rfl⟩
theorem jJ (dJ:mS E.C call)(hY:eR E Y){id:Nat}{draw:Bool}{K:aj->Prop}{Q:Exit->Act->World->Prop}(hQ:∀S a w,K S->nO E S a w->Q .normal a w)(hs:nO E S a w)(h:ny E.C call Y ops draw K S):(Code.region id ops draw).wpIn E.jb 0 E.C.P Q a w:=by
 have keep:∀(φ:List FV->Prop),Hx K (S.Bg (dstsOf ops.toList)) (yp ops.toList) φ->∀S' a w,(φ (getAll S' (yp ops.toList))/\Off (dstsOf ops.toList) S S')->nO E S' a w->Q .normal a w:=λφ hk S' a w ⟨h1,h2⟩ hs'=>by obtain⟨T,h3,h4⟩:=Pq _ _ _ hk h1 h2.weaken;exact hQ T a w h3 (hs'.weaken h4)
 have hd:∀o,o∈ops.toList->∀d,o.dst=some d->d∈dstsOf ops.toList:=λo ho d hd=>Sg ho hd;unfold ny at h;split at h;exact wpIn_region_list (Fu dJ hY hQ _ _ _ _ h hs);obtain⟨φ,h⟩:=h;cases φ with
 |none=>exact wpIn_region_list (Fu dJ hY hQ _ _ _ _ h hs)
 |some φ=>obtain⟨h1,h2⟩:=h;exact wpIn_region_list (VT (keep φ h2) _ _ _ _ (Up _ _ _ hd (Py _ _) h1) hs)
 obtain⟨how,h⟩:=h;cases how with
 |lex m=>
  obtain⟨hB,h⟩:=h;have hm:m<=ops.size:=by simp only[Ej,br,decide_eq_true_eq]at hB;exact hB.1.1
  exact Ie dJ hY hQ hB hs h hm
 |keep φ=>obtain⟨hB,h1,h2⟩:=h;refine Ie dJ hY (m:=ops.size) (keep φ h2) hB hs ?_ (aA _);have h3:=Up (ds:=dstsOf ops.toList) _ _ _ hd (Py _ _) h1;have e1:ops.toList.take ops.size=ops.toList:=cU (by simp);have e2:ops.toList.drop ops.size=[]:=CA (by simp);rw[e1,e2];exact h3
 |plan c p T=>
  obtain⟨hB,h⟩:=h;cases T with
  |none=>exact Ii dJ hY hQ hB hs h
  |some T=>exact Ii dJ hY (K:=λS'=>cK S' T) (λS a w hw hs=>hQ T a w h.2 (hs.weaken hw)) hB hs h.1
 |sea c J=>obtain⟨h0,h1,h2⟩:=h;exact wpIn_region_any E.C.mixed (Ih dJ hY (c:=c) hQ _ _ _ _ _ (let⟨G,hs⟩:=hs;⟨G,hs.drew⟩) (acY h1 h2 ops.size _ _ (ck (mA _ _) (by simp)) h0))
end
section
variable {E:Env}{G:bf}{S:aj}{a:Act}{w:World}
def qf (tmps:Array Value):ResultVar->Sem Value|.tmp t=>pure (tmps.getD t undef)|.cell a t=>do loadVar t (<-asAddr (tmps.getD a undef))
def Us:List Value->Value|[v]=>v|vs=>.tuple vs.toArray
theorem kU (fn:Func)(tmps:Array Value)(P:Program)(w:World){vs:List Value}(h:(fn.results.toList.mapM (qf tmps)).run P w=.ok vs w):(results fn tmps).run P w=.ok (Us vs) w:=by
 have h2:(fn.results.mapM (qf tmps)).run P w=.ok vs.toArray w:=by rw[Array.mapM_eq_mapM_toList];simp only[Sem.run_map,h,Result.andThen_ok]
 have h3:results fn tmps=(do let vs<-fn.results.mapM (qf tmps);pure (if h:vs.size=1 then vs[0]else .tuple vs)):=by unfold results;congr 1
 rw[h3];simp only[Sem.run_bind,h2,Result.andThen_ok,Sem.run_pure];congr 1;match vs with
  |[]=>rfl
  |[v]=>rfl
  |v::u::r=>rfl
theorem yV (hs:bt E G S a w){ad:Nat}{t:TypeId}{K:FV->Prop}(h:nu E.C S.aI t (S.get ad) K):∃v x,(qf a.tmps (.cell ad t)).run E.C.P w=.ok v w/\K x/\aT G w v x:=by obtain⟨p,v,x,h1,h2,h3,h4⟩:=KM hs (aT.get hs ad) h;exact⟨v,x,by simp only[qf,Sem.run_bind,h1,asAddr,Sem.run_pure,Result.andThen_ok,h2],h3,h4⟩
theorem xQ (hs:bt E G S a w):∀(rs:List ResultVar)(K:List AV->Prop),mN E.C S rs K->∃vs xs,(rs.mapM (qf a.tmps)).run E.C.P w=.ok vs w/\K xs/\vs.length=rs.length/\vs.length=xs.length/\∀(i:Nat)(c:Value)(x:AV),vs[i]?=some c->xs[i]?=some x->dA G.bk w c x:=by
 intro rs;induction rs with
 |nil=>intro K h;exact⟨[],[],by simp,h,rfl,rfl,by simp⟩
 |cons r rs ih=>
  have fin:∀(K:List AV->Prop){v:Value}{y:AV},(qf a.tmps r).run E.C.P w=.ok v w->dA G.bk w v y->mN E.C S rs (λxs=>K (y::xs))->∃vs xs,((r::rs).mapM (qf a.tmps)).run E.C.P w=.ok vs w/\K xs/\vs.length=(r::rs).length/\vs.length=xs.length/\∀(i:Nat)(c:Value)(x:AV),vs[i]?=some c->xs[i]?=some x->dA G.bk w c x:=λK {v y} h1 h2 h3=>by obtain⟨vs,xs,g1,g2,g3,g4,g5⟩:=ih _ h3;refine⟨v::vs,y::xs,by simp_all,g2,by grind,by grind,λi c x hc hx=>?_⟩;grind
  intro K h;cases r with
  |tmp t=>simp only[mN]at h;split at h;rename_i y hy;exact fin K (v:=a.tmps.getD t undef) rfl ((aT.get hs t).eG hy) h;simp_all
  |cell ad t=>simp only[mN]at h;obtain⟨v,x,h1,h2,h3⟩:=yV hs h;split at h2;rename_i y hy;exact fin K h1 (h3.eG hy) h2;simp_all
theorem sU (hs:bt E G S a w){v:Value}{x:AV}(h:dA G.bk w v x):dA (kW E.Ek E.w0.heap.size) w v x:=h.keep (λb o hi=>hs.nN b o hi) (λ_ _ _ _ h=>h) (.refl _ _)
theorem og (hs:bt E G S a w):∀(rs:List ResultVar)(K:List FV->Prop),qL E.C S rs K->∃vs xs,(rs.mapM (qf a.tmps)).run E.C.P w=.ok vs w/\K xs/\vs.length=rs.length/\vs.length=xs.length/\∀(i:Nat)(c:Value)(x:FV),vs[i]?=some c->xs[i]?=some x->aT G w c x:=by
 intro rs;induction rs with
 |nil=>intro K h;exact⟨[],[],by simp,h,rfl,rfl,by simp⟩
 |cons r rs ih=>
  have fin:∀(K:List FV->Prop){v:Value}{y:FV},(qf a.tmps r).run E.C.P w=.ok v w->aT G w v y->qL E.C S rs (λxs=>K (y::xs))->∃vs xs,((r::rs).mapM (qf a.tmps)).run E.C.P w=.ok vs w/\K xs/\vs.length=(r::rs).length/\vs.length=xs.length/\∀(i:Nat)(c:Value)(x:FV),vs[i]?=some c->xs[i]?=some x->aT G w c x:=λK {v y} h1 h2 h3=>by obtain⟨vs,xs,g1,g2,g3,g4,g5⟩:=ih _ h3;refine⟨v::vs,y::xs,by simp_all,g2,by grind,by grind,λi c x hc hx=>?_⟩;grind
  intro K h;cases r with
  |tmp t=>exact fin K (v:=a.tmps.getD t undef) rfl (aT.get hs t) h
  |cell ad t=>simp only[qL]at h;obtain⟨v,x,h1,h2,h3⟩:=yV hs h;exact fin K h1 h3 h2
theorem Ad {vs:List Value}{xs:List FV}(hl:vs.length=xs.length)(h:∀(i:Nat)(c:Value)(x:FV),vs[i]?=some c->xs[i]?=some x->aT G w c x):aT G w (Us vs) (JT xs):=by
 match vs,xs,hl with
  |[v],[x],_=>exact h 0 v x rfl rfl
  |[],[],_=>exact .eW [] [] rfl (by simp)
  |v::u::vs,x::y::xs,hl=>exact .eW (v::u::vs) (x::y::xs) hl h
  |[],_::_,hl=>simp_all
  |[_],[],hl=>simp_all
  |[_],_::_::_,hl=>simp_all
  |_::_::_,[],hl=>simp_all
  |_::_::_,[_],hl=>simp_all
theorem aT.bare {G:bf}{w:World}{v:Value}{x:FV}(h:aT G w v x){bk:Nat->Nat->Prop}(hi:∀b o,G.bk b o->bk b o):x.safe []=true->aT (bare bk) w v x:=by
 have key:∀{xs:List FV},FV.uz [] xs=true->∀x,x∈xs->x.safe []=true:=by
  intro xs;induction xs with
  |nil=>simp_all
  |cons y ys ih=>intro h x hx;simp only[FV.uz]at h;grind
 induction h with
 |p v x h=>intro _;exact .p v x (h.keep hi (λ_ _ _ _ h=>h) (.refl _ _))
 |agg cs xs hn _ ih=>intro hs;simp only[FV.safe]at hs;exact .agg cs xs hn λi c x h1 h2=>ih i c x h1 h2 (key hs x (bU h2))
 |eW cs xs hn _ ih=>intro hs;simp only[FV.safe]at hs;exact .eW cs xs hn λi c x h1 h2=>ih i c x h1 h2 (key hs x (bU h2))
 |ptr o off b h=>intro hs;simp[FV.safe,gM]at hs
 |fM t T bM xs a c h1 h2=>intro hs;simp[FV.safe,gM]at hs
 |full xs a h=>intro _;exact .full xs a (h.keep hi (λ_ _ _ _ h=>h) (.refl _ _))
 |fn f fs cs first captured hn hn' _ _ ih Gj=>intro hs;simp only[FV.safe]at hs;split at hs;rename_i h1;exact .fn f fs cs first captured hn hn' (λi c x h2 h3=>ih i c x h2 h3 (key h1 x (bU h3))) (λi c x h2 h3=>Gj i c x h2 h3 (key hs x (bU h3)));simp_all
 |lX l k h=>intro hs;simp[FV.safe,gM]at hs
 |gd o T bM n c b h1 h2 h3 h4=>intro hs;simp[FV.safe,gM]at hs
 |uk o x T bM n c b off h1 h2 h0 h3 h4=>intro hs;simp[FV.safe,gM]at hs
 |gD o base off b h=>intro hs;simp[FV.safe,gM]at hs
 |fG o b h=>intro hs;simp[FV.safe,gM]at hs
 |zR o b h=>intro hs;simp[FV.safe,gM]at hs
 |dR v=>intro _;exact .dR v
theorem We {xs:List FV}(h:FV.uz [] xs=true):(JT xs).safe []=true:=by
 match xs,h with
  |[],_=>rfl
  |[x],h=>simp only[FV.uz]at h;split at h;assumption;simp_all
  |_::_::_,h=>exact h
theorem Ut (hs:bt E G S a w){v:Value}{o bM:Nat}{T:TypeId}(hr:aT G w v (.gd o T bM)){R:dx->Prop}{rest:Option (List AV)}{us:List Value}(h:Yr S o bM λxss=>R (.own rest T bM xss))(hu:∀r,rest=some r->us.length=r.length/\∀(i:Nat)(u:Value)(x:AV),us[i]?=some u->r[i]?=some x->dA G.bk w u x):∃xss,R (.own rest T bM xss)/\oy E.Ek E.w0.heap.size w (afG rest v us) (.own rest T bM xss):=by obtain⟨n,c,b,rfl,h1,h2,h3,h4⟩:=hr.GF;obtain⟨xss,g1,g2,g3⟩:=h;split at g2;rename_i cells hc;obtain⟨hon,hc⟩:=iW hc;obtain⟨t1,t2,⟨cs,fr,tt,-⟩,t3⟩:=hs.fQ _ _ _ _ _ h2;obtain⟨-,-,l3⟩:=hs.gG o b h1;have hlen:=(hs.cz o o b _ h1 h2).2.2 cells hc;obtain⟨b',k1,k2⟩:=hs.aI o cells hc;rw[h1]at k1;obtain rfl:=au k1;obtain⟨k3,k4⟩:=FV.iC g2;have hfl:xss.flatten.length=xss.length*bM:=fR λzs hz=>(g1 zs hz).1;obtain rfl:n=xss.length:=ga h4 oO;have hI:∀{u:Value}{x:AV},dA G.bk w u x->dA (Yc E.Ek E.w0.heap.size b) w u x:=λh=>h.keep (λb' o' hi=>(hs.nN b' o' hi).imp id λh=>⟨h,λe=>(l3 o').1 (e▸hi)⟩) (λ_ _ _ _ h=>h) (.refl _ _);refine⟨xss,g3,b,c,cs,fr,us,rfl,t2,t1,h4,h3,g1,tt,λi=>(l3 i).2,λi hi=>?_,λi x hx=>?_,λr hr=>⟨(hu r hr).1,λi u x q1 q2=>hI ((hu r hr).2 i u x q1 q2)⟩⟩;by_cases hin:i<cells.length;obtain⟨u,q1,-⟩:=k2 i _ (av hin);simp_all;simp_all;obtain⟨y,q1,q2⟩:=k4 i x hx;obtain⟨u,q3,q4⟩:=k2 i y q1;exact⟨u,q3,hI (q4.eG q2)⟩;simp_all
theorem eW (hs:bt E G S a w){fn:Func}{R:dx->Prop}{rs:List ResultVar}(hrs:fn.results.toList=rs)(hn:rs.length≠1)(h:mN E.C S rs λxs=>R (.val (.eW xs))):∃v r,(results fn a.tmps).run E.C.P w=.ok v w/\R r/\oy E.Ek E.w0.heap.size w v r:=by
 obtain⟨vs,xs,g1,g2,g3,g4,g5⟩:=xQ hs _ _ h;refine⟨_,_,kU fn a.tmps E.C.P w (hrs▸g1),g2,?_⟩;have :Us vs=Value.tuple vs.toArray:=by
  match vs,g3 with
   |[],_=>rfl
   |[v],g3=>simp_all
   |v::u::r,_=>rfl
 rw[this];exact sU hs (.eW vs xs g4 g5)
theorem Ij (hs:bt E G S a w){fn:Func}{R:dx->Prop}(h:yy E.C fn.results.toList R S):∃v r,(results fn a.tmps).run E.C.P w=.ok v w/\R r/\oy E.Ek E.w0.heap.size w v r:=by
 unfold yy at h;split at h;obtain⟨vs,xs,g1,g2,g3,g4,g5⟩:=og hs _ _ h;split at g2;rename_i ahR;exact⟨_,_,kU fn a.tmps E.C.P w g1,g2,(Ad g4 g5).bare (λb o hi=>hs.nN b o hi) (We ahR)⟩;simp_all;split at h;rename_i t hrs;have hrun:(results fn a.tmps).run E.C.P w=.ok (a.tmps.getD t undef) w:=by have :=kU fn a.tmps E.C.P w (vs:=[a.tmps.getD t undef]) (by rw[hrs];rfl);exact this
 have hr:=aT.get hs t;generalize a.tmps.getD t undef=v at hrun hr;split at h;rename_i k T bM xs hg;rw[hg]at hr;rcases h with h|h;refine⟨v,_,hrun,h,?_⟩;cases hr with
 |fM _ _ _ _ ad c h1 h2=>refine⟨ad,c,rfl,?_⟩;rcases h2 with⟨rfl,rfl⟩|⟨b,off,rfl,h3,h4⟩;exact .inl ⟨rfl,rfl,sU hs h1⟩;obtain⟨t1,t2,⟨cs,fr,tt,-⟩,t3⟩:=hs.fQ _ _ _ _ _ h4;refine .inr ⟨b,off,cs,fr,rfl,t2,t1,h3,tt,λi hi hi'=>⟨(t3 i hi hi').1,(t3 i hi hi').2.1⟩,?_⟩;refine h1.keep (λb' o hi=>?_) (λ_ _ _ _ h=>h) (.refl _ _);rcases hs.nN b' o hi with h5|h5;simp_all;grind
 exact⟨v,_,hrun,h,sU hs (hr.eG rfl)⟩;rename_i hg;rw[hg]at hr;rcases h with⟨T,bM,h⟩|h;refine⟨v,_,hrun,h,?_⟩;cases hr with
 |full _ ad h1=>exact⟨ad,0,rfl,.inl ⟨rfl,rfl,sU hs h1⟩⟩
 exact⟨v,_,hrun,h,sU hs (hr.eG rfl)⟩;rename_i o hg;rw[hg]at hr;obtain⟨ks,vs,hf,h⟩:=h;obtain⟨G',hs',up⟩:=hs.Sc hf;have hu:=up v _ hr;rw[show(FV.fG o).fm o (.mp ks vs)=.p (.mp ks vs)from by simp[FV.fm]]at hu;exact⟨v,_,hrun,h,sU hs' (hu.eG rfl)⟩;rename_i o T bM hg;rw[hg]at hr;obtain⟨xss,g1,g2⟩:=Ut hs hr h (rest:=none) (us:=[]) (λr h=>by grind);exact⟨v,_,hrun,g1,g2⟩;split at h;rename_i y hy;exact⟨v,_,hrun,h,sU hs (hr.eG hy)⟩;simp_all;rename_i ad t hrs;obtain⟨v,x,h1,h2,h3⟩:=yV hs h;split at h2;rename_i y hy;exact⟨v,_,kU fn a.tmps E.C.P w (vs:=[v]) (by simp_all),h2,sU hs (h3.eG hy)⟩;simp_all;rename_i t r1 rest hrs;split at h;rename_i o T bM hg;have hr:=aT.get hs t;rw[hg]at hr;obtain⟨vs,xs,g1,g2,g3,g4,g5⟩:=xQ hs _ _ h;have h0:(qf a.tmps (.tmp t)).run E.C.P w=.ok (a.tmps.getD t undef) w:=rfl;have key:∀rr:List ResultVar,(rr.mapM (qf a.tmps)).run E.C.P w=.ok vs w->((ResultVar.tmp t::rr).mapM (qf a.tmps)).run E.C.P w=.ok (a.tmps.getD t undef::vs) w:=λrr g=>by simp_all
 have hrun:=kU fn a.tmps E.C.P w (vs:=a.tmps.getD t undef::vs) (by grind);have ht:Us (a.tmps.getD t undef::vs)=afG (some xs) (a.tmps.getD t undef) vs:=by match vs,g3 with|u::r,_=>rfl
 rw[ht]at hrun;obtain⟨xss,k1,k2⟩:=Ut hs hr g2 (rest:=some xs) (us:=vs) λr h=>by grind
 grind;exact eW hs (rs:=.tmp t::r1::rest) hrs (by simp) h;rename_i VP hn2 Of;refine eW hs rfl ?_ h;generalize hrr:fn.results.toList=rr at VP hn2 Of;match rr with
  |[]=>simp
  |[.tmp t]=>simp_all
  |[.cell ad t]=>simp_all
  |_::_::_=>simp
end
section
variable {E:Env}{G:bf}{S:aj}{a:Act}{w:World}
theorem bt.enter (hs:bt E G S a w){n:Nat}{tmps:Nat->FV}{vals:Array Value}(hn:vals.size=n)(ht:∀i,i<n->aT G w (vals.getD i undef) (tmps i)){mj:Option Nat}(hr:∀l,mj=some l->∃(i:Nat) (r:Loop),E.loops[i]?=some (l,r)):bt {E with mj:=mj,bK:=a.tmps::E.bK,fixed:=marksOf a.defers++E.fixed} G (S.enter n tmps) {tmps:=vals,defers:=[]} w:=by
 refine⟨hs.kept,hn,⟨hs.ext'.mps.env rfl rfl rfl,by simp[aj.enter,hs.ext'.lz],λi vs fr h1 h2=>?_,hs.ext'.kg,hs.ext'.loops,hs.ext'.lB,hs.ext'.yl,hr,?_,hs.ext'.Ay⟩,⟨hs.iX.at_,hs.iX.row,hs.iX.di⟩,hs.nN,hs.fh,ht,hs.aI,hs.gG,hs.eY,hs.cz,hs.fQ,hs.er⟩;cases i with
 |zero=>simp[aj.enter]at h1 h2;subst h1;subst h2;exact⟨hs.size,hs.tmps⟩
 |succ i=>simp[aj.enter]at h1 h2;exact hs.ext'.bK i vs fr h1 h2
 obtain⟨ms,h1,h2,h3⟩:=hs.ext'.marks;refine⟨[],rfl,?_,?_⟩;simpa[h1,mc]using h2;simpa[h1,mc]using h3
theorem bt.leave {E:Env}{mj:Option Nat}{a':Act}{w':World}{f:Fr}{r:List Fr}{ms:List Nat}(hs:bt {E with mj:=mj,bK:=a.tmps::E.bK,fixed:=marksOf a.defers++E.fixed} G S a' w')(hf:S.bK=f::r)(hd:a.defers=ms.map mark)(hr:∀l,E.mj=some l->∃(i:Nat) (r:Loop),E.loops[i]?=some (l,r)):bt E G {n:=f.n,off:=f.off,tmps:=f.tmps,aI:=S.aI,bK:=r,cF:=S.cF,cT:=S.cT,maps:=S.maps,je:=S.je} a w':=by obtain⟨h1,h2⟩:=hs.ext'.bK 0 a.tmps f rfl (by simp_all);refine⟨hs.kept,h1,⟨hs.ext'.mps.env rfl rfl rfl,?_,λi vs fr h3 h4=>?_,hs.ext'.kg,hs.ext'.loops,hs.ext'.lB,hs.ext'.yl,hr,⟨ms,hd,?_,?_⟩,hs.ext'.Ay⟩,⟨hs.iX.at_,hs.iX.row,hs.iX.di⟩,hs.nN,hs.fh,h2,hs.aI,hs.gG,hs.eY,hs.cz,hs.fQ,hs.er⟩;have :=hs.ext'.lz;simp_all;exact hs.ext'.bK (i+1) vs fr (by simp_all) (by simp_all);obtain⟨ms',-,h4,-⟩:=hs.ext'.marks;have h5:(marksOf a.defers++E.fixed).Nodup:=(kz.1 h4).2.1;rwa[hd,mc]at h5;obtain⟨ms',-,-,h4⟩:=hs.ext'.marks;intro q hq;refine h4 q (sV _ ?_);show q∈marksOf a.defers++E.fixed;rw[hd,mc];omega
theorem EA {K:aj->Prop}(h:S.leave K):∃f r,S.bK=f::r/\K {n:=f.n,off:=f.off,tmps:=f.tmps,aI:=S.aI,bK:=r,cF:=S.cF,cT:=S.cT,maps:=S.maps,je:=S.je}:=by unfold aj.leave at h;grind
theorem Ae {P:Program}{fn:Func}{tmps:Array Value}{R:Ending->World->Prop}:∀(ms:List Nat){E:Env}{G:bf}{S:aj}{a:Act}{w:World},E.C.P=P->bt E G S a w->a.tmps=tmps->a.defers=ms.map mark->(∀G a' w',bt E G S a' w'->a'.tmps=tmps->a'.defers=[]->∃v,(results fn tmps).run P w'=.ok v w'/\R (.returned v) w')->LeavesInM Fence.wide 0 P fn tmps R (ms.map mark) .returning w:=by
 intro ms;induction ms with
 |nil=>intro E G S a w hP hs ht hd h;exact h G a w hs ht hd
 |cons m ms ih=>
  intro E G S a w hP hs ht hd h;obtain⟨ms',h1,h2,h3⟩:=hs.ext'.marks;have xR:ms'=m::ms:=by have e1:=bg marksOf h1;rw[hd,mc,mc]at e1;exact e1.symm
  subst xR;obtain⟨h4,h5⟩:=h3 m (by simp);refine⟨by simp,.inl ⟨m,w.putObj m (.deferred none),rfl,run_takeDeferred h5,?_⟩⟩;have MN:=h2;rw[dm,mC]at MN;have hs':bt {E with mj:=E.mj,bK:=E.bK,loops:=E.loops,fixed:=E.fixed} G {S with cF:=S.cF} {a with defers:=ms.map mark} (w.putObj m (.deferred none)):=hs.putObj (o':=.deferred none) (maps:=S.maps) (je:=S.je) h5 rfl rfl (.inl h4) (λ⟨es,k,h⟩=>by grind) (λkeep sj hsame=>by refine⟨hs.ext'.mps.yN h5 ⟨λ_ _ h=>(by grind),λ_ _ _ _ h=>(by grind)⟩ keep sj rfl rfl rfl,hs.ext'.lz,λi vs fr q1 q2=>?_,hs.ext'.kg,λi k r st q1 q2=>?_,hs.ext'.lB,hs.ext'.yl,hs.ext'.mj,⟨ms,rfl,MN.2,λr hr=>?_⟩,hs.ext'.Ay.of keep⟩;obtain⟨q3,q4⟩:=hs.ext'.bK i vs fr q1 q2;simp_all;obtain⟨q3,q4⟩:=hs.ext'.loops i k r st q1 q2;grind;grind);grind
end
section
variable {E:Env}{G:bf}{S:aj}{a:Act}{w:World}
theorem Uu:∀(l:List zS)(n:Nat),Hy l n=l[n]?
 |[],n=>by rfl
 |p::l,0=>rfl
 |p::l,n+1=>by simp[Hy,Uu l n]
theorem Uv:∀(l:List Fr)(n:Nat),acA l n=l[n]?
 |[],n=>by rfl
 |p::l,0=>rfl
 |p::l,n+1=>by simp[acA,Uv l n]
theorem MR:∀(l:List zS)(n:Nat)(q:zS),VF l n q=l.set n q
 |[],n,q=>by rfl
 |p::l,0,q=>rfl
 |p::l,n+1,q=>by simp[VF,MR l n q]
theorem Pz (r:Loop)(h1:r.state=.ready)(h2:r.pending=none):zS.ready.of r=r:=by cases r;simp only at h1 h2;subst h1;subst h2;rfl
theorem KW:∀(ps:List Nat)(vals:List Value)(args:List FV)(t:Array Value)(f:Nat->FV)(n:Nat),vals.length=args.length->vals.length=ps.length->t.size=n->(∀i,i<n->aT G w (t.getD i undef) (f i))->(∀(i:Nat)(v:Value)(x:FV),vals[i]?=some v->args[i]?=some x->aT G w v x)->((ps.zip vals).foldl (λt (p,v)=>t.setIfInBounds p v) t).size=n/\∀i,i<n->aT G w (((ps.zip vals).foldl (λt (p,v)=>t.setIfInBounds p v) t).getD i undef) (Oy f ps args i)
 |[],vals,args,t,f,n,h1,h2,h3,h4,h5=>by
  cases args with
  |nil=>exact⟨by simp_all,by simpa[Oy]using h4⟩
  |cons x args=>simp_all
 |p::ps,[],args,t,f,n,h1,h2,h3,h4,h5=>by grind
 |p::ps,v::vals,[],t,f,n,h1,h2,h3,h4,h5=>by simp_all
 |p::ps,v::vals,x::args,t,f,n,h1,h2,h3,h4,h5=>by
  simp only[List.zip_cons_cons,fI,Oy];refine KW ps vals args (t.setIfInBounds p v) _ n (by simp_all) (by simp_all) (by simp_all) (λi hi=>?_) (λi u y hu hy=>h5 (i+1) u y (by simp_all) (by simp_all));have hi':i<t.size:=oO
  by_cases hd:i=p;subst hd;have :Nat.beq i i=true:=by simp
  rw[this];have hv:=h5 0 v x rfl rfl;simp_all;have :Nat.beq i p=false:=by cases hb:Nat.beq i p;rfl;simp_all
  rw[this];have :=h4 i hi;simpa[Array.getD,hi',Cs,eu hd]using this
theorem bt.EB (hs:bt E G S a w){i k:Nat}{r:Loop}{st:zS}(h1:E.loops[i]?=some (k,r))(h2:Hy S.cF i=some st):E.w0.heap.size<=k/\w.heap[k]?=some (.loop (st.of r)):=hs.ext'.loops i k r st h1 (by rw[<-Uu];omega)
theorem bt.ahS (hs:bt E G S a w){i k:Nat}{r:Loop}{st st':zS}(h1:E.loops[i]?=some (k,r))(h2:Hy S.cF i=some st):bt E G {S with cF:=VF S.cF i st'} a (w.putObj k (.loop (st'.of r))):=by obtain⟨h3,h4⟩:=hs.EB h1 h2;refine hs.putObj (o:=.loop (st.of r)) (o':=.loop (st'.of r)) h4 rfl rfl (.inl h3) (λ⟨es,k,h⟩=>by grind) (maps:=S.maps) (je:=S.je) (mj:=E.mj) (bK:=E.bK) (loops:=E.loops) (fixed:=E.fixed) (defers:=a.defers) (λkeep sj hsame=>?_);refine⟨hs.ext'.mps.yN h4 ⟨λ_ _ h=>(by grind),λ_ _ _ _ h=>(by grind)⟩ keep sj rfl rfl rfl,hs.ext'.lz,λj vs fr q1 q2=>?_,by simp only[MR,List.length_set];exact hs.ext'.kg,λj k' r' st2 q1 q2=>?_,hs.ext'.lB,hs.ext'.yl,hs.ext'.mj,?_,hs.ext'.Ay.of keep⟩;obtain⟨q3,q4⟩:=hs.ext'.bK j vs fr q1 q2;simp_all;simp only[MR]at q2;by_cases hj:j=i;grind;rw[CI (eu hj)]at q2;obtain⟨q3,q4⟩:=hs.ext'.loops j k' r' st2 q1 q2;refine⟨q3,sj _ _ (λe=>?_) q4⟩;subst e;exact hj (hs.ext'.lB j i k' r' r q1 h1);obtain⟨ms,q1,q2,q3⟩:=hs.ext'.marks;grind
theorem bt.Zd (hs:bt E G S a w){l:Nat}{rec:Loop}{ms:List Nat}(hl:w.heap[l]?=some (.loop (zS.ready.of rec)))(hw0:E.w0.heap.size<=l)(hnew:∀(i k:Nat)(r:Loop),E.loops[i]?=some (k,r)->k≠l)(xR:∀m,m∈ms->E.w0.heap.size<=m/\w.heap[m]?=some (.deferred (some [])))(MN:(ms++(marksOf a.defers++E.fixed)).Nodup):∃G',bt {E with loops:=E.loops++[(l,rec)]} G' {S.kill (1000000+S.cF.length)with cF:=S.cF++[.ready]} {a with defers:=ms.map mark++a.defers} w/\G'.yl (1000000+S.cF.length)=some l/\∀v x,aT G w v x->aT G' w v (x.kill (1000000+S.cF.length)):=by
 generalize hlv:S.cF.length=lvl;have am6:lvl=E.loops.length:=hlv▸hs.ext'.kg;let G':bf:={G.free (1000000+lvl)with yl:=λn=>if n=1000000+lvl then some l else G.yl n};have up:∀v x,aT G w v x->aT G' w v (x.kill (1000000+lvl)):=λv x h=>h.kill _ rfl (λo b h h'=>by simp only[G',bf.free];simp_all) (λt r h h'=>by simp only[G',bf.free];simp_all) (λn k h h'=>by grind) (hmp:=bf.oW.1) (hit:=bf.oW.2.2.1);have HB:lY (FV.kill (1000000+lvl)) G G' S (S.kill (1000000+lvl)) w:=.kill _ rfl bf.oW.1 bf.oW.2.1 bf.oW.2.2.1 bf.oW.2.2.2 (λo b h=>by simp only[G',bf.free]at h;simp_all);have h1:=hs.kill (1000000+lvl);have up2:∀v x,aT (G.free (1000000+lvl)) w v x->(∀k,x≠.lX k)->True:=λ_ _ _ _=>trivial;refine⟨G',⟨h1.kept,h1.size,⟨(hs.ext'.mps.move _ up (.refl _) HB).env rfl rfl rfl,?_,λi vs fr q1 q2=>?_,?_,λi k r st q1 q2=>?_,λi j k r r' q1 q2=>?_,λi k r q1 k' q2=>?_,λq hq=>?_,?_,hs.ext'.Ay⟩,⟨h1.iX.at_,h1.iX.row,h1.iX.di⟩,h1.nN,h1.fh,λi hi=>up _ _ (hs.tmps i hi),λo cells ho=>?_,h1.gG,h1.eY,h1.cz,h1.fQ,h1.er⟩,by grind,up⟩;exact h1.ext'.lz;have q2':(yj (FV.kill (1000000+lvl)) S.bK)[i]?=some fr:=q2;rw[Hi,aN]at q2';cases hx:S.bK[i]?with
 |none=>simp_all
 |some fr0=>simp[hx]at q2';subst q2';obtain⟨q3,q4⟩:=hs.ext'.bK i vs fr0 q1 hx;exact⟨q3,λj hj=>up _ _ (q4 j hj)⟩
 simp_all;by_cases hi:i<E.loops.length;rw[cG hi]at q1;rw[cG oO]at q2;exact hs.ext'.loops i k r st q1 q2;grind;have uH:∀(i k:Nat)(r:Loop),(E.loops++[(l,rec)])[i]?=some (k,r)->(i<E.loops.length/\E.loops[i]?=some (k,r))\/(i=E.loops.length/\k=l):=λi k r q=>by grind
 rcases uH i k r q1 with⟨-,e1⟩|⟨e1,e2⟩<;>rcases uH j k r' q2 with⟨-,e3⟩|⟨e3,e4⟩;exact hs.ext'.lB i j k r r' e1 e3;grind;grind;omega;simp only[G']at q2;by_cases hi:i<E.loops.length;rw[cG hi]at q1;rw[af oO]at q2;exact hs.ext'.yl i k r q1 k' q2;grind;obtain⟨i,r,q1⟩:=hs.ext'.mj q hq;exact⟨i,r,by grind⟩;obtain⟨ms',q1,q2,q3⟩:=hs.ext'.marks;rw[q1,mc]at MN;grind;obtain⟨hne,cs,q2,rfl⟩:=kR ho;obtain⟨b,q3,q4⟩:=hs.aI o cs q2;refine⟨b,by simp only[G',bf.free];simp_all,λi x hx=>?_⟩;rw[FV.fB,aN]at hx;grind
theorem bt.acZ {l:Nat}{rec:Loop}{st:zS}(hs:bt {E with loops:=E.loops++[(l,rec)]} G S a w)(hst:Hy S.cF E.loops.length=some st)(hr:∀q,E.mj=some q->∃(i:Nat) (r:Loop),E.loops[i]?=some (q,r)){o':Loop}:bt E G {S with cF:=S.cF.take E.loops.length} a (w.putObj l (.loop o')):=by
 have h0:(E.loops++[(l,rec)])[E.loops.length]?=some (l,rec):=by rw[dH (aA _)];simp
 obtain⟨h3,h4⟩:=hs.EB h0 hst;refine hs.putObj (o:=.loop (st.of rec)) (o':=.loop o') h4 rfl rfl (.inl h3) (λ⟨es,k,h⟩=>by grind) (maps:=S.maps) (je:=S.je) (mj:=E.mj) (bK:=E.bK) (loops:=E.loops) (fixed:=E.fixed) (defers:=a.defers) (λkeep sj hsame=>?_);have hlen:S.cF.length=E.loops.length+1:=by have :=hs.ext'.kg;simpa using this
 have hin:∀(i k:Nat)(r:Loop),E.loops[i]?=some (k,r)->(E.loops++[(l,rec)])[i]?=some (k,r):=λi k r q=>by grind
 refine⟨hs.ext'.mps.yN h4 ⟨λ_ _ h=>(by grind),λ_ _ _ _ h=>(by grind)⟩ keep sj rfl rfl rfl,hs.ext'.lz,λj vs fr q1 q2=>?_,by simp_all,λj k' r' st2 q1 q2=>?_,λi j k r r' q1 q2=>hs.ext'.lB i j k r r' (hin _ _ _ q1) (hin _ _ _ q2),λi k r q1=>hs.ext'.yl i k r (hin _ _ _ q1),hr,?_,hs.ext'.Ay.of keep⟩;obtain⟨q3,q4⟩:=hs.ext'.bK j vs fr q1 q2;simp_all;have hj:=(aJ.1 q1).1;rw[CL hj]at q2;obtain⟨q3,q4⟩:=hs.ext'.loops j k' r' st2 (hin _ _ _ q1) q2;refine⟨q3,sj _ _ (λe=>?_) q4⟩;subst e;exact absurd (hs.ext'.lB j E.loops.length k' r' rec (hin _ _ _ q1) h0) (Nat.ne_of_lt hj);obtain⟨ms,q1,q2,q3⟩:=hs.ext'.marks;grind
def Ik (c:Code):Prop:=∀{E:Env}{call:iQ}{Y:pH},mS E.C call->eR E Y->∀{Q:Exit->aj->Prop}{S:aj}{a:Act}{w:World},yc E.C call Y c Q S->nO E S a w->c.wpIn E.jb 0 E.C.P (λe a' w'=>∃S',Q e S'/\nO E S' a' w') a w
theorem PB {E:Env}{call:iQ}{Y:pH}(dJ:mS E.C call)(hY:eR E Y){assign body:Code}(ha:Ik assign)(hb:Ik body){a1:Act}{l:Nat}{rec:Loop}{Ze:List Nat}(hrt:rec.tmps=a1.tmps)(hra:rec.assign=assign)(hrb:rec.body=body)(hr1:rec.state=.ready)(Zf:rec.pending=none):eR {E with mj:=none,bK:=a1.tmps::E.bK,loops:=E.loops++[(l,rec)],fixed:=Ze} (wm Y (yc E.C call Y assign) (yc E.C call Y body) rec.params.toList E.loops.length E.bK.length):=by
 intro mj xs ls fixed G S a w ln k args K vals hs hk h hlen oC;have e1:xs++a1.tmps::E.bK=(xs++[a1.tmps])++E.bK:=by simp
 have e2:(E.loops++[(l,rec)])++ls=E.loops++([(l,rec)]++ls):=by simp
 unfold wm at h;split at h;have hY':=hY mj (xs++[a1.tmps]) ([(l,rec)]++ls) fixed G S a w ln k args K vals;grind;rename_i hln;obtain rfl:=aM hln;split at h;rename_i fr hp hfr;obtain⟨hargs,h⟩:=h;have hargs:=aM hargs;have hidx:((E.loops++[(l,rec)])++ls)[E.loops.length]?=some (l,rec):=by rw[cG (by simp),dH (aA _)];simp
 obtain rfl:=hs.ext'.yl E.loops.length l rec hidx k hk;obtain⟨Zg,hk2⟩:=hs.EB hidx hp;rw[Pz rec hr1 Zf]at hk2;have akf:S.bK[xs.length]?=some fr:=by
  unfold Yp at hfr;rw[Uv,hs.ext'.lz]at hfr;have :(xs++a1.tmps::E.bK).length-E.bK.length-1=xs.length:=by simp;omega
  rw[this]at hfr;exact hfr
 obtain⟨hsz,htm⟩:=hs.ext'.bK xs.length a1.tmps fr (by simp) akf;have hy:=run_yield (P:=E.C.P) (args:=vals.toArray) hk2 (by simp_all);refine⟨_,_,_,_,hy,?_⟩;have XV:vals.length=rec.params.toList.length:=by rw[hlen,hargs]
 have hts:=KW (G:=G) (w:=w) rec.params.toList vals args a1.tmps fr.tmps fr.n hlen XV hsz htm oC;have ahT:(rec.params.zip vals.toArray).foldl (λtmps x=>match x with|(t,a)=>tmps.setIfInBounds t a) rec.tmps=(rec.params.toList.zip vals).foldl (λt (p,v)=>t.setIfInBounds p v) a1.tmps:=by rw[<-Array.foldl_toList,hrt];simp
 rw[ahT,hra,hrb];have hrnd:∀q,(some k:Option Nat)=some q->∃(i:Nat) (r:Loop),((E.loops++[(k,rec)])++ls)[i]?=some (q,r):=λq hq=>by grind
 have hs1:=hs.enter (n:=fr.n) (vals:=(rec.params.toList.zip vals).foldl (λt (p,v)=>t.setIfInBounds p v) a1.tmps) hts.1 hts.2 (mj:=some k) hrnd;have hYr:eR {E with mj:=some k,bK:=a.tmps::(xs++a1.tmps::E.bK),loops:=(E.loops++[(k,rec)])++ls,fixed:=marksOf a.defers++fixed} Y:=by
  have :=hY.later (some k) (a.tmps::(xs++[a1.tmps])) ([(k,rec)]++ls) (marksOf a.defers++fixed);rw[<-e2]at this;have e3:(a.tmps::(xs++[a1.tmps]))++E.bK=a.tmps::(xs++a1.tmps::E.bK):=by simp
  rw[e3]at this;exact this
 have hA:=ha (E:={E with mj:=some k,bK:=a.tmps::(xs++a1.tmps::E.bK),loops:=(E.loops++[(k,rec)])++ls,fixed:=marksOf a.defers++fixed}) dJ hYr h ⟨_,hs1⟩;refine roundIn_of_wpIn (F:=Fence.wide) trivial (wpIn_mono hA ?_);rintro e a2 w2 ⟨S2,hq,G2,hs2⟩;cases e with
 |normal=>
  simp only[uy,Ug]at hq;split at hq;rename_i hp2;obtain⟨-,hk3⟩:=hs2.EB hidx hp2;refine⟨_,run_beginRound hk3 rfl,?_⟩;have hs3:=hs2.ahS (st':=.busy) hidx hp2;have hB:=hb (E:={E with mj:=some k,bK:=a.tmps::(xs++a1.tmps::E.bK),loops:=(E.loops++[(k,rec)])++ls,fixed:=marksOf a.defers++fixed}) dJ hYr hq ⟨_,hs3⟩;refine wpIn_mono hB ?_;obtain⟨ms,xR,-,-⟩:=hs.ext'.marks;have fin:∀{st:zS}{b:Bool}{jump:Option Code}{S4:aj}{a4:Act}{w4:World},yx E.loops.length st (K (.p (.bool b))) S4->nO {E with mj:=some k,bK:=a.tmps::(xs++a1.tmps::E.bK),loops:=(E.loops++[(k,rec)])++ls,fixed:=marksOf a.defers++fixed} S4 a4 w4->jump.isNone=b->(Loop.mk (if jump.isNone then LoopState.ready else .done) jump rec.fn rec.tmps rec.params rec.assign rec.body rec.defers)=st.of rec->∃v w',(Instr.endRound k jump).run E.C.P w4=.ok v w'/\∃v_1 x G' S',Ending.returned v=.returned v_1/\K x S'/\bt {E with mj:=mj,bK:=xs++a1.tmps::E.bK,loops:=(E.loops++[(k,rec)])++ls,fixed:=fixed} G' S' a w'/\aT G' w' v_1 x:=λ{st b jump S4 a4 w4} hq4 ⟨G4,hs4⟩ hj akg=>by unfold yx at hq4;split at hq4;rename_i hp4;obtain⟨-,hk4⟩:=hs4.EB hidx hp4;obtain⟨f,r,hf,hK⟩:=EA hq4;have hs5:=hs4.ahS (st':=st) hidx hp4;have hs6:=bt.leave (E:={E with mj:=mj,bK:=xs++a1.tmps::E.bK,loops:=(E.loops++[(k,rec)])++ls,fixed:=fixed}) (a:=a) (mj:=some k) (ms:=ms) hs5 hf xR hs.ext'.mj;have hend:=run_endRound (P:=E.C.P) jump hk4;refine⟨_,_,hend,.bool jump.isNone,_,G4,_,rfl,hK,?_,.p _ _ (hj▸.bool _)⟩;have :({zS.of rec .busy with state:=if jump.isNone then LoopState.ready else .done,pending:=jump}:Loop)=st.of rec:=akg;simp_all;simp_all
  rintro e a4 w4 ⟨S4,hq4,hs4⟩;cases e with
  |normal=>exact fin (jump:=none) hq4 hs4 rfl rfl
  |ret=>exact fin (jump:=some .ret) hq4 hs4 rfl rfl
  |exit id=>exact fin (jump:=some (.exit id)) hq4 hs4 rfl rfl
  |_=>exact hq4.elim
  simp_all
 |_=>exact hq.elim
 grind
end
section
variable {E:Env}{G:bf}{S:aj}{a:Act}{w:World}{C:Ctx}{ops:Array Oper}
def ahW (m:Nat)(l:Array Bool):Prop:=∀j,j<m->l.getD j true=true
def Zh (C:Ctx)(ops:Array Oper)(m:Nat)(T:Array Bool->aj->Prop):Nat->Array Bool->aj->Prop|0,l,S=>ahW m l/\T l S|f+1,l,S=>Region.ready .any ops l≠[]/\∀i,i∈Region.ready .any ops l->i<m/\∃o,ops[i]?=some o/\lH C ops o (Zh C ops m T f (l.setIfInBounds i true)) S
theorem Ss {m:Nat}{T:Array Bool->aj->Prop}{Q:Exit->Act->World->Prop}(hT:∀l S a w,T l S->nO E S a w->wpAnyIn E.jb 0 E.C.P .any ops Q 5 l a w):∀(f:Nat)(l:Array Bool)(S:aj)(a:Act)(w:World),nO E S a w->Zh E.C ops m T f l S->wpAnyIn E.jb 0 E.C.P .any ops Q (f+5) l a w:=by
 intro f;induction f with
 |zero=>intro l S a w hs h;exact hT _ _ _ _ h.2 hs
 |succ f ih=>intro l S a w hs h;rw[show f+1+5=(f+5)+1 by omega];refine⟨λh0=>absurd h0 h.1,λi hi=>?_⟩;obtain⟨-,o,ho,hq⟩:=h.2 i hi;unfold wpOpIn;simp only[ho];exact uG hs hq λS a w hk hs'=>ih _ _ _ _ hs' hk
theorem St {m:Nat}{T:Array Bool->aj->Prop}{i:Nat}{oi:Oper}{x:FV}(hi:ops[i]?=some oi)(him:i<m):∀(f:Nat)(listed:Array Bool)(S:aj),qS ops listed->(∀j oj,ops[j]?=some oj->j≠i->listed.getD j true=false->tK ops ops.size j i=true\/(decide (j<m)=true/\oi.apart ops oj=true))->i∈Region.ready .any ops listed->jQ C ops oi x S->Zh C ops m T f (listed.setIfInBounds i true) (S.put oi.dst x)->Zh C ops m T (f+1) listed S:=by
 intro f;induction f with
 |zero=>
  intro listed S lU hfree hr hy H;refine⟨λh=>(by rw[h]at hr;cases hr),λj hj=>?_⟩;by_cases hji:j=i;subst hji;exact⟨him,oi,hi,hy.lH H⟩;exfalso;obtain⟨Ib,oj,Ur,hall⟩:=mem_ready.1 hj;rcases hfree j oj Ur hji Ib with hre|⟨hjm,hap⟩;have h2:=lU.reach _ _ _ hre λo ho=>by rw[Ur]at ho;obtain rfl:=au ho;exact hall
  rw[CW (mem_ready.1 hr).1]at h2;cases h2;have :=H.1 j (by simpa using hjm);rw[getD_set_ne true (eu hji)]at this;rw[Ib]at this;cases this
 |succ f ih=>
  intro listed S lU hfree hr hy H;refine⟨λh=>(by rw[h]at hr;cases hr),λj hj=>?_⟩;by_cases hji:j=i;subst hji;exact⟨him,oi,hi,hy.lH H⟩;obtain⟨akh,oj,Ur,h1⟩:=H.2 j (ready_mono hj hji);obtain⟨Ib,oj',aki,hall⟩:=mem_ready.1 hj;rcases hfree j oj Ur hji Ib with hre|⟨hjm,hap⟩;have h2:=lU.reach _ _ _ hre λo ho=>by rw[aki]at ho;obtain rfl:=au ho;exact hall
  rw[CW (mem_ready.1 hr).1]at h2;cases h2;have h2:=KU hap hy h1;have Ic:∀k ok,ops[k]?=some ok->k≠i->(listed.setIfInBounds j true).getD k true=false->tK ops ops.size k i=true\/(decide (k<m)=true/\oi.apart ops ok=true):=λk ok hk hki hun=>by refine hfree k ok hk hki ?_;by_cases hjk:j=k;subst hjk;exact Ib;rw[getD_set_ne true hjk]at hun;exact hun
  obtain⟨y,hy2,h3⟩:=iO h2;refine⟨akh,oj,Ur,hy2.lH (ih (listed.setIfInBounds j true) _ (lU.set hj) Ic (ready_mono hr (eu hji)) h3.1 ?_)⟩;rw[CY _ _ hji];exact h3.2
theorem Zi {K:aj->Prop}:∀(l:List Oper)(k:Nat)(listed:Array Bool)(S:aj),qS ops listed->(∀j,j<l.length->l[j]?=ops[k+j]?)->Cl ops l.length k listed=true->Hv C ops l K S->Zh C ops (k+l.length) (λl' S'=>yw ops (k+l.length) l'=true/\K S') l.length listed S:=by
 intro l;induction l with
 |nil=>intro k listed S _ _ hB h;simp only[bn,Cl,br,bA,hU]at hB;exact⟨λj hj=>hB.2 j hj,hB.1,h⟩
 |cons o l ih=>
  intro k listed S lU hl hB h;have h0:ops[k]?=some o:=by simpa using(hl 0 (by simp)).symm
  simp only[aR,Cl,br]at hB;obtain⟨⟨hr,hf⟩,hB'⟩:=hB;have hr':k∈Region.ready .any ops listed:=by simpa using hr
  obtain⟨x,hy,hK⟩:=iO (HZ h);have e:k+(o::l).length=k+1+l.length:=by simp only[aR];omega
  rw[e];refine St h0 oO l.length listed S lU (λj oj hj hne hun=>?_) hr' hy ?_;have :=Bs h0 hf j oj hj hne hun;rw[show k+(l.length+1)=k+1+l.length by omega]at this;exact this;exact ih (k+1) _ _ (lU.set hr') (λj hj=>by have :=hl (j+1) (by simpa using hj);simpa[fH,nQ 1 j]using this) hB' hK
theorem wpOp_step {Q:Exit->Act->World->Prop}{i:Nat}{o:Oper}{a':Act}{w':World}{K:Act->World->Prop}(ho:ops[i]?=some o)(hg:o.guard=none)(hs:AO E Q o a w a' w')(h:K a' w'):wpOpIn E.jb 0 E.C.P ops Q i K a w:=by unfold wpOpIn;simp only[ho];rw[ag (by simp[Region.wanted,hg])];exact hs _ h
theorem Zj {m:Nat}{K:aj->Prop}{Q:Exit->Act->World->Prop}(hQ:∀S' a' w',K S'->nO E S' a' w'->Q .normal a' w')(hm:∀j,(ops.toList.drop m)[j]?=ops[m+j]?){l:Array Bool}(ht:yw ops m l=true)(h:uV E.C (ops.toList.drop m) K S)(hs:nO E S a w):wpAnyIn E.jb 0 E.C.P .any ops Q 5 l a w:=by
 obtain⟨G,hs⟩:=hs;obtain⟨o1,o2,o3,o4,o5,a1,a2,a3,a4,a5,b3,c2,w1,w2,w3,hl,⟨g1,g2,g3,g4,g5⟩,s1,s2,s3,s4,s5,q,s6,s7,s8,s9⟩:=HV hQ h hs;have i1:ops[m]?=some o1:=by have :=hm 0;rw[hl]at this;simpa using this.symm
 have i2:ops[m+1]?=some o2:=by have :=hm 1;rw[hl]at this;simpa using this.symm
 have i3:ops[m+2]?=some o3:=by have :=hm 2;rw[hl]at this;simpa using this.symm
 have i4:ops[m+3]?=some o4:=by have :=hm 3;rw[hl]at this;simpa using this.symm
 have i5:ops[m+4]?=some o5:=by have :=hm 4;rw[hl]at this;simpa using this.symm
 simp only[yw,br,beq_iff_eq]at ht;obtain⟨⟨⟨⟨⟨⟨⟨⟨⟨⟨⟨⟨r0,ra⟩,rb⟩,rb2⟩,rb3⟩,rb4⟩,rc⟩,rc2⟩,rc3⟩,rd⟩,rd1⟩,rd2⟩,rd3⟩:=ht;refine wpAnyIn_all r0 (by simp) λi hi=>?_;obtain rfl:=aP.1 hi;refine wpOp_step i1 g1 s1 (wpAnyIn_all ra (by simp) λi hi=>?_);rcases aK.1 hi with rfl|hi;refine wpOp_step i2 g2 s2 (wpAnyIn_all rb (by simp) λi hi=>?_);rcases aK.1 hi with rfl|hi;refine wpOp_step i3 g3 s3 (wpAnyIn_all rb2 (by simp) λi hi=>?_);obtain rfl:=aP.1 hi;refine wpOp_step i4 g4 s4 (wpAnyIn_all rb3 (by simp) λi hi=>?_);obtain rfl:=aP.1 hi;exact wpOp_step i5 g5 s5 (wpAnyIn_done rb4 q _);obtain rfl:=aP.1 hi;refine wpOp_step i4 g4 s6 (wpAnyIn_all rc (by simp) λi hi=>?_);obtain rfl:=aP.1 hi;refine wpOp_step i3 g3 s7 (wpAnyIn_all rc2 (by simp) λi hi=>?_);obtain rfl:=aP.1 hi;exact wpOp_step i5 g5 s5 (wpAnyIn_done rc3 q _);obtain rfl:=aP.1 hi;refine wpOp_step i4 g4 s8 (wpAnyIn_all rd (by simp) λi hi=>?_);obtain rfl:=aP.1 hi;refine wpOp_step i2 g2 s9 (wpAnyIn_all rd1 (by simp) λi hi=>?_);obtain rfl:=aP.1 hi;refine wpOp_step i3 g3 s7 (wpAnyIn_all rd2 (by simp) λi hi=>?_);obtain rfl:=aP.1 hi;exact wpOp_step i5 g5 s5 (wpAnyIn_done rd3 q _)
theorem Kc {call:iQ}{Y:pH}(dJ:mS E.C call)(hY:eR E Y){id:Nat}{ops:Array Oper}{draw:Bool}{K:aj->Prop}{Q:Exit->Act->World->Prop}(hQ:∀S a w,K S->nO E S a w->Q .normal a w)(hs:nO E S a w)(h:GD E.C call Y ops draw K S):(Code.region id ops draw).wpIn E.jb 0 E.C.P Q a w:=by
 cases draw with
 |false=>exact HX dJ hY hQ hs rfl h
 |true=>
  obtain⟨hd,h⟩:=h;simp only[Cm,br]at hd;have h5:=gZ hd.1;obtain⟨m,hm⟩:∃m,m=ops.size-5:=⟨_,rfl⟩;rw[<-hm]at h hd;have hl:(ops.toList.take m).length=m:=by simp;omega
  have :=Zi (C:=E.C) (ops:=ops) (K:=uV E.C (ops.toList.drop m) K) (ops.toList.take m) 0 (Array.replicate ops.size false) S ⟨by simp,λp o hp hl=>by have :p<ops.size:=(bq.1 hp).1;simp[this]at hl⟩ (λj hj=>by rw[hl]at hj;simp[sW,hj]) (by rw[hl];exact hd.2) h;rw[hl,de]at this;refine wpIn_region_any E.C.mixed ?_;rw[show ops.size=m+5 by omega];refine Ss (m:=m) (ops:=ops) (T:=λl' S'=>yw ops m l'=true/\uV E.C (ops.toList.drop m) K S') (λl S a w ht hs=>Zj (m:=m) (ops:=ops) hQ (λj=>by simp[gY]) ht.1 ht.2 hs) m (Array.replicate (m+5) false) S _ _ (let⟨G,hs⟩:=hs;⟨G,hs.drew⟩) ?_;rw[show m+5=ops.size by omega];exact this
end
end Qv
