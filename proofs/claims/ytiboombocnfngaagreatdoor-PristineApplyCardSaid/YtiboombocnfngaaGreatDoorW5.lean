/- Part 5 of the proof: its lemmas. No condition. -/
import Derived.Test.YtiboombocnfngaaGreatDoorW4
import Derived.Deep.LoopGhost
set_option maxRecDepth 10000
set_option maxHeartbeats 80000000
set_option linter.all false
namespace Qv
open Go Go.RowKit
theorem WW {α:Type}{o:Nat}{l:α}:∀{m:List (Nat×α)},getM m o=some l->vG m o l=m:=by
 intro m;induction m with
 |nil=>intro h;rfl
 |cons p m ih=>obtain⟨u,i⟩:=p;intro h;simp only[getM]at h;show(match Nat.beq u o with|true=>(u,l)::m|false=>(u,i)::vG m o l)=_;grind
theorem LH {α:Type}(o:Nat)(l l':α):∀(m:List (Nat×α)),vG (vG m o l) o l'=vG m o l'
 |[]=>rfl
 |(u,i)::m=>by
  cases hb:Nat.beq u o with
  |true=>simp only[vG,hb]
  |false=>simp only[vG,hb];rw[LH o l l' m]
theorem Bu {α:Type}{o:Nat}{l l':α}:∀{m:List (Nat×α)},getM m o=some l->getM (vG m o l') o=some l':=by
 intro m;induction m with
 |nil=>intro h;cases h
 |cons p m ih=>obtain⟨u,i⟩:=p;intro h;simp only[getM]at h;simp only[vG];split at h;rename_i hb;simp only[hb,getM];rename_i hb;simp only[hb,getM];simp_all
theorem Dx {a:Act}{d:Nat}{v:Value}(h:d<a.tmps.size):(a.put (some d) v).tmps.getD d undef=v:=by simp[Act.put,Array.getD,h]
theorem BU {a:Act}{d i:Nat}{v:Value}(h:i≠d):(a.put (some d) v).tmps.getD i undef=a.tmps.getD i undef:=by simp only[Act.put,Array.getD];by_cases hi:i<a.tmps.size;simp[hi,CV,eY h];grind
theorem It {a:Act}{d:Nat}{v:Value}:(a.put (some d) v).tmps.size=a.tmps.size:=by simp[Act.put]
theorem rD {S:an}{d i:Nat}{x:FV}(h:i≠d):(S.put (some d) x).get i=S.get i:=by unfold an.get an.put;simp only[Ql h]
theorem wg {i:Nat}{ds:List Nat}(h:hU i ds=false):i∉ds:=λhm=>by rw[oK.2 hm]at h;grind
section
variable {E:Env}{G:bl}{S:an}{a:Act}{w:World}
theorem Tn {call:iR}{Y:pn}(dO:ni E.C call)(hY:fh E Y){ops:Array Oper}{K:an->Prop}{Q:Exit->Act->World->Prop}{rest:List Oper}(hQ:∀S' a' w',K S'->nT E S' a' w'->wpListIn E.jv 0 E.C.P ops Q rest a' w'):∀(l:List Oper)(S:an)(a:Act)(w:World),pK E.C call Y ops l K S->nT E S a w->wpListIn E.jv 0 E.C.P ops Q (l++rest) a w:=by
 intro l;induction l with
 |nil=>intro S a w h hs;exact hQ _ _ _ h hs
 |cons o l ih=>intro S a w h hs;obtain⟨G,hs⟩:=hs;simp only[pK]at h;rw[cr];refine wpListIn_step λK' BT=>?_;split at h;rename_i hg;rw[ag (by simp[Region.wanted,hg])];exact uw dO hY hs h λS' a' w' hk hs'=>BT _ _ (ih _ _ _ hk hs');rename_i j want hg;split at h;simp_all;rename_i d hd;split at h;rename_i b hb;have hy:=tC hs hd hb;split at h;rename_i ED;rw[oI]at ED;rw[ag (by simp[Region.wanted,hg,hy,beq_iff_eq.1 ED])];exact uw dO hY hs h λS' a' w' hk hs'=>BT _ _ (ih _ _ _ hk hs');rename_i ED;rw[oI]at ED;rw[af (by simp[Region.wanted,hg,hy];simp_all)];exact⟨λf _=>Env.gD f,BT _ _ (ih _ _ _ h ⟨G,hs.put o.dst (jU G w)⟩)⟩;rename_i hb;have hy:=rR hs hd hb;rw[af (by simp[Region.wanted,hg,hy])];exact⟨λf _=>Env.gD f,BT _ _ (ih _ _ _ h ⟨G,hs.put o.dst (jU G w)⟩)⟩;simp_all
theorem To (hs:bA E G S a w){t kT eT:TypeId}(hu:E.C.P.underlying t=some (.map kT eT)){ob b:Nat}(hb:G.mp ob=some b){kk:AV}{l:List (AV×FV)}(hl:getM S.maps ob=some l){T:TypeId}{z:Nat}{x:Option AV}(Tf:getM E.C.ex.Nk ob=some (T,z,x))(hx:x≠some kk)(hz:(E.C.P.info? eT).map (·.zero)=some (some (.slice none 0 0))){L:List gZ}(hL:fB E.C.P 40 kT=some L)(hk:iJ (iw E.C.P kT) L kk=true)(hall:∀p,p∈l->iJ (iw E.C.P kT) L p.1=true){old:List (List AV)}(hold:match yq kk l with|some v=>v=.p (.sl old)|none=>old=[])(new:FV)(hkr:dH G.br w (tv (iw E.C.P kT) kk.cells) kk):∃(w1:World) (ZP:List MapEntry) (Qn:Nat) (l1:List (AV×FV)) (j:Nat) (e0:MapEntry) (ad:Option Addr) (c:Nat),(Instr.mapEntry t (.map (some b)) (tv (iw E.C.P kT) kk.cells)).run E.C.P w=.ok (.tuple #[.slice ad old.length c,.int .i64 (e0.born:Int)]) w1/\bA (E.Qp ob) G {S with maps:=vG S.maps ob l1} a w1/\w1.heap[b]?=some (.map ZP.toArray Qn)/\qb ZP Qn/\ZP.length=l1.length/\ZP[j]?=some e0/\e0.key=tv (iw E.C.P kT) kk.cells/\e0.val=.slice ad old.length c/\old.length<=c/\dH G.br w1 (.slice ad old.length c) (.sl old)/\((old.length=0/\c=0)\/∃b2 off,(ad=some ⟨b2,off,none⟩/\off=0)/\G.tail (.inr (ob,e0.born))=some (b2,off+old.length*z,off+c*z,T))/\(∀(i:Nat)(e:MapEntry)(p:AV×FV),ZP[i]?=some e->l1[i]?=some p->i≠j->x≠some p.1->EN G T z ob e)/\l1.set j (kk,new)=HR kk new l/\(∀(i:Nat)(e:MapEntry),ZP[i]?=some e->i≠j->e.born≠e0.born):=by
 obtain⟨b',gL,es,h1,h2,h3,h4,h5⟩:=hs.ext'.mps.at_ ob l hl;obtain rfl:b'=b:=by simp_all
 have hka:=NG (w:=w) h4 (λi e p a b=>(h5 i e p a b).1) hall;have hent:=WS (w:=w) hu hL hk h2 hka (z:=.slice none 0 0) (λw=>Im hz);rw[Dn]at hold;rw[uX];have hs1:=hs.Qp ob;have hnone:∀T z k,getM (E.Qp ob).C.ex.Nk ob=some (T,z,k)->False:=λT z k h=>(qj h).1 rfl;cases fZ:iL kk (iP l)with
 |none=>
  rw[fZ]at hent hold;simp only[Option.bind_none]at hold;subst hold;refine⟨_,es++[({key:=tv (iw E.C.P kT) kk.cells,val:=.slice none 0 0,born:=gL}:MapEntry)],gL+1,l++[(kk,.p (.sl []))],es.length,({key:=tv (iw E.C.P kT) kk.cells,val:=.slice none 0 0,born:=gL}:MapEntry),none,0,hent,?_,World.putObj_heap_same (bz.1 h2).1,⟨λe he=>?_,?_⟩,by grind,by simp,rfl,rfl,aB _,.Vg _ _,.inl ⟨rfl,rfl⟩,λi e p he hp hi hxp=>?_,?_,λi e he hi=>?_⟩;refine hs1.NN (es':=es++[({key:=tv (iw E.C.P kT) kk.cells,val:=.slice none 0 0,born:=gL}:MapEntry)]) (BM:=gL+1) (l':=l++[(kk,.p (.sl []))]) hb h2 ⟨λe he=>?_,?_⟩ (by grind) (λi e p he hp=>?_) (λT z k h=>(hnone T z k h).elim);rcases bk.1 he with he|he;have :=h3.lt e he;omega;simp_all;rw[aD,og];refine⟨h3.nd,by simp,λu hu v hv=>?_⟩;obtain⟨e,he,rfl⟩:=aJ.1 hu;have :=h3.lt e he;grind;by_cases hi:i<es.length;grind;rw[dN oO]at he;rw[dN oO,<-h4]at hp;cases hq:i-es.length with
  |zero=>rw[hq]at he hp;simp at he hp;subst he;subst hp;exact⟨hkr,.p _ _ (.Vg _ _)⟩
  |succ q=>simp_all
  rcases bk.1 he with he|he;have :=h3.lt e he;omega;simp_all;rw[aD,og];refine⟨h3.nd,by simp,λu hu v hv=>?_⟩;obtain⟨e,he,rfl⟩:=aJ.1 hu;have :=h3.lt e he;grind;have hlt:i<es.length:=by have :=(aI.1 he).1;simp at this;omega
  rw[cF hlt]at he;rw[cF oO]at hp;exact hs.ext'.mps.room ob T z x l b' gL es hl Tf hb h2 i e p he hp hxp;simp_all;have hlt:i<es.length:=by have :=(aI.1 he).1;simp at this;omega
  rw[cF hlt]at he;have :=h3.lt e (bW he);grind
 |some j=>
  rw[fZ]at hent hold;obtain⟨hj,hkj⟩:=uY fZ;rw[nY,aj]at hj;obtain⟨e0,ZV,hek,hrun⟩:=hent;simp only[nZ,ay hj,eW]at hold;have anL:(l[j]).1=kk:=by
   have h6:(iP l)[j]?=some kk:=by rw[ay oO,hkj]
   rw[nY,aM,ay hj]at h6;exact aq h6
  obtain⟨h6,h7⟩:=h5 j e0 l[j] ZV (ay hj);obtain⟨ad,n,c,g1,g2⟩:=hs.ext'.mps.room ob T z x l b' gL es hl Tf hb h2 j e0 l[j] ZV (ay hj) (by simp_all);rw[hold,g1]at h7;have h8:dH G.br w (.slice ad n c) (.sl old):=h7.plain;obtain⟨_,_,hv,hle,-⟩:=h8.lG;injection hv with q1 q2 q3;subst q2;subst q3;rw[g1]at hrun;refine⟨w,es,gL,l,j,e0,ad,c,hrun,?_,h2,h3,h4,ZV,hek,g1,hle,h8,g2,λi e p he hp hi hxp=>hs.ext'.mps.room ob T z x l b' gL es hl Tf hb h2 i e p he hp hxp,rfl,λi e he hi hbn=>?_⟩;rw[WW hl];omega;have Ti:=h3.nd;have e1:(es.map (·.born))[i]?=some e0.born:=by rw[aM,he];simp[hbn]
  have e2:(es.map (·.born))[j]?=some e0.born:=by rw[aM,ZV];rfl
  have FQ:=(aI.1 e1).1;exact hi (((List.getElem?_inj FQ Ti).1 (e1.trans e2.symm)))
theorem qm {P:Program}{o:Oper}{ρ:Operand->Value}{x:Operand}{i:Nat}{vs:Array Value}{v:Value}(ho:o.op=.extract x i)(hx:ρ x=.tuple vs)(hv:vs[i]?=some v):(execOp ρ o).run P w=.ok (.value v) w:=by simp[execOp,ho,hx,Instr.extract,hv]
theorem Tp {P:Program}{o:Oper}{ρ:Operand->Value}{t:TypeId}{m k:Operand}{v:Value}{w':World}(ho:o.op=.mapEntry t m k)(h:(Instr.mapEntry t (ρ m) (ρ k)).run P w=.ok v w'):(execOp ρ o).run P w=.ok (.value v) w':=by simp[execOp,ho,h]
theorem FZ {P:Program}{o:Oper}{ρ:Operand->Value}{x y:Operand}{tx ty:TypeId}{v:Value}{w':World}(ho:o.op=.call ⟨.builtin .append,#[x,y],#[tx,ty]⟩)(h:(Builtin.append_ #[tx,ty] o.type #[ρ x,ρ y]).run P w=.ok v w'):(execOp ρ o).run P w=.ok (.value v) w':=by simp[execOp,ho,resolve,invoke,builtin,h]
theorem Tq {P:Program}{o:Oper}{ρ:Operand->Value}{t:TypeId}{m s x:Operand}{w':World}(ho:o.op=.entryStore t m s x)(h:(Instr.entryStore t (ρ m) (ρ s) (ρ x)).run P w=.ok () w'):(execOp ρ o).run P w=.ok .skip w':=by simp[execOp,ho,h]
theorem ZW {es:List MapEntry}{j:Nat}{e0:MapEntry}(h:es[j]?=some e0)(v:Value):(es.set j {e0 with val:=v}).map (·.born)=es.map (·.born):=by apply gz;grind
theorem WX {ob:Nat}{G':bl}{Sx:an}{ax:Act}{w2:World}(hsE:bA (E.Qp ob) G' Sx ax w2){b:Nat}(hb:G'.mp ob=some b){es:List MapEntry}{gL:Nat}(hw2:w2.heap[b]?=some (.map es.toArray gL))(Du:qb es gL){l0 l1:List (AV×FV)}{m0:List (Nat×List (AV×FV))}(hm0:getM m0 ob=some l0)(afR:Sx.maps=vG m0 ob l1)(hlen:es.length=l1.length){j:Nat}{e0:MapEntry}(ZV:es[j]?=some e0){kk:AV}(hkr:dH G'.br w2 e0.key kk){v':Value}{new:List (List AV)}(hnew:dH G'.br w2 v' (.sl new)){T:TypeId}{z:Nat}{x:Option AV}(Tf:getM E.C.ex.Nk ob=some (T,z,x))(hroom:EN G' T z ob {e0 with val:=v'})(ET:∀(i:Nat)(e:MapEntry)(p:AV×FV),es[i]?=some e->l1[i]?=some p->i≠j->x≠some p.1->EN G' T z ob e):bA E G' {Sx with maps:=vG m0 ob (l1.set j (kk,.p (.sl new)))} ax (w2.putObj b (.map (es.set j {e0 with val:=v'}).toArray gL)):=by
 have Pk:getM Sx.maps ob=some l1:=by rw[afR];exact Bu hm0
 obtain⟨b2,anM,es2,q1,q2,q3,q4,q5⟩:=hsE.ext'.mps.at_ ob l1 Pk;obtain rfl:b2=b:=by simp_all
 obtain rfl:=NA hw2 q2;have hjl:j<es2.length:=(aI.1 ZV).1;have hsF:=hsE.NN (es':=es2.set j {e0 with val:=v'}) (BM:=gL) (l':=l1.set j (kk,.p (.sl new))) hb hw2 ⟨λe he=>by rcases List.mem_or_eq_of_mem_set he with he|rfl;exact Du.lt e he;exact Du.lt e0 (bW ZV),by rw[ZW ZV];exact Du.nd⟩ (by grind) (λi e p he hp=>by rw[List.getElem?_set]at he hp;by_cases hi:j=i;subst hi;rw[ag rfl,ag hjl]at he;rw[ag rfl,ag oO]at hp;obtain rfl:=aq he;obtain rfl:=aq hp;exact⟨hkr,.p _ _ hnew⟩;grind) (λT z k h=>((qj h).1 rfl).elim);rw[afR,LH]at hsF;refine bA.agC hsF λT2 z2 k2 l2 b3 anN es3 v1 v2 v3 v4 i e p v5 v6 v7=>?_;rw[Tf]at v2;obtain⟨rfl,rfl,rfl⟩:T=T2/\z=z2/\x=k2:=by simp_all
 have GS:l2=l1.set j (kk,.p (.sl new)):=by have :=Bu (l':=l1.set j (kk,.p (.sl new))) hm0;simp only at v1;rw[this]at v1;exact(aq v1).symm
 subst GS;obtain rfl:b2=b3:=by simp_all
 have qS:(w2.putObj b2 (.map (es2.set j {e0 with val:=v'}).toArray gL)).heap[b2]?=some (.map (es2.set j {e0 with val:=v'}).toArray gL):=World.putObj_heap_same (bz.1 hw2).1;grind
theorem Qx (S:an)(d0 d1 d2 d3:Nat)(m:List (Nat×List (AV×FV)))(m1:List (Nat×List (AV×FV))):cU {(((({S with maps:=m1}.put (some d0) .dW).put (some d1) .dW).put (some d2) .dW).put (some d3) .dW)with maps:=m} ((S.vH [d0,d1,d2,d3]).Lt m):=by
 refine⟨rfl,rfl,rfl,λo bs h=>⟨h,id⟩,⟨rfl,λi f f' h h'=>?_⟩,λi=>?_,λo ys h=>⟨ys,h,rfl,λi x y h1 h2=>?_⟩,λo l h=>⟨l,h,rfl,λi p p' h1 h2=>?_⟩,λq x h=>h⟩;have h':S.bM[i]?=some f':=h';have h:S.bM[i]?=some f:=h;rw[h]at h';obtain rfl:=aq h';exact⟨rfl,rfl,λ_=>bw.refl _⟩;show bw _ (match hU i [d0,d1,d2,d3]with|true=>.dW|false=>S.tmps i);cases hm:hU i [d0,d1,d2,d3]with
 |true=>exact bw.dW _
 |false=>have :=wg hm;simp only[aL,gQ,or_false,not_or]at this;obtain⟨h0,h1,h2,h3⟩:=this;simp only[an.put,Ql h0,Ql h1,Ql h2,Ql h3];exact bw.refl _
 rw[h1]at h2;obtain rfl:=aq h2;exact bw.refl _;rw[h1]at h2;obtain rfl:=aq h2;exact⟨rfl,bw.refl _⟩
theorem ak5 {α:Type}{l:List α}(h:l.length=5):∃a b c d e,l=[a,b,c,d,e]:=by match l,h with|[a,b,c,d,e],_=>simp_all
theorem WY {m k y d0 d1 d2 d3 n:Nat}(h:Zr m k y d0 d1 d2 d3 n=true):(d0<n/\d1<n/\d2<n/\d3<n)/\(m≠d0/\m≠d1/\m≠d2/\m≠d3)/\(k≠d0/\k≠d1/\k≠d2/\k≠d3)/\(y≠d0/\y≠d1/\y≠d2/\y≠d3)/\(d0≠d1/\d0≠d2/\d0≠d3)/\(d1≠d2/\d1≠d3)/\d2≠d3:=by unfold Zr at h;simp only[bn,adn,ek]at h;obtain⟨⟨⟨⟨⟨⟨⟨⟨⟨WQ,Pm⟩,hd2⟩,hd3⟩,hm⟩,hk⟩,hy⟩,adL⟩,adM⟩,agH⟩:=h;have hm:=wg hm;have hk:=wg hk;have hy:=wg hy;have adL:=wg adL;have adM:=wg adM;simp only[aL,gQ,or_false,not_or]at hm hk hy adL adM;exact⟨⟨WQ,Pm,hd2,hd3⟩,hm,hk,hy,adL,adM,bH agH⟩
def Bv (E:Env)(Q:Exit->Act->World->Prop)(o:Oper)(a:Act)(w:World)(a':Act)(w':World):Prop:=∀X:Act->World->Prop,X a' w'->BP E o a w X Q
theorem Iu {K:an->Prop}{Q:Exit->Act->World->Prop}(hQ:∀S' a' w',K S'->nT E S' a' w'->Q .normal a' w'){l:List Oper}(h:vJ E.C l K S)(hs:bA E G S a w):∃(o1 o2 o3 o4 o5:Oper) (a1 a2 a3 a4 a5 b3 c2:Act) (w1 w2 w3:World),l=[o1,o2,o3,o4,o5]/\(o1.guard=none/\o2.guard=none/\o3.guard=none/\o4.guard=none/\o5.guard=none)/\Bv E Q o1 a w a1 w1/\Bv E Q o2 a1 w1 a2 w1/\Bv E Q o3 a2 w1 a3 w2/\Bv E Q o4 a3 w2 a4 w2/\Bv E Q o5 a4 w2 a5 w3/\Q .normal a5 w3/\Bv E Q o4 a2 w1 b3 w1/\Bv E Q o3 b3 w1 a4 w2/\Bv E Q o4 a1 w1 c2 w1/\Bv E Q o2 c2 w1 b3 w1:=by
 unfold vJ at h;obtain⟨t,tx,ty,m,k,y,d0,d1,d2,d3,GV,Iv,ZX,hd,h⟩:=h;have hlen:l.length=5:=by rw[<-aj (f:=λo:Oper=>o.op),GV];rfl
 obtain⟨o1,o2,o3,o4,o5,hl5⟩:=ak5 hlen;rw[hl5]at GV Iv ZX;obtain⟨p1,GV⟩:=fI GV;obtain⟨p2,GV⟩:=fI GV;obtain⟨p3,GV⟩:=fI GV;obtain⟨p4,GV⟩:=fI GV;obtain⟨p5,-⟩:=fI GV;obtain⟨s1,Iv⟩:=fI Iv;obtain⟨s2,Iv⟩:=fI Iv;obtain⟨s3,Iv⟩:=fI Iv;obtain⟨s4,Iv⟩:=fI Iv;obtain⟨s5,-⟩:=fI Iv;obtain⟨g1,ZX⟩:=fI ZX;obtain⟨g2,ZX⟩:=fI ZX;obtain⟨g3,ZX⟩:=fI ZX;obtain⟨g4,ZX⟩:=fI ZX;obtain⟨g5,-⟩:=fI ZX;obtain⟨⟨WQ,Pm,hd2,hd3⟩,⟨m0,m1,m2,m3⟩,⟨k0,k1,k2,k3⟩,⟨y0,y1,y2,y3⟩,⟨d01,d02,d03⟩,⟨d12,d13⟩,agH⟩:=WY hd;clear hd hlen GV Iv ZX;have p1:o1.op=_:=p1;have p2:o2.op=_:=p2;have p3:o3.op=_:=p3;have p4:o4.op=_:=p4;have p5:o5.op=_:=p5;have s1:o1.dst=_:=s1;have s2:o2.dst=_:=s2;have s3:o3.dst=_:=s3;have s4:o4.dst=_:=s4;have s5:o5.dst=_:=s5;split at h;rename_i kT eT _ e _ ui ht htx hty;have hu:=(E.C.ok ht).map;have KD:=(E.C.ok htx).slice;obtain⟨dd,ZN,hsh⟩:=(E.C.ok hty).zh;split at h;rename_i j ki ob zw hj hki hmm;have hok:=E.C.ok hj;have hdk:∀k,dd≠.int k:=λk e=>by rw[<-hsh,e]at zw;simp[shapeOf,Shape.FM]at zw
 split at h;rename_i kk ys l0 T z x hkk hyy hl Tf;obtain⟨hT,hz,hb0,hx,hzero,L,hL,hkf,hall,zv,old,hold,hlo,hbd,l',hl',hK⟩:=h;obtain rfl:=aN hT;obtain rfl:=aN hz;have hb0:=bH hb0;have hagg:=(E.C.ok hki).iw;rw[<-hagg]at hkf hall;have hkr:=(aU.get hs k).fA hkk;have hkey:=tZ hkr hkf;have hmr:=aU.get hs m;rw[hmm]at hmr;obtain⟨b,hvm,hb⟩:∃b,a.tmps.getD m undef=.map (some b)/\G.mp ob=some b:=by
  generalize a.tmps.getD m undef=vm at hmr;cases hmr with
  |gw _ b hb=>simp_all
 obtain⟨w1,ZP,Qn,l1,jx,e0,ad,c,r1,hsB,hw1,Du,afS,ZV,hek,LD,hle,oD,hroom,NP,BO,aiD⟩:=To hs hu hb hl Tf hx hzero hL hkf hall hold (.p (.sl (old++ys))) (by simp_all);have hsz:a.tmps.size=S.n:=hs.size;obtain⟨vt,hvt⟩:∃vt,vt=Value.tuple #[.slice ad old.length c,.int .i64 (e0.born:Int)]:=⟨_,rfl⟩;obtain⟨v0,hv0⟩:∃v0,v0=Value.slice ad old.length c:=⟨_,rfl⟩;have hsC:=(hsB.put (some d0) (v:=vt) (x:=.dW) (.dW _)).put (some d1) (v:=v0) (x:=.dW) (.dW _);obtain⟨a1,ha1⟩:∃a1,a1=a.put (some d0) vt:=⟨_,rfl⟩;obtain⟨a2,ha2⟩:∃a2,a2=a1.put (some d1) v0:=⟨_,rfl⟩;rw[<-ha1,<-ha2]at hsC;have z1:a1.tmps.size=S.n:=by rw[ha1,It,hsz]
 have z2:a2.tmps.size=S.n:=by rw[ha2,It,z1]
 have f1:∀i,i≠d0->a1.tmps.getD i undef=a.tmps.getD i undef:=λi hi=>by rw[ha1];exact BU hi
 have f2:∀i,i≠d1->a2.tmps.getD i undef=a1.tmps.getD i undef:=λi hi=>by rw[ha2];exact BU hi
 have x1:a1.tmps.getD d0 undef=vt:=by rw[ha1];exact Dx oO
 have x2:a2.tmps.getD d1 undef=v0:=by rw[ha2];exact Dx oO
 have hyr:=aU.get hsC y;rw[rD y1,rD y0]at hyr;obtain⟨news,n1,n2,n3⟩:=aU.items (P:=E.C.P) (e:=j.size) hyy hyr zv;obtain⟨ad',c',w2,G',r2,hsD,afT,agI,hkeep,hmp,ET⟩:=Qr (ty:=o3.type) hsC (q:=(ob,e0.born)) (by
  cases hq:getM (E.Qp ob).C.ex.Nk ob with
  |none=>rfl
  |some r=>exact absurd rfl (qj hq).1) KD ZN hdk hok oD hlo zv hle hroom n1 n2 n3 hbd hb0
 obtain⟨v',WT⟩:∃v',v'=Value.slice ad' (old++ys).length c':=⟨_,rfl⟩;rw[<-hv0,<-WT]at r2;rw[<-WT]at afT;have hsE:=(hsD.put (some d2) (v:=v') (x:=.dW) (.dW _)).put (some d3) (v:=.int .i64 (e0.born:Int)) (x:=.dW) (.dW _);obtain⟨a3,ha3⟩:∃a3,a3=a2.put (some d2) v':=⟨_,rfl⟩;obtain⟨a4,ha4⟩:∃a4,a4=a3.put (some d3) (.int .i64 (e0.born:Int)):=⟨_,rfl⟩;rw[<-ha3,<-ha4]at hsE;have z3:a3.tmps.size=S.n:=by rw[ha3,It,z2]
 have f3:∀i,i≠d2->a3.tmps.getD i undef=a2.tmps.getD i undef:=λi hi=>by rw[ha3];exact BU hi
 have f4:∀i,i≠d3->a4.tmps.getD i undef=a3.tmps.getD i undef:=λi hi=>by rw[ha4];exact BU hi
 have x3:a3.tmps.getD d2 undef=v':=by rw[ha3];exact Dx oO
 have x4:a4.tmps.getD d3 undef=.int .i64 (e0.born:Int):=by rw[ha4];exact Dx oO
 have hw2:w2.heap[b]?=some (.map ZP.toArray Qn):=ET _ _ hw1 rfl;have adN:=aU.get hsE k;rw[rD k3,rD k2,rD k1,rD k0,f4 _ k3,f3 _ k2,f2 _ k1,f1 _ k0,hkey]at adN;have adN:dH G'.br w2 e0.key kk:=by rw[hek];exact adN.fA (y:=kk) hkk
 have hG:=WX (E:=E) hsE (b:=b) (by grind) hw2 Du (m0:=S.maps) hl rfl afS ZV adN afT Tf ⟨ad',_,c',WT,agI⟩ (λi e p he hp hi hxp=>by obtain⟨ad2,n2,c2,u1,u2⟩:=NP i e p he hp hi hxp;exact⟨ad2,n2,c2,u1,u2.imp id λ⟨b2,off,u3,u4⟩=>⟨b2,off,u3,hkeep _ _ (λe1=>aiD i e he hi (iF e1).2) u4⟩⟩);have aiF:=Tq (P:=E.C.P) (w:=w2) (ρ:=a4.eval) p5 (w':=w2.putObj b (.map (ZP.set jx {e0 with val:=v'}).toArray Qn)) (by rw[kQ,kQ,kQ,f4 _ m3,f3 _ m2,f2 _ m1,f1 _ m0,hvm,x4,f4 _ agH,x3];exact run_store hw2 Du.nd ZV v');have hne:∀{p q:Nat},p≠q->∀d,some p=some d->some q≠some d:=λh d e e2=>h (aq (e.trans e2.symm));have eb:(a2.put (some d3) (.int .i64 (e0.born:Int))).put (some d2) v'=a4:=by rw[ha4,ha3];exact Act.put_comm _ _ _ (by simp;omega)
 have ec:(a1.put (some d3) (.int .i64 (e0.born:Int))).put (some d1) v0=a2.put (some d3) (.int .i64 (e0.born:Int)):=by rw[ha2];exact Act.put_comm _ _ _ (by simp;omega)
 refine⟨o1,o2,o3,o4,o5,a1,a2,a3,a4,a4.put o5.dst undef,a2.put (some d3) (.int .i64 (e0.born:Int)),a1.put (some d3) (.int .i64 (e0.born:Int)),w1,w2,w2.putObj b (.map (ZP.set jx {e0 with val:=v'}).toArray Qn),hl5,⟨g1,g2,g3,g4,g5⟩,λX hX=>?_,λX hX=>?_,λX hX=>?_,λX hX=>?_,λX hX=>?_,?_,λX hX=>?_,λX hX=>?_,λX hX=>?_,λX hX=>?_⟩;exact wp_value (v:=vt) (w':=w1) (Tp p1 (by rw[kQ,kQ,hvm,hkey,r1,hvt])) (by rw[s1,<-ha1];exact hX);exact wp_value (v:=v0) (w':=w1) (qm (vs:=#[v0,.int .i64 (e0.born:Int)]) p2 (by rw[kQ,x1,hvt,hv0]) rfl) (by rw[s2,<-ha2];exact hX);exact wp_value (v:=v') (w':=w2) (FZ p3 (by rw[kQ,kQ,x2];exact r2)) (by rw[s3,<-ha3];exact hX);exact wp_value (v:=.int .i64 (e0.born:Int)) (w':=w2) (qm (vs:=#[v0,.int .i64 (e0.born:Int)]) p4 (by rw[kQ,f3 _ d02,f2 _ d01,x1,hvt,hv0]) rfl) (by rw[s4,<-ha4];exact hX);refine⟨λf _=>Env.gD f,?_⟩;rw[Oper.semAt_eq _ _ _ (λc=>by grind),aiF];exact hX;rw[s5];refine hQ _ _ _ hK ?_;rw[<-hl',<-BO];exact nT.weaken ⟨_,hG⟩ (Qx S d0 d1 d2 d3 _ _);exact wp_value (v:=.int .i64 (e0.born:Int)) (w':=w1) (qm (vs:=#[v0,.int .i64 (e0.born:Int)]) p4 (by rw[kQ,f2 _ d01,x1,hvt,hv0]) rfl) (by rw[s4];exact hX);exact wp_value (v:=v') (w':=w2) (FZ p3 (by rw[kQ,kQ,BU d13,BU y3,x2];exact r2)) (by rw[s3,eb];exact hX);exact wp_value (v:=.int .i64 (e0.born:Int)) (w':=w1) (qm (vs:=#[v0,.int .i64 (e0.born:Int)]) p4 (by rw[kQ,x1,hvt,hv0]) rfl) (by rw[s4];exact hX);exact wp_value (v:=v0) (w':=w1) (qm (vs:=#[v0,.int .i64 (e0.born:Int)]) p2 (by rw[kQ,BU d03,x1,hvt,hv0]) rfl) (by rw[s2,ec];exact hX);simp_all;simp_all;simp_all
theorem Tr {ops:Array Oper}{K:an->Prop}{Q:Exit->Act->World->Prop}(hQ:∀S' a' w',K S'->nT E S' a' w'->Q .normal a' w'){l:List Oper}(h:vJ E.C l K S)(hs:bA E G S a w):wpListIn E.jv 0 E.C.P ops Q l a w:=by obtain⟨o1,o2,o3,o4,o5,a1,a2,a3,a4,a5,b3,c2,w1,w2,w3,rfl,⟨g1,g2,g3,g4,g5⟩,s1,s2,s3,s4,s5,q,-⟩:=Iu hQ h hs;exact wpListIn_plain g1 λK1 hK1=>s1 _ (hK1 _ _ (wpListIn_plain g2 λK2 hK2=>s2 _ (hK2 _ _ (wpListIn_plain g3 λK3 hK3=>s3 _ (hK3 _ _ (wpListIn_plain g4 λK4 hK4=>s4 _ (hK4 _ _ (wpListIn_plain g5 λK5 hK5=>s5 _ (hK5 _ _ q)))))))))
theorem Iw {call:iR}{Y:pn}(dO:ni E.C call)(hY:fh E Y){id:Nat}{ops:Array Oper}{draw:Bool}{K:an->Prop}{Q:Exit->Act->World->Prop}(hQ:∀S a w,K S->nT E S a w->Q .normal a w)(hs:nT E S a w)(hd:draw=false)(h:Hp E.C call Y ops draw K S):(Code.region id ops draw).wpIn E.jv 0 E.C.P Q a w:=by
 unfold Hp at h;cases draw with
 |true=>cases hd
 |false=>refine wpIn_region_list ?_;rw[<-fH (ops.toList.length-5) ops.toList];exact Tn dO hY (λS' a' w' hk ⟨G',hs'⟩=>Tr hQ hk hs') _ _ _ _ h hs
end
section
variable {E:Env}{G:bl}{S:an}{a:Act}{w:World}{o:Oper}{ops:Array Oper}{C:Ctx}{call:iR}{Y:pn}
theorem EZ {fs:List (Nat×TypeId)}{jE:List (TypeId×jV)}{S S':an}:∀(parts:List (Nat×Operand))(cells:List FV),(∀p,p∈parts->S'.val p.2=S.val p.2)->nD fs jE S' parts cells=nD fs jE S parts cells:=by
 intro parts;induction parts with
 |nil=>intro cells _;rfl
 |cons p parts ih=>obtain⟨i,x⟩:=p;intro cells h;have hx:=h (i,x) kX;simp only at hx;simp only[nD,hx];split;rfl;split;rfl;split;split;rfl;exact ih _ λp hp=>h p (dG _ hp);rfl
theorem wh {size:Nat}{S S':an}:∀(parts:List (Nat×Operand))(cells:List FV),(∀p,p∈parts->S'.val p.2=S.val p.2)->gu size S' parts cells=gu size S parts cells:=by
 intro parts;induction parts with
 |nil=>intro cells _;rfl
 |cons p parts ih=>obtain⟨i,x⟩:=p;intro cells h;have hx:=h (i,x) kX;simp only at hx;simp only[gu,hx];split;split;rfl;exact ih _ λp hp=>h p (dG _ hp);rfl
theorem Ga {S S':an}{t:TypeId}{parts:Array (Nat×Operand)}{K:FV->Prop}(h:∀p,p∈parts.toList->S'.val p.2=S.val p.2):eV C S' (.build t parts) K=eV C S (.build t parts) K:=by simp only[eV,Hh];split;split;rfl;rw[EZ _ _ h];split;rfl;rw[wh _ _ h];rfl
theorem wj {S S':an}{t:TypeId}{len:Nat}{parts:Array (Nat×Operand)}{K:FV->Prop}(h:∀p,p∈parts.toList->S'.val p.2=S.val p.2):eV C S' (.buildSlice t len parts) K=eV C S (.buildSlice t len parts) K:=by simp only[eV,mC];split;split;rfl;split;rfl;rw[wh _ _ h];rfl
theorem Gb {S S':an}{op:Op}{K:FV->Prop}(hv:∀x,x∈op.operands->S'.val x=S.val x)(ho:S'.aK=S.aK)(hm:∀t x i ok,op=.lookup t x i ok->S'.maps=S.maps)(hit:∀it,op=.entry it->S'.jD=S.jD):eV C S' op K=eV C S op K:=by
 cases op<;>try rfl
 case lookup t x i ok=>simp only[eV];rw[hv x (by simp[Op.operands]),hv i (by simp[Op.operands]),hm _ _ _ _ rfl]
 case move x=>simp only[eV];rw[hv x (by simp[Op.operands])]
 case assign x=>simp only[eV];rw[hv x (by simp[Op.operands])]
 case pick c x y=>simp only[eV];rw[hv c (by simp[Op.operands]),hv x (by simp[Op.operands]),hv y (by simp[Op.operands])]
 case binOp op t x y yt=>simp only[eV];rw[hv x (by simp[Op.operands]),hv y (by simp[Op.operands])]
 case unOp op t x=>simp only[eV];rw[hv x (by simp[Op.operands])]
 case convert s d x=>simp only[eV];rw[hv x (by simp[Op.operands])]
 case makeInterface t x=>simp only[eV];rw[hv x (by simp[Op.operands])]
 case makeFunc fn first captured=>simp only[eV];have h1:first.toList.map S'.val=first.toList.map S.val:=en λx hx=>hv x (by simp[Op.operands];exact .inl (by simpa using hx));have h2:captured.toList.map S'.val=captured.toList.map S.val:=en λx hx=>hv x (by simp[Op.operands];exact .inr (by simpa using hx));rw[h1,h2]
 case build t parts=>exact Ga λp hp=>hv p.2 (by simp[Op.operands];exact⟨p.1,by simpa using hp⟩)
 case buildSlice t len parts=>exact wj λp hp=>hv p.2 (by simp[Op.operands];exact⟨p.1,by simpa using hp⟩)
 case load t x=>simp only[eV];rw[hv x (by simp[Op.operands]),ho]
 case nilCheck x=>simp only[eV];rw[hv x (by simp[Op.operands])]
 case fieldAddr s x f=>simp only[eV];rw[hv x (by simp[Op.operands])]
 case field s x f=>simp only[eV];rw[hv x (by simp[Op.operands])]
 case indexAddr t x i=>simp only[eV];rw[hv x (by simp[Op.operands]),hv i (by simp[Op.operands]),ho]
 case index t x i=>simp only[eV];rw[hv x (by simp[Op.operands]),hv i (by simp[Op.operands])]
 case slice t x lo hi mx=>
  cases mx with
  |some m=>rfl
  |none=>
   simp only[eV];have h1:lo.map S'.val=lo.map S.val:=by
    cases lo with
    |none=>rfl
    |some y=>simp only[eW];rw[hv y (by simp[Op.operands])]
   have h2:hi.map S'.val=hi.map S.val:=by
    cases hi with
    |none=>rfl
    |some y=>simp only[eW];rw[hv y (by simp[Op.operands])]
   rw[hv x (by simp[Op.operands]),h1,h2]
 case extract x i=>simp only[eV];rw[hv x (by simp[Op.operands])]
 case call c=>
  obtain⟨callee,args,types⟩:=c;have h1:args.toList.map S'.val=args.toList.map S.val:=en λx hx=>hv x (by cases callee<;>simp[Op.operands,Call.operands]<;>first|exact .inr (by simpa using hx)|(simpa using hx));cases callee with
  |value f=>simp only[eV];rw[h1,hv f (by simp[Op.operands,Call.operands])]
  |builtin b=>simp only[eV];rw[h1,ho]
  |invoke r m=>rfl
theorem an.Iy {S:an}{dst:Option Nat}{v:FV}{t:Nat}(h:∀d,dst=some d->t≠d):(S.put dst v).get t=S.get t:=by
 cases dst with
 |none=>rfl
 |some d=>
  have hne:=h d rfl;have :Nat.beq t d=false:=by cases hb:Nat.beq t d;rfl;exact absurd (aN hb) hne
  simp only[an.get,an.put,this]
theorem an.xB {S:an}{dst:Option Nat}{v:FV}{x:Operand}(h:∀d,dst=some d->x≠.tmp d):(S.put dst v).val x=S.val x:=by
 cases x with
 |tmp t=>exact an.Iy λd hd e=>h d hd (by rw[e])
 |_=>rfl
theorem an.Qy {S:an}{dst:Option Nat}{v:FV}:(S.put dst v).aK=S.aK:=by cases dst<;>rfl
theorem an.put_comm {S:an}{x y:Option Nat}{u v:FV}(h:∀d,x=some d->y≠some d):(S.put x u).put y v=(S.put y v).put x u:=by
 cases x with
 |none=>rfl
 |some d=>
  cases y with
  |none=>rfl
  |some e=>
   have hne:d≠e:=λhe=>h d rfl (he▸rfl);simp only[an.put];congr 1;funext i;by_cases h1:i=d;have h2:Nat.beq i e=false:=by cases hb:Nat.beq i e;rfl;exact absurd ((aN hb).symm.trans h1).symm hne
   rw[h2];have h2:Nat.beq i d=false:=by cases hb:Nat.beq i d;rfl;exact absurd (aN hb) h1
   rw[h2]
theorem tD {S:an}{dst:Option Nat}{v:FV}{o:Oper}{K:FV->Prop}(h:∀d,dst=some d->d∉o.looksAt ops):eV C (S.put dst v) o.op K=eV C S o.op K:=Gb (λx hx=>an.xB λd hd hxd=>h d hd (by subst hxd;exact jJ _ (xC.2 ⟨.tmp d,by simpa using hx,rfl⟩))) an.Qy (λ_ _ _ _ _=>by cases dst<;>rfl) (λ_ _=>by cases dst<;>rfl)
def jK (ops:Array Oper)(S:an)(o:Oper):Option Bool:=match o.guard with|none=>some true|some (j,want)=>match(ops[j]?).bind (·.dst)with|none=>none|some d=>match S.get d with|.p (.bool b)=>some (b==want)|.p (.eN [])=>some false|_=>none
theorem sj {dst:Option Nat}{v:FV}(h:∀d,dst=some d->d∉o.looksAt ops):jK ops (S.put dst v) o=jK ops S o:=by unfold jK;split;rfl;rename_i j want hg;split;rfl;rename_i d hd;have :(S.put dst v).get d=S.get d:=an.Iy λe he hde=>h e he (by subst hde;simp[Oper.looksAt,hg,hd]);rw[this]
theorem tE (hs:bA E G S a w){b:Bool}(h:jK ops S o=some b):Region.wanted o (yielded ops a.tmps)=b:=by unfold jK at h;unfold Region.wanted;split at h;rename_i hg;rw[hg];exact aq h;rename_i j want hg;rw[hg];split at h;cases h;rename_i d hd;split at h;rename_i c hc;simp only[tC hs hd hc];have :=aq h;rw[<-this];cases c<;>cases want<;>rfl;rename_i hc;simp only[rR hs hd hc];exact aq h;cases h
def Fa:FV:=.p (.eN [])
def lY (C:Ctx)(ops:Array Oper)(o:Oper)(K:an->Prop)(S:an):Prop:=match jK ops S o with|some true=>∃v,eV C S o.op (λu=>u=v)/\K (S.put o.dst v)|some false=>K (S.put o.dst Fa)|none=>False
def Gc (C:Ctx)(call:iR)(Y:pn)(ops:Array Oper)(o:Oper)(K:an->Prop)(S:an):Prop:=match jK ops S o with|some true=>GN C call Y o K S|some false=>K (S.put o.dst Fa)|none=>False
theorem Iz {rest:List Oper}{K:an->Prop}(h:Ho C ops (o::rest) K S):lY C ops o (Ho C ops rest K) S:=by
 simp only[Ho]at h;unfold lY jK;split at h;rename_i hg;rw[hg];exact h;rename_i j want hg;rw[hg];split at h;exact h.elim;rename_i d hd;simp only[hd];split at h;rename_i b hb;rw[oI]at h;simp only[hb];cases ED:(b==want)with
 |true=>rw[ED]at h;exact h
 |false=>rw[ED]at h;exact h
 rename_i hb;simp only[hb];exact h;exact h.elim
theorem IA {rest:List Oper}{K:an->Prop}(h:pK C call Y ops (o::rest) K S):Gc C call Y ops o (pK C call Y ops rest K) S:=by
 simp only[pK]at h;unfold Gc jK;split at h;rename_i hg;rw[hg];exact h;rename_i j want hg;rw[hg];split at h;exact h.elim;rename_i d hd;simp only[hd];split at h;rename_i b hb;rw[oI]at h;simp only[hb];cases ED:(b==want)with
 |true=>rw[ED]at h;exact h
 |false=>rw[ED]at h;exact h
 rename_i hb;simp only[hb];exact h;exact h.elim
def kr (C:Ctx)(ops:Array Oper)(o:Oper)(x:FV)(S:an):Prop:=(jK ops S o=some true/\eV C S o.op λu=>u=x)\/(jK ops S o=some false/\x=Fa)
theorem ja {K:an->Prop}(h:lY C ops o K S):∃x,kr C ops o x S/\K (S.put o.dst x):=by unfold lY at h;split at h;rename_i hw;obtain⟨v,h1,h2⟩:=h;exact⟨v,.inl ⟨hw,h1⟩,h2⟩;rename_i hw;exact⟨Fa,.inr ⟨hw,rfl⟩,h⟩;exact h.elim
theorem kr.lY {x:FV}(hy:kr C ops o x S){K:an->Prop}(h:K (S.put o.dst x)):lY C ops o K S:=by unfold Qv.lY;rcases hy with⟨hw,hv⟩|⟨hw,rfl⟩;rw[hw];exact⟨x,hv,h⟩;rw[hw];exact h
theorem kr.put {x:FV}(hy:kr C ops o x S){dst:Option Nat}{v:FV}(h:∀d,dst=some d->d∉o.looksAt ops):kr C ops o x (S.put dst v):=by unfold kr at*;rw[sj h,tD h];exact hy
theorem kr.Vz {x:FV}{dst:Option Nat}{v:FV}(hy:kr C ops o x (S.put dst v))(h:∀d,dst=some d->d∉o.looksAt ops):kr C ops o x S:=by unfold kr at*;rw[sj h,tD h]at hy;exact hy
theorem LI {oi oj:Oper}{x:FV}(hap:oi.apart ops oj=true){K:an->Prop}(hy:kr C ops oi x S)(h:lY C ops oj K (S.put oi.dst x)):lY C ops oj (λS'=>kr C ops oi x S'/\K (S'.put oi.dst x)) S:=by obtain⟨h1,h2,h3⟩:=Oper.apart_spec hap;obtain⟨u,hu,hK⟩:=ja h;refine(hu.Vz h1).lY ⟨hy.put h3,?_⟩;rw[<-an.put_comm h2];exact hK
def LJ (C:Ctx)(call:iR)(Y:pn)(ops:Array Oper)(q:Nat->Bool)(i:Nat)(K:an->Prop)(S:an):Prop:=match ops[i]?with|none=>K S|some o=>match q i with|true=>lY C ops o K S|false=>∃K':an->Prop,Gc C call Y ops o K' S/\∀S',K' S'->K S'
def WZ (C:Ctx)(call:iR)(Y:pn)(ops:Array Oper)(q:Nat->Bool)(K:an->Prop):Nat->Array Bool->an->Prop|0,listed,S=>Region.ready .any ops listed=[]/\K S|fuel+1,listed,S=>(Region.ready .any ops listed=[]->K S)/\∀i∈Region.ready .any ops listed,LJ C call Y ops q i (WZ C call Y ops q K fuel (listed.setIfInBounds i true)) S
theorem uZ (hs:nT E S a w){K:an->Prop}{K':Act->World->Prop}{Q:Exit->Act->World->Prop}(h:lY E.C ops o K S)(hK:∀S a w,K S->nT E S a w->K' a w):if Region.wanted o (yielded ops a.tmps)then BP E o a w K' Q else(∀f,o.about E.C.P w a.eval=some f->E.jv.fn f)/\K' (a.put o.dst undef) w:=by obtain⟨G,hs⟩:=hs;unfold lY at h;split at h;rename_i hw;rw[ag (tE hs hw)];obtain⟨v,h1,h2⟩:=h;exact EY (K:=λ_=>True) hs h1 λa' w' hs'=>hK _ _ _ h2 hs';rename_i hw;rw[af (by rw[tE hs hw];simp)];exact⟨λf _=>Env.gD f,hK _ _ _ h ⟨G,hs.put o.dst (jU G w)⟩⟩;exact h.elim
theorem zD (dO:ni E.C call)(hY:fh E Y)(hs:nT E S a w){K:an->Prop}{K':Act->World->Prop}{Q:Exit->Act->World->Prop}(h:Gc E.C call Y ops o K S)(hK:∀S a w,K S->nT E S a w->K' a w):if Region.wanted o (yielded ops a.tmps)then BP E o a w K' Q else(∀f,o.about E.C.P w a.eval=some f->E.jv.fn f)/\K' (a.put o.dst undef) w:=by obtain⟨G,hs⟩:=hs;unfold Gc at h;split at h;rename_i hw;rw[ag (tE hs hw)];exact uw dO hY hs h λS' a' w' hk hs'=>hK _ _ _ hk hs';rename_i hw;rw[af (by rw[tE hs hw];simp)];exact⟨λf _=>Env.gD f,hK _ _ _ h ⟨G,hs.put o.dst (jU G w)⟩⟩;exact h.elim
theorem Ts (dO:ni E.C call)(hY:fh E Y){q:Nat->Bool}{K:an->Prop}{Q:Exit->Act->World->Prop}(hQ:∀S a w,K S->nT E S a w->Q .normal a w):∀(fuel:Nat)(listed:Array Bool)(S:an)(a:Act)(w:World),nT E S a w->WZ E.C call Y ops q K fuel listed S->wpAnyIn E.jv 0 E.C.P .any ops Q fuel listed a w:=by
 intro fuel;induction fuel with
 |zero=>intro listed S a w hs h;exact⟨h.1,hQ _ _ _ h.2 hs⟩
 |succ fuel ih=>intro listed S a w hs h;refine⟨λh0=>hQ _ _ _ (h.1 h0) hs,λi hi=>?_⟩;have h2:=h.2 i hi;unfold LJ at h2;unfold wpOpIn;split at h2;rename_i ho;simp only[ho];exact ih _ _ _ _ hs h2;rename_i o ho;simp only[ho];split at h2;exact uZ hs h2 λS a w hk hs'=>ih _ _ _ _ hs' hk;obtain⟨K',h3,h4⟩:=h2;exact zD dO hY hs h3 λS a w hk hs'=>ih _ _ _ _ hs' (h4 _ hk)
def rE (ops:Array Oper)(listed:Array Bool):Prop:=listed.size=ops.size/\∀p o,ops[p]?=some o->listed.getD p false=true->∀e∈o.after,Region.binds .any e=true->listed.getD e.on false=true
theorem rE.set {listed:Array Bool}{i:Nat}(h:rE ops listed)(hi:i∈Region.ready .any ops listed):rE ops (listed.setIfInBounds i true):=by obtain⟨h1,h2⟩:=h;obtain⟨h0,o,ho,hall⟩:=mem_ready.1 hi;refine⟨by simpa using h1,λp op hp hl e he hb=>?_⟩;by_cases hpi:i=p;subst hpi;rw[ho]at hp;obtain rfl:=aq hp;exact getD_set_true (hall e he hb);rw[getD_set_ne false hpi]at hl;exact getD_set_true (h2 p op hp hl e he hb)
theorem rE.reach {listed:Array Bool}(h:rE ops listed):∀(fuel j i:Nat),uk ops fuel j i=true->(∀o,ops[j]?=some o->∀e∈o.after,Region.binds .any e=true->listed.getD e.on false=true)->listed.getD i false=true:=by
 intro fuel;induction fuel with
 |zero=>intro j i hr;cases hr
 |succ fuel ih=>intro j i hr hall;simp only[uk]at hr;split at hr;cases hr;rename_i o ho;obtain⟨e,he,hb⟩:=eA.1 hr;simp only[bn,qn,beq_iff_eq]at hb;have hl:=hall o ho e (by simpa using he) hb.1;rcases hb.2 with hi|hr';exact hi▸hl;exact ih e.on i hr' λo' ho'=>h.2 e.on o' ho' hl
theorem Dy {listed:Array Bool}{i:Nat}(h:listed.getD i true=false):listed.getD i false=false:=by rcases Nat.lt_or_ge i listed.size with h'|h';simp[h']at h⊢;exact h;simp[Dw h']at h
theorem Tt {q:Nat->Bool}{K:an->Prop}{i:Nat}{oi:Oper}{x:FV}(hi:ops[i]?=some oi)(him:q i=true):∀(fuel:Nat)(listed:Array Bool)(S:an),rE ops listed->(∀j oj,ops[j]?=some oj->j≠i->listed.getD j true=false->uk ops ops.size j i=true\/(q j=true/\oi.apart ops oj=true))->i∈Region.ready .any ops listed->kr C ops oi x S->WZ C call Y ops q K fuel (listed.setIfInBounds i true) (S.put oi.dst x)->WZ C call Y ops q K (fuel+1) listed S:=by
 have self:∀{K':an->Prop}{S:an},kr C ops oi x S->K' (S.put oi.dst x)->LJ C call Y ops q i K' S:=λhy h=>by unfold LJ;simp only[hi,him];exact hy.lY h
 intro fuel;induction fuel with
 |zero=>intro listed S _ _ hr hy H;refine⟨λh=>(by rw[h]at hr;cases hr),λj hj=>?_⟩;by_cases hji:j=i;subst hji;exact self hy H;have :=ready_mono hj hji;rw[H.1]at this;cases this
 |succ fuel ih=>
  intro listed S mF hfree hr hy H;refine⟨λh=>(by rw[h]at hr;cases hr),λj hj=>?_⟩;by_cases hji:j=i;subst hji;exact self hy H;have h1:=H.2 j (ready_mono hj hji);obtain⟨IB,oj,VA,hall⟩:=mem_ready.1 hj;rcases hfree j oj VA hji IB with hre|⟨hjm,hap⟩;have h2:=mF.reach _ _ _ hre λo ho=>by rw[VA]at ho;obtain rfl:=aq ho;exact hall
  rw[Dy (mem_ready.1 hr).1]at h2;cases h2;unfold LJ at h1⊢;simp only[VA,hjm]at h1⊢;have h2:=LI hap hy h1;have IC:∀k ok,ops[k]?=some ok->k≠i->(listed.setIfInBounds j true).getD k true=false->uk ops ops.size k i=true\/(q k=true/\oi.apart ops ok=true):=λk ok hk hki hun=>by refine hfree k ok hk hki ?_;by_cases hjk:j=k;subst hjk;exact IB;rw[getD_set_ne true hjk]at hun;exact hun
  obtain⟨y,hy2,h3⟩:=ja h2;refine hy2.lY (ih (listed.setIfInBounds j true) _ (mF.set hj) IC (ready_mono hr (eY hji)) h3.1 ?_);rw[Dz _ _ hji];exact h3.2
theorem BV {q:Nat->Bool}{listed:Array Bool}{i:Nat}{oi:Oper}(hi:ops[i]?=some oi)(h:PB ops q listed i=true)(j:Nat)(oj:Oper)(hj:ops[j]?=some oj)(hne:j≠i)(hun:listed.getD j true=false):uk ops ops.size j i=true\/(q j=true/\oi.apart ops oj=true):=by simp only[PB,hi,bD,fO]at h;have h1:=h j (bz.1 hj).1;simp only[hj,qn,beq_iff_eq,hne,false_or,hun,tc,bn]at h1;exact h1
theorem Xa {m:Nat}{K:an->Prop}:∀(l:List Oper)(k:Nat)(listed:Array Bool)(S:an),m<=k->(∀j,l[j]?=ops[k+j]?)->um ops m l.length k listed=true->pK C call Y ops l K S->WZ C call Y ops (λi=>decide (i<m)) K l.length listed S:=by
 intro l;induction l with
 |nil=>intro k listed S _ _ hB h;exact⟨by simpa[um]using hB,h⟩
 |cons o l ih=>
  intro k listed S hk hl hB h;have h0:ops[k]?=some o:=by simpa using(hl 0).symm
  have hkm:decide (k<m)=false:=by simp;omega
  simp only[aW,um,hkm,bn,beq_iff_eq]at hB;obtain⟨hr,hB'⟩:=hB;refine⟨λe=>(by rw[hr]at e;cases e),λi hi=>?_⟩;rw[hr]at hi;obtain rfl:i=k:=by simpa using hi
  unfold LJ;simp only[h0,hkm];exact⟨_,IA h,λS' h'=>ih (i+1) _ S' oO (λj=>by have :=hl (j+1);simpa[fL,nV 1 j]using this) hB' h'⟩
theorem ZY {m:Nat}{K:an->Prop}:∀(l l':List Oper)(k:Nat)(listed:Array Bool)(S:an),rE ops listed->k+l.length=m->(∀j,(l++l')[j]?=ops[k+j]?)->um ops m (l++l').length k listed=true->Ho C ops l (pK C call Y ops l' K) S->WZ C call Y ops (λi=>decide (i<m)) K (l++l').length listed S:=by
 intro l;induction l with
 |nil=>intro l' k listed S _ hkm hl hB h;exact Xa l' k listed S (by simp at hkm;omega) (by simpa using hl) (by simpa using hB) h
 |cons o l ih=>
  intro l' k listed S mF hkm hl hB h;have h0:ops[k]?=some o:=by simpa using(hl 0).symm
  have hlt:k<m:=by simp at hkm;omega
  have hk':decide (k<m)=true:=by simp[hlt]
  simp only[cr,aW,um,hk',bn]at hB;obtain⟨⟨hr,hf⟩,hB'⟩:=hB;have hr':k∈Region.ready .any ops listed:=by simpa using hr
  obtain⟨x,hy,hK⟩:=ja (Iz h);simp only[cr,aW];refine Tt h0 hk' (l++l').length listed S mF (λj oj hj hne hun=>BV h0 hf j oj hj hne hun) hr' hy ?_;exact ih l' (k+1) _ _ (mF.set hr') (by simp at hkm;omega) (λj=>by have :=hl (j+1);simpa[fL,nV 1 j]using this) hB' hK
theorem ID (dO:ni E.C call)(hY:fh E Y){id m:Nat}{K:an->Prop}{Q:Exit->Act->World->Prop}(hQ:∀S a w,K S->nT E S a w->Q .normal a w)(hB:BL ops m=true)(hs:nT E S a w)(h:Ho E.C ops (ops.toList.take m) (pK E.C call Y ops (ops.toList.drop m) K) S)(hm:m<=ops.size):(Code.region id ops true).wpIn E.jv 0 E.C.P Q a w:=by
 simp only[BL,bn]at hB;refine wpIn_region_any E.C.mixed (Ts dO hY (q:=λi=>decide (i<m)) hQ _ _ _ _ _ (let⟨G,hs⟩:=hs;⟨G,hs.drew⟩) ?_);have hlen:(ops.toList.take m++ops.toList.drop m).length=ops.size:=by simp
 have :=ZY (C:=E.C) (call:=call) (Y:=Y) (ops:=ops) (m:=m) (K:=K) (ops.toList.take m) (ops.toList.drop m) 0 (Array.replicate ops.size false) S ⟨by simp,λp o hp hl=>by have :p<ops.size:=(bz.1 hp).1;simp[this]at hl⟩ (by simp;omega) (λj=>by simp) (by rw[hlen];exact hB.2) h;rw[hlen]at this;exact this
theorem kZ {pr:List Nat}{o k:Nat}(h:hU o pr=true)(hk:hU k pr=false):Nat.beq o k=false:=by cases hb:Nat.beq o k;rfl;rw[aN hb]at h;rw[h]at hk;cases hk
mutual theorem FV.oh {pr:List Nat}{k:Nat}(hk:hU k pr=false):∀{x:FV},x.safe pr=true->x.kill k=x
 |.p _,_=>rfl
 |.agg xs,h=>by simp only[FV.safe]at h;simp only[FV.kill,FV.ux hk h]
 |.eN xs,h=>by simp only[FV.safe]at h;simp only[FV.kill,FV.ux hk h]
 |.ptr o off,h=>by simp only[FV.safe]at h;simp only[FV.kill,kZ h hk]
 |.gd t T e xs,h=>by simp only[FV.safe]at h;simp only[FV.kill,kZ h hk]
 |.full _,_=>rfl
 |.fn f a b,h=>by simp only[FV.safe]at h;split at h;rename_i h1;simp only[FV.kill,FV.ux hk h1,FV.ux hk h];cases h
 |.mh l,h=>by simp only[FV.safe]at h;simp only[FV.kill,kZ h hk]
 |.gH o T e,h=>by simp only[FV.safe]at h;simp only[FV.kill,kZ h hk]
 |.uK o x T e,h=>by simp only[FV.safe]at h;simp only[FV.kill,kZ h hk]
 |.gV o b off,h=>by simp only[FV.safe]at h;simp only[FV.kill,kZ h hk]
 |.gw o,h=>by simp only[FV.safe]at h;simp only[FV.kill,kZ h hk]
 |.Ay o,h=>by simp only[FV.safe]at h;simp only[FV.kill,kZ h hk]
 |.dW,_=>rfl theorem FV.ux {pr:List Nat}{k:Nat}(hk:hU k pr=false):∀{xs:List FV},FV.uS pr xs=true->FV.fu k xs=xs|[],_=>rfl|x::xs,h=>by simp only[FV.uS]at h;split at h;rename_i h1;simp only[FV.fu,FV.oh hk h1,FV.ux hk h];cases h end
structure Agree (pr:List Nat)(S S':an):Prop where
 val:∀z:Operand,(S.val z).safe pr=true->S'.val z=S.val z
 aK:∀o cells,hU o pr=true->Qv.getObj S.aK o=some cells->∃cells',Qv.getObj S'.aK o=some cells'/\cells'.length=cells.length/\∀(i:Nat)(y:FV),cells[i]?=some y->y.safe pr=true->cells'[i]?=some y
theorem Agree.refl {pr:List Nat}(S:an):Agree pr S S:=⟨λ_ _=>rfl,λo cells _ hc=>⟨cells,hc,rfl,λi y hi _=>hi⟩⟩
theorem Agree.trans {pr:List Nat}{S S' uL:an}(h:Agree pr S S')(h':Agree pr S' uL):Agree pr S uL:=by refine⟨λz hz=>?_,λo cells ho hc=>?_⟩;have :=h.val z hz;rw[h'.val z (by rw[this];exact hz),this];obtain⟨c1,h1,l1,h2⟩:=h.aK o cells ho hc;obtain⟨c2,h3,l2,h4⟩:=h'.aK o c1 ho h1;exact⟨c2,h3,l2.trans l1,λi y hi hy=>h4 i y (h2 i y hi hy) hy⟩
theorem ZZ (S:an)(k:Nat)(z:Operand):(S.kill k).val z=(S.val z).kill k\/(S.val z).kill k=(S.kill k).val z:=by
 left;cases z with
 |tmp t=>simp only[an.val,an.get,an.kill];split<;>rfl
 |const v=>
  simp only[an.val];have h1:∀u:Value,(FV.iC u).kill k=FV.iC u:=λu=>by unfold FV.iC;split<;>rfl
  unfold FV.Pq;split;simp only[FV.kill,FV.fT,fP];congr 1;exact(en λu _=>(h1 u)).symm;rfl;exact(h1 _).symm
 |func f=>rfl
 |global g=>simp only[an.val];split<;>rfl
theorem Qz {d o:Nat}:∀{l:List (Nat×List FV)}{cs:List FV},o≠d->Qv.getObj l o=some cs->Qv.getObj (eH d l) o=some (FV.fu d cs):=by
 intro l;induction l with
 |nil=>intro cs _ h;cases h
 |cons p l ih=>
  obtain⟨u,i⟩:=p;intro cs hne h;simp only[Qv.getObj]at h;simp only[eH];split at h;rename_i hb;obtain rfl:=aN hb;obtain rfl:=aq h;have :Nat.beq u d=false:=by cases hb:Nat.beq u d;rfl;exact absurd (aN hb) hne
  rw[this];simp[Qv.getObj];rename_i hb;split;exact ih hne h;simp only[Qv.getObj,hb];exact ih hne h
theorem Agree.kill {pr:List Nat}(S:an){k:Nat}(hk:hU k pr=false):Agree pr S (S.kill k):=by refine⟨λz hz=>?_,λo cells ho hc=>?_⟩;rcases ZZ S k z with h|h;rw[h,FV.oh hk hz];rw[<-h,FV.oh hk hz];refine⟨_,Qz (λe=>by rw[e,hk]at ho;cases ho) hc,by rw[FV.fT,aj],λi y hi hy=>?_⟩;rw[FV.fT,aM,hi];simp[FV.oh hk hy]
theorem NR {ob o:Nat}{c:List FV}:∀{l:List (Nat×List FV)},o≠ob->Qv.getObj (setObj l ob c) o=Qv.getObj l o:=by
 intro l hne;induction l with
 |nil=>rfl
 |cons p l ih=>
  obtain⟨u,i⟩:=p;simp only[setObj];split;rename_i hb;obtain rfl:=aN hb;have :Nat.beq u o=false:=by cases hb:Nat.beq u o;rfl;exact absurd (aN hb).symm hne
  simp only[Qv.getObj,this];simp only[Qv.getObj,ih]
theorem Agree.CL {pr:List Nat}(S:an){ob:Nat}(c:List FV)(hk:hU ob pr=false):Agree pr S (S.CL ob c):=⟨λz _=>by cases z<;>rfl,λo cells ho hc=>⟨cells,by show Qv.getObj (setObj S.aK ob c) o=_;rw[NR (λe=>by rw[e,hk]at ho;cases ho)];exact hc,rfl,λi y hi _=>hi⟩⟩
theorem Agree.aaa {pr:List Nat}(S:an){d:Nat}(c:List FV)(hk:hU d pr=false):Agree pr S {S with aK:=(d,c)::S.aK}:=⟨λz _=>by cases z<;>rfl,λo cells ho hc=>⟨cells,by
 have :Nat.beq d o=false:=by cases hb:Nat.beq d o;rfl;rw[aN hb,ho]at hk;cases hk
 simp only[Qv.getObj,this];exact hc,rfl,λi y hi _=>hi⟩⟩
theorem Agree.jr {pr:List Nat}(S:an)(b:List (Nat×List UInt8)):Agree pr S {S with dh:=b}:=⟨λz _=>by cases z<;>rfl,λo cells ho hc=>⟨cells,hc,rfl,λi y hi _=>hi⟩⟩
def iq (C:Ctx)(ops:Array Oper)(pr:List Nat)(o:Oper)(x:FV)(S:an):Prop:=(jK ops S o=some true/\(eV C S o.op λu=>u=x)/\yu pr S o.op x=true)\/(jK ops S o=some false/\x=Fa)
theorem iq.yA {pr:List Nat}{x:FV}(h:iq C ops pr o x S):kr C ops o x S:=h.imp (λh=>⟨h.1,h.2.1⟩) id
theorem uy {pr:List Nat}{op:Op}{x:FV}(h:yu pr S op x=true):(∃zs,opsL op=some zs/\∀z,z∈zs->(S.val z).safe pr=true)/\x.safe pr=true:=by
 unfold yu at h;split at h;cases h;rename_i zs hz;split at h;rename_i hs;refine⟨⟨zs,hz,?_⟩,h⟩;clear hz;induction zs with
 |nil=>simp
 |cons y ys ih=>simp only[yZ]at hs;split at hs;rename_i hy;intro z hz;rcases aL.1 hz with rfl|hz;exact hy;exact ih hs z hz;cases hs
 cases h
theorem IE {pr:List Nat}{op:Op}{x:FV}{zs:List Operand}(h:opsL op=some zs)(hz:∀z,z∈zs->(S.val z).safe pr=true)(hx:x.safe pr=true):yu pr S op x=true:=by
 unfold yu;rw[h];have :yZ pr S zs=true:=by
  clear h;induction zs with
  |nil=>rfl
  |cons y ys ih=>simp only[yZ,hz y kX];exact ih λz h=>hz z (dG _ h)
 simp only[this];exact hx
theorem iq.safe {pr:List Nat}{x:FV}(h:iq C ops pr o x S):x.safe pr=true:=by rcases h with h|⟨-,rfl⟩;exact(uy h.2.2).2;rfl
theorem QA {op:Op}{zs:List Operand}(h:opsL op=some zs):∀z,z∈zs->z∈op.operands:=by
 intro z hz;unfold opsL at h;split at h;all_goals cases h
 all_goals simp[Op.operands,Call.operands]at hz⊢
 all_goals exact hz
theorem aab {op:Op}{zs:List Operand}(h:opsL op=some zs):∀z,z∈op.operands->z∈zs:=by
 intro z hz;unfold opsL at h;split at h;all_goals cases h
 all_goals simp[Op.operands,Call.operands]at hz⊢
 all_goals exact hz
theorem Xb {pr:List Nat}{x:FV}{dst:Option Nat}{v:FV}(h:∀d,dst=some d->d∉o.looksAt ops)(hs:yu pr S o.op x=true):yu pr (S.put dst v) o.op x=true:=by obtain⟨⟨zs,h1,h2⟩,h3⟩:=uy hs;refine IE h1 (λz hz=>?_) h3;rw[an.xB λd hd hzd=>h d hd (by subst hzd;exact jJ _ (xC.2 ⟨.tmp d,by simpa using QA h1 _ hz,rfl⟩))];exact h2 z hz
theorem QB {pr:List Nat}{x:FV}{dst:Option Nat}{v:FV}(h:∀d,dst=some d->d∉o.looksAt ops)(hs:yu pr (S.put dst v) o.op x=true):yu pr S o.op x=true:=by obtain⟨⟨zs,h1,h2⟩,h3⟩:=uy hs;refine IE h1 (λz hz=>?_) h3;have :=h2 z hz;rw[an.xB λd hd hzd=>h d hd (by subst hzd;exact jJ _ (xC.2 ⟨.tmp d,by simpa using QA h1 _ hz,rfl⟩))]at this;exact this
theorem iq.put {pr:List Nat}{x:FV}(hy:iq C ops pr o x S){dst:Option Nat}{v:FV}(h:∀d,dst=some d->d∉o.looksAt ops):iq C ops pr o x (S.put dst v):=by unfold iq at*;rw[sj h,tD h];exact hy.imp (λq=>⟨q.1,q.2.1,Xb h q.2.2⟩) id
theorem iq.Vz {pr:List Nat}{x:FV}{dst:Option Nat}{v:FV}(hy:iq C ops pr o x (S.put dst v))(h:∀d,dst=some d->d∉o.looksAt ops):iq C ops pr o x S:=by unfold iq at*;rw[sj h,tD h]at hy;exact hy.imp (λq=>⟨q.1,q.2.1,QB h q.2.2⟩) id
theorem zF {pr:List Nat}:∀(n:Nat){xs xs' cs:List FV},takeN n xs=some cs->FV.uS pr cs=true->(∀(i:Nat)(y:FV),xs[i]?=some y->y.safe pr=true->xs'[i]?=some y)->takeN n xs'=some cs
 |0,xs,xs',cs,h,_,_=>h
 |n+1,[],xs',cs,h,_,_=>by simp[takeN]at h
 |n+1,x::xs,xs',cs,h,hs,ha=>by
  simp only[takeN]at h;split at h;rename_i ys hys;obtain rfl:=aq h;simp only[FV.uS]at hs;split at hs;rename_i hx;have h0:=ha 0 x rfl hx;cases xs' with
  |nil=>simp at h0
  |cons x' xs'=>
   simp at h0;subst h0;have :=zF n (xs:=xs) (xs':=xs') hys hs λi y hi hy=>by simpa using ha (i+1) y (by simpa using hi) hy
   simp only[takeN,this]
  cases hs;cases h
theorem Fb {α:Type}:∀(n:Nat)(xs:List α)(i:Nat),(gC n xs)[i]?=xs[n+i]?
 |0,xs,i=>by simp[gC]
 |n+1,[],i=>by simp[gC]
 |n+1,x::xs,i=>by rw[gC,Fb n xs i,show n+1+i=(n+i)+1 by omega];simp
theorem NS {pr:List Nat}{S':an}(h:Agree pr S S'){t:TypeId}{v x:FV}(hv:v.safe pr=true)(hx:x.safe pr=true)(he:nB C S.aK t v λu=>u=x):nB C S'.aK t v λu=>u=x:=by
 unfold nB at he⊢;cases hi:bV C.jE t with
 |none=>rw[hi]at he;exact he.elim
 |some i=>
  rw[hi]at he;simp only at he⊢;cases v with
  |ptr o off=>
   simp only at he⊢;cases hc:Qv.getObj S.aK o with
   |none=>rw[hc]at he;exact he.elim
   |some cells=>
    rw[hc]at he;obtain⟨cells',h1,hl,h2⟩:=h.aK o cells hv hc;rw[h1];simp only at he⊢;have hd:∀(i:Nat)(y:FV),(gC off cells)[i]?=some y->y.safe pr=true->(gC off cells')[i]?=some y:=λi y hi hy=>by rw[Fb]at hi⊢;exact h2 _ y hi hy
    cases hag:i.shape.isAgg with
    |true=>
     rw[hag]at he;simp only at he⊢;cases hcs:takeN i.size (gC off cells)with
     |none=>rw[hcs]at he;exact he.elim
     |some cs=>rw[hcs]at he;simp only at he;subst he;rw[zF _ hcs hx hd]
    |false=>
     rw[hag]at he;simp only at he⊢;cases hys:gC off cells with
     |nil=>rw[hys]at he;exact he.elim
     |cons y ys=>
      rw[hys]at he;simp only at he;subst he;have :=hd 0 y (by rw[hys];rfl) hx;cases hq:gC off cells' with
      |nil=>rw[hq]at this;simp at this
      |cons z zs=>rw[hq]at this;simpa using this
  |gV o base off=>
   simp only at he⊢;cases hc:Qv.getObj S.aK o with
   |none=>rw[hc]at he;exact he.elim
   |some cells=>
    rw[hc]at he;obtain⟨cells',h1,hl,h2⟩:=h.aK o cells hv hc;rw[h1];simp only at he⊢;obtain⟨A,ys,B,rfl,hA,he⟩:=he;have hlen:cells'.length=A.length+(ys.length+B.length):=by simpa using hl
    refine⟨cells'.take A.length,(cells'.drop A.length).take ys.length,(cells'.drop A.length).drop ys.length,by rw[fH,fH],by rw[aR,<-hA];omega,?_⟩;have hd:∀(i:Nat)(y:FV),(gC off ys)[i]?=some y->y.safe pr=true->(gC off ((cells'.drop A.length).take ys.length))[i]?=some y:=λi y hi hy=>by rw[Fb]at hi⊢;have hlt:=(aI.1 hi).1;rw[Dl hlt,kM];refine h2 _ y ?_ hy;rw[dN oO,cF oO,<-hi];congr 1;omega
    cases hag:i.shape.isAgg with
    |true=>
     rw[hag]at he;simp only at he⊢;cases hcs:takeN i.size (gC off ys)with
     |none=>rw[hcs]at he;exact he.elim
     |some cs=>rw[hcs]at he;simp only at he;subst he;rw[zF _ hcs hx hd]
    |false=>
     rw[hag]at he;simp only at he⊢;cases hys:gC off ys with
     |nil=>rw[hys]at he;exact he.elim
     |cons y zs=>
      rw[hys]at he;simp only at he;subst he;have :=hd 0 y (by rw[hys];rfl) hx;cases hq:gC off ((cells'.drop A.length).take ys.length)with
      |nil=>rw[hq]at this;simp at this
      |cons z zs=>rw[hq]at this;simpa using this
  |p y=>cases y<;>first|exact he|exact he.elim
  |_=>exact he.elim
theorem DA {pr:List Nat}{S':an}(h:Agree pr S S'){t:TypeId}{v i:FV}{K:FV->Prop}(hv:v.safe pr=true)(he:jP C S.aK t v i K):jP C S'.aK t v i K:=by
 unfold jP at he⊢;split at he;rename_i k n;split at he;split at he;exact he.elim;rename_i j hj;try simp only[hj]
 split at he;rename_i o T bP;split at he;rename_i cells hc hb;obtain⟨cells',h1,hl,-⟩:=h.aK o cells hv hc;rw[h1];simp only[hb];obtain⟨m,base,e1,e2,e3,e4⟩:=he;exact⟨m,base,e1,e2,oO,e4⟩;exact he.elim;rename_i o bx T bP;split at he;rename_i cells hc hb;obtain⟨cells',h1,hl,-⟩:=h.aK o cells hv hc;rw[h1];simp only[hb];obtain⟨m,base,e1,e2,e3,e4⟩:=he;exact⟨m,base,e1,e2,oO,e4⟩;exact he.elim;exact he;exact he;exact he;exact he
theorem Fc {pr:List Nat}{S':an}(h:Agree pr S S'){b:Builtin}{args:List FV}{types:List TypeId}{K:FV->Prop}(hv:∀v,v∈args->v.safe pr=true)(he:jY C S.aK b args types K):jY C S'.aK b args types K:=by unfold jY at he⊢;split at he;split at he;split at he;exact he;exact he;split at he;rename_i o T bP;split at he;rename_i cells hc;obtain⟨cells',h1,hl,-⟩:=h.aK o cells (hv (.gH o T bP) (by simp)) hc;rw[h1];obtain⟨n,e1,e2⟩:=he;exact⟨n,oO,e2⟩;exact he.elim;rename_i o bx T bP;split at he;rename_i cells hc;obtain⟨cells',h1,hl,-⟩:=h.aK o cells (hv (.uK o bx T bP) (by simp)) hc;rw[h1];obtain⟨n,e1,e2⟩:=he;exact⟨n,oO,e2⟩;exact he.elim;exact he;exact he;exact he;exact he;exact he;exact he
theorem QC {pr:List Nat}{S':an}(h:Agree pr S S'){op:Op}{x:FV}(hs:yu pr S op x=true)(he:eV C S op λu=>u=x):eV C S' op λu=>u=x:=by
 obtain⟨⟨zs,h1,h2⟩,h3⟩:=uy hs;have hv:∀z,z∈zs->S'.val z=S.val z:=λz hz=>h.val z (h2 z hz);have gen:∀S2:an,(∀z,z∈op.operands->S2.val z=S.val z)->S2.aK=S.aK->eV C S2 op (λu=>u=x):=λS2 a b=>by rw[Gb a b (λ_ _ _ _ e=>by subst e;cases h1) (λ_ e=>by subst e;cases h1)];exact he
 by_cases hl:∃t a,op=.load t a;obtain⟨t,a,rfl⟩:=hl;simp only[opsL,bN]at h1;subst h1;have ha:=h2 a (by simp);simp only[eV]at he⊢;rw[hv a (by simp)];exact NS h ha h3 he;by_cases GS:∃t a i,op=.indexAddr t a i;obtain⟨t,a,i,rfl⟩:=GS;simp only[opsL,bN]at h1;subst h1;have ha:=h2 a (by simp);simp only[eV]at he⊢;rw[hv a (by simp),hv i (by simp)];exact DA h ha he;by_cases hl3:∃b args types,op=.call ⟨.builtin b,args,types⟩;obtain⟨b,args,types,rfl⟩:=hl3;simp only[opsL,bN]at h1;subst h1;simp only[eV]at he⊢;have ha:args.toList.map S'.val=args.toList.map S.val:=en λz hz=>hv z hz;rw[ha];exact Fc h (λv WT=>by obtain⟨z,hz,rfl⟩:=aJ.1 WT;exact h2 z hz) he;have hall:=aab h1;have :=gen {S' with aK:=S.aK} (λz hz=>by have :=hv z (hall z hz);cases z<;>exact this) rfl;cases op;case slice t x lo hi mx=>
  cases mx with
  |none=>exact this
  |some m=>cases h1
 case load t a=>exact absurd ⟨t,a,rfl⟩ hl
 case indexAddr t a i=>exact absurd ⟨t,a,i,rfl⟩ GS
 case call c=>
  obtain⟨callee,args,types⟩:=c;cases callee with
  |builtin b=>exact absurd ⟨b,args,types,rfl⟩ hl3
  |_=>exact this
 case build t parts=>simp only[opsL,bN]at h1;subst h1;exact(Ga (λp hp=>hv p.2 (tF hp))).mpr he
 case buildSlice t len parts=>simp only[opsL,bN]at h1;subst h1;exact(wj (λp hp=>hv p.2 (tF hp))).mpr he
 all_goals exact this
theorem Bw {pr:List Nat}{S':an}(h:Agree pr S S'){b:Bool}(hw:jK ops S o=some b):jK ops S' o=some b:=by
 unfold jK at*;split at hw;exact hw;rename_i j want hg;split at hw;cases hw;rename_i d hd;have key:∀y:AV,S.get d=.p y->S'.get d=.p y:=λy hy=>by have :=h.val (.tmp d) (by show(S.get d).safe pr=true;rw[hy];rfl);exact this.trans hy
 split at hw;rename_i c hc;rw[key _ hc];exact hw;rename_i hc;rw[key _ hc];exact hw;cases hw
theorem iq.agree {pr:List Nat}{S':an}(h:Agree pr S S'){x:FV}(hy:iq C ops pr o x S):iq C ops pr o x S':=by rcases hy with⟨h1,h2,h3⟩|⟨h1,h2⟩;refine .inl ⟨Bw h h1,QC h h3 h2,?_⟩;obtain⟨⟨zs,q1,q2⟩,q3⟩:=uy h3;exact IE q1 (λz hz=>by rw[h.val z (q2 z hz)];exact q2 z hz) q3;exact .inr ⟨Bw h h1,h2⟩
def aac (C:Ctx)(ops:Array Oper)(pr:List Nat)(o:Oper)(K:an->Prop)(S:an):Prop:=∃x,iq C ops pr o x S/\K (S.put o.dst x)
def Gd (C:Ctx)(call:iR)(Y:pn)(ops:Array Oper)(pr:List Nat)(o:Oper)(K:an->Prop)(S:an):Prop:=match jK ops S o with|some true=>oJ C.ex.inl pr S o.dst o.op=true/\GN C call Y o K S|some false=>K (S.put o.dst Fa)|none=>False
theorem Xc {pr:List Nat}{K:an->Prop}(h:agq C ops pr o K S):aac C ops pr o K S:=by
 unfold agq at h;unfold aac iq jK;split at h;rename_i hg;rw[hg];obtain⟨v,h1,h2,h3⟩:=h;exact⟨v,.inl ⟨by first|rfl|trivial,h1,h2⟩,h3⟩;rename_i j want hg;rw[hg];split at h;exact h.elim;rename_i d hd;simp only[hd];split at h;rename_i b hb;rw[oI]at h;simp only[hb];cases ED:(b==want)with
 |true=>rw[ED]at h;obtain⟨v,h1,h2,h3⟩:=h;exact⟨v,.inl ⟨by first|rfl|trivial,h1,h2⟩,h3⟩
 |false=>rw[ED]at h;exact⟨_,.inr ⟨by first|rfl|trivial,rfl⟩,h⟩
 rename_i hb;simp only[hb];exact⟨_,.inr ⟨by first|rfl|trivial,rfl⟩,h⟩;exact h.elim
theorem Xd {pr:List Nat}{K:an->Prop}(h:agr C call Y ops pr o K S):Gd C call Y ops pr o K S:=by
 unfold agr at h;unfold Gd jK;split at h;rename_i hg;rw[hg];exact h;rename_i j want hg;rw[hg];split at h;exact h.elim;rename_i d hd;simp only[hd];split at h;rename_i b hb;rw[oI]at h;simp only[hb];cases ED:(b==want)with
 |true=>rw[ED]at h;exact h
 |false=>rw[ED]at h;exact h
 rename_i hb;simp only[hb];exact h;exact h.elim
theorem sk {dst:Option Nat}{x:FV}{k:Nat}(hx:x.kill k=x):(S.put dst x).kill k=(S.kill k).put dst x:=by
 cases dst with
 |none=>rfl
 |some d=>simp only[an.put,an.kill];congr 1;funext i;split;exact hx;rfl
theorem Xe {pr:List Nat}{oi oj:Oper}{x:FV}(hap:oi.apart ops oj=true){K:an->Prop}(hy:iq C ops pr oi x S)(h:Gd C call Y ops pr oj K (S.put oi.dst x)):Gd C call Y ops pr oj (λS1=>iq C ops pr oi x S1/\K (S1.put oi.dst x)) S:=by
 obtain⟨h1,h2,h3⟩:=Oper.apart_spec hap;have hxs:=hy.safe;unfold Gd at*;rw[sj h1]at h;split at h;obtain⟨hh,he⟩:=h;have hval:∀z,z∈oj.op.operands->(S.put oi.dst x).val z=S.val z:=λz hz=>an.xB λd hd hzd=>h1 d hd (by subst hzd;exact jJ _ (xC.2 ⟨.tmp d,by simpa using hz,rfl⟩));have hoff:(S.put oi.dst x).off=S.off:=by cases oi.dst<;>rfl
 have Qg:(S.put oi.dst x).aK=S.aK:=an.Qy;have hbl:(S.put oi.dst x).dh=S.dh:=by cases oi.dst<;>rfl
 have fin:∀(S1 S2:an)(v:FV),Agree pr S S1->S2=S1.put oi.dst x->K (S2.put oj.dst v)->iq C ops pr oi x (S1.put oj.dst v)/\K ((S1.put oj.dst v).put oi.dst x):=λS1 S2 v ha e hk=>by refine⟨(hy.agree ha).put h3,?_⟩;rw[<-an.put_comm h2,<-e];exact hk
 cases hop:oj.op with
 |alloc t=>
  rw[hop]at hh;simp only[GN,hop]at he⊢;simp only[oJ]at hh⊢;split at he;rename_i d inf hd Dk;rw[hd]at hh;rw[hoff]at hh;simp only[ek]at hh;simp only[hd,Dk];refine⟨by simpa using hh,?_⟩;have hk:=FV.oh hh hxs;split at he;rename_i hb hz;try simp only[hb,hz]
  have :=fin {S.kill (S.off+d)with dh:=(S.off+d,[])::CI (S.off+d) S.dh} {(S.put oi.dst x).kill (S.off+d)with dh:=(S.off+d,[])::CI (S.off+d) S.dh} (.ptr (S.off+d) 0) ((Agree.kill S hh).trans (Agree.jr _ _)) (by rw[sk hk];cases oi.dst<;>rfl);rw[hd]at this;rw[HQ]at he⊢;unfold SL at*;rw[hoff,hbl]at he;exact⟨he.1,this he.2⟩;rename_i hno;rw[kH,wV]at he;rw[kH,wV];unfold newObj at*;rw[hoff,Qg]at he;have :=fin {S.kill (S.off+d)with aK:=(S.off+d,FV.fu (S.off+d) (inf.zero.map FV.iC))::eH (S.off+d) S.aK} {(S.put oi.dst x).kill (S.off+d)with aK:=(S.off+d,FV.fu (S.off+d) (inf.zero.map FV.iC))::eH (S.off+d) S.aK} (.ptr (S.off+d) 0) ((Agree.kill S hh).trans (Agree.aaa (S.kill (S.off+d)) _ hh)) (by rw[sk hk];cases oi.dst<;>rfl);rw[hd]at this;exact⟨he.1,this he.2⟩;exact he.elim
 |store t p z=>
  rw[hop]at hh hval;have hp:=hval p (by simp[Op.operands]);have hz:=hval z (by simp[Op.operands]);simp only[GN,hop,hz,hp,Qg]at he⊢;simp only[oJ,hp]at hh⊢;split at he;rename_i inf ob off Dk vQ;rw[vQ]at hh;simp only[ek]at hh;simp only[Dk,vQ];refine⟨by simpa using hh,?_⟩;split at he;exact he.elim;rename_i cells hc;try simp only[hc]
  split at he;rename_i hb;try simp only[hb]
  split at he;rename_i Bf;try simp only[Bf]
  split at he;rename_i cs hcs;try simp only[hcs]
  rw[kH]at he⊢;have :=fin (S.CL ob cs) ((S.put oi.dst x).CL ob cs) (.p (.eN [])) (Agree.CL S cs hh) (by unfold an.CL;cases oi.dst<;>rfl);exact this he;exact he.elim;exact he.elim;exact he.elim;rename_i vQ;rw[vQ]at hh;simp at hh;exact he.elim
 |call c=>
  obtain⟨callee,args,types⟩:=c;cases callee with
  |value f=>
   rw[hop]at hh hval;have hf:=hval f (by simp[Op.operands,Call.operands]);have hargs:args.toList.map (S.put oi.dst x).val=args.toList.map S.val:=en λz hz=>hval z (by simp[Op.operands,Call.operands];simp_all);simp only[GN,hop,hf,hargs]at he⊢;simp only[oJ,hf,hargs]at hh⊢;split at hh;rename_i g first captured hfv;rw[hfv]at he⊢;split at hh;rename_i xs d hg aiG hd;rw[hoff]at hh;simp only[hg,aiG,hd];simp only[ek]at hh;have hk:=FV.oh hh hxs;simp only[SM,hg,aiG]at he⊢;obtain⟨R,hc,hr⟩:=he;refine⟨by simpa using hh,R,hc,λr hrr=>?_⟩;have h:=hr r hrr;rw[hd]at h;cases r with
   |val y=>have :=fin S (S.put oi.dst x) (.p y) (Agree.refl S) rfl;rw[hd]at this;exact this h
   |vf y=>have :=fin S (S.put oi.dst x) y (Agree.refl S) rfl;rw[hd]at this;exact this h
   |fresh T bP ys=>simp only[Ku,lU,hoff]at h⊢;have :=fin (S.kill (S.off+d)) ((S.put oi.dst x).kill (S.off+d)) (.gd (S.off+d) T bP ys) (Agree.kill S hh) (sk hk);rw[hd]at this;exact this h
   |own rest T bP rj=>simp only[Ku,jX,hoff,Qg]at h⊢;obtain⟨q1,zs,q2,q3⟩:=h;have :=fin {S.kill (S.off+d)with aK:=(S.off+d,zs)::eH (S.off+d) S.aK} {(S.put oi.dst x).kill (S.off+d)with aK:=(S.off+d,zs)::eH (S.off+d) S.aK} (adq rest (.gH (S.off+d) T bP)) ((Agree.kill S hh).trans (Agree.aaa (S.kill (S.off+d)) _ hh)) (by rw[sk hk];cases oi.dst<;>rfl);rw[hd]at this;exact⟨q1,zs,q2,this q3⟩
   cases hh;cases hh
  |invoke r m=>rw[hop]at hh;simp[oJ]at hh
  |builtin b=>
   cases b<;>try (rw[hop]at hh;simp[oJ]at hh;done)
   rw[hop]at hh hval;have hargs:args.toList.map (S.put oi.dst x).val=args.toList.map S.val:=en λz hz=>hval z (by simp[Op.operands,Call.operands];simpa using hz);simp only[GN,hop,hargs]at he⊢;simp only[oJ,hargs]at hh⊢;split at he;rename_i a b t u d ha ht hd;rw[ha,hd]at hh;simp only at hh;rw[hoff]at hh;simp only[ha,ht,hd];refine⟨by simpa using hh,?_⟩;split at he;cases hh;replace hh:Lv pr (S.off+d) a=true:=by split at hh;cases hh;exact hh
   have app:uj C t u d (S.put oi.dst x) a b K->uj C t u d S a b (λS'=>iq C ops pr oi x S'/\K (S'.put oi.dst x)):=λhe=>by
    unfold uj at he⊢;split at he;rename_i b1 b2 e b3 b4 hti hui;simp only[hti,hui];split at he;exact he.elim;rename_i Tu;try simp only[Tu]
    split at he;exact he.elim;rename_i j hj;try simp only[hj]
    split at he;exact he.elim;rename_i ys hys;try simp only[hys]
    cases a with
    |gd k T bP xs=>
     simp only[Lv]at hh he⊢;simp only[ek]at hh;have hk:=FV.oh hh hxs;split at he;rename_i e1 e2 e3;try simp only[e1,e2,e3]
     obtain⟨q1,q2,q3,zs,q4,q5⟩:=he;have :=fin (S.kill k) ((S.put oi.dst x).kill k) (.gd k T bP zs) (Agree.kill S hh) (sk hk);rw[hd]at this;exact⟨q1,q2,q3,zs,q4,this q5⟩;exact he.elim
    |full xs=>
     simp only[Lv]at hh;simp only[ek]at hh;have hk:=FV.oh hh hxs;cases xs with
     |nil=>
      simp only at he⊢;split at he;rename_i e1;try simp only[e1]
      obtain⟨q1,q2,q3⟩:=he;rw[lU,hoff]at q3;rw[lU];have :=fin (S.kill (S.off+d)) ((S.put oi.dst x).kill (S.off+d)) (.gd (S.off+d) e j.size ys) (Agree.kill S hh) (sk hk);rw[hd]at this;exact⟨q1,q2,this q3⟩;exact he.elim
     |cons z zs=>
      simp only at he⊢;split at he;rename_i e1;try simp only[e1]
      obtain⟨q1,q2,q3,q4,q5⟩:=he;rw[lU,hoff]at q5;rw[lU];obtain⟨zs',q6,q7⟩:=q5;have :=fin (S.kill (S.off+d)) ((S.put oi.dst x).kill (S.off+d)) (.gd (S.off+d) e j.size zs') (Agree.kill S hh) (sk hk);rw[hd]at this;exact⟨q1,q2,q3,q4,zs',q6,this q7⟩;exact he.elim
    |_=>first|(simp[Lv]at hh;done)|exact he.elim
    exact he.elim
   unfold SR at he⊢;split at he;rename_i LC;try simp only[LC]
   cases a with
   |full xs=>
    cases xs with
    |cons z zs=>exact app he
    |nil=>
     simp only[Lv]at hh he⊢;simp only[ek]at hh;have hk:=FV.oh hh hxs;unfold Nv at he⊢;split at he;rename_i b1 b2 e b3 b4 hti hui;simp only[hti,hui];split at he;exact he.elim;rename_i Tu;try simp only[Tu]
     split at he;exact he.elim;rename_i j hj;try simp only[hj]
     split at he;rename_i ys v1 v2 v3;try simp only[v1,v2,v3]
     obtain⟨q1,q2,q3,q5⟩:=he;rw[jX,hoff]at q5;rw[jX];obtain⟨q8,zs,q6,q7⟩:=q5;have :=fin {S.kill (S.off+d)with aK:=(S.off+d,zs)::eH (S.off+d) S.aK} {(S.put oi.dst x).kill (S.off+d)with aK:=(S.off+d,zs)::eH (S.off+d) S.aK} (.gH (S.off+d) e j.size) ((Agree.kill S hh).trans (Agree.aaa (S.kill (S.off+d)) _ hh)) (by rw[sk hk];cases oi.dst<;>rfl);rw[hd]at this;rw[Qg]at q7;exact⟨q1,q2,q3,q8,zs,q6,this q7⟩;exact he.elim;exact he.elim
   |_=>exact app he
   rename_i LC;try simp only[LC]
   exact app he;exact he.elim
 |_=>rw[hop]at hh;simp[oJ]at hh
 rename_i hw;refine⟨hy.put h3,?_⟩;rw[<-an.put_comm h2];exact h;exact h.elim
def sS (C:Ctx)(call:iR)(Y:pn)(ops:Array Oper)(c:rZ)(i:Nat)(K:an->Prop)(S:an):Prop:=match ops[i]?with|none=>K S|some o=>match c.of i with|0=>lY C ops o K S|1=>aac C ops c.pr o K S|2=>∃K':an->Prop,Gd C call Y ops c.pr o K' S/\∀S',K' S'->K S'|_=>∃K':an->Prop,Gc C call Y ops o K' S/\∀S',K' S'->K S'
def KF (C:Ctx)(call:iR)(Y:pn)(ops:Array Oper)(c:rZ)(K:an->Prop):Nat->Array Bool->an->Prop|0,listed,S=>Region.ready .any ops listed=[]/\K S|fuel+1,listed,S=>(Region.ready .any ops listed=[]->K S)/\∀i∈Region.ready .any ops listed,sS C call Y ops c i (KF C call Y ops c K fuel (listed.setIfInBounds i true)) S
theorem adP {pr:List Nat}{K:an->Prop}(h:Gd C call Y ops pr o K S):Gc C call Y ops o K S:=by
 unfold Gd at h;unfold Gc;split at h;rename_i hw;first|exact h.2|(rw[hw];exact h.2)
 rename_i hw;first|exact h|(rw[hw];exact h)
 exact h.elim
theorem IF (dO:ni E.C call)(hY:fh E Y){c:rZ}{K:an->Prop}{Q:Exit->Act->World->Prop}(hQ:∀S a w,K S->nT E S a w->Q .normal a w):∀(fuel:Nat)(listed:Array Bool)(S:an)(a:Act)(w:World),nT E S a w->KF E.C call Y ops c K fuel listed S->wpAnyIn E.jv 0 E.C.P .any ops Q fuel listed a w:=by
 intro fuel;induction fuel with
 |zero=>intro listed S a w hs h;exact⟨h.1,hQ _ _ _ h.2 hs⟩
 |succ fuel ih=>intro listed S a w hs h;refine⟨λh0=>hQ _ _ _ (h.1 h0) hs,λi hi=>?_⟩;have h2:=h.2 i hi;unfold sS at h2;unfold wpOpIn;split at h2;rename_i ho;simp only[ho];exact ih _ _ _ _ hs h2;rename_i o ho;simp only[ho];split at h2;exact uZ hs h2 λS a w hk hs'=>ih _ _ _ _ hs' hk;obtain⟨x,hy,hK⟩:=h2;exact uZ hs (hy.yA.lY hK) λS a w hk hs'=>ih _ _ _ _ hs' hk;obtain⟨K',h3,h4⟩:=h2;exact zD dO hY hs (adP h3) λS a w hk hs'=>ih _ _ _ _ hs' (h4 _ hk);obtain⟨K',h3,h4⟩:=h2;exact zD dO hY hs h3 λS a w hk hs'=>ih _ _ _ _ hs' (h4 _ hk)
def yz (C:Ctx)(ops:Array Oper)(c:rZ)(i:Nat)(o:Oper)(x:FV)(S:an):Prop:=match c.of i with|0=>kr C ops o x S|_=>iq C ops c.pr o x S
theorem Xf {c:rZ}{i j:Nat}{oi oj:Oper}{x:FV}(hj:ops[j]?=some oj)(hi1:c.of i<=1)(hjc:c.of j<=c.of i+1)(hap:oi.apart ops oj=true){K:an->Prop}(hy:yz C ops c i oi x S)(h:sS C call Y ops c j K (S.put oi.dst x)):sS C call Y ops c j (λS'=>yz C ops c i oi x S'/\K (S'.put oi.dst x)) S:=by
 obtain⟨h1,h2,h3⟩:=Oper.apart_spec hap;have aiH:∀{S:an}{v:FV},yz C ops c i oi x S->yz C ops c i oi x (S.put oj.dst v):=λ{S v} hk=>by
  unfold yz at*;split;rename_i he;simp only[he]at hk;exact hk.put h3;rename_i he;have :iq C ops c.pr oi x S:=by split at hk;rename_i he2;exact absurd he2 he;exact hk
  exact this.put h3
 unfold sS at*;simp only[hj]at h⊢;split at h;obtain⟨u,hu,hK⟩:=ja h;refine(hu.Vz h1).lY ⟨aiH hy,?_⟩;rw[<-an.put_comm h2];exact hK;obtain⟨u,hu,hK⟩:=h;refine⟨u,hu.Vz h1,aiH hy,?_⟩;rw[<-an.put_comm h2];exact hK;rename_i WO;have hi:c.of i=1:=oO
 have hyc:iq C ops c.pr oi x S:=by unfold yz at hy;simp only[hi]at hy;exact hy
 obtain⟨K',h4,h5⟩:=h;refine⟨_,Xe hap hyc h4,λS' h'=>⟨?_,h5 _ h'.2⟩⟩;unfold yz;simp only[hi];exact h'.1;rename_i n0 n1 n2;exfalso;have :c.of j<=2:=oO
 have :c.of j=0\/c.of j=1\/c.of j=2:=oO
 rcases this with e|e|e;exact n0 e;exact n1 e;exact n2 e
theorem Tv {c:rZ}{K:an->Prop}{i:Nat}{oi:Oper}{x:FV}(hi:ops[i]?=some oi)(hi1:c.of i<=1):∀(fuel:Nat)(listed:Array Bool)(S:an),rE ops listed->(∀j oj,ops[j]?=some oj->j≠i->listed.getD j true=false->uk ops ops.size j i=true\/(c.of j<=c.of i+1/\oi.apart ops oj=true))->i∈Region.ready .any ops listed->yz C ops c i oi x S->KF C call Y ops c K fuel (listed.setIfInBounds i true) (S.put oi.dst x)->KF C call Y ops c K (fuel+1) listed S:=by
 have self:∀{K':an->Prop}{S:an},yz C ops c i oi x S->K' (S.put oi.dst x)->sS C call Y ops c i K' S:=λ{K' S} hy h=>by
  unfold sS;simp only[hi];unfold yz at hy;have :c.of i=0\/c.of i=1:=oO
  rcases this with e|e;simp only[e]at hy⊢;exact hy.lY h;simp only[e]at hy⊢;exact⟨x,hy,h⟩
 intro fuel;induction fuel with
 |zero=>intro listed S _ _ hr hy H;refine⟨λh=>(by rw[h]at hr;cases hr),λj hj=>?_⟩;by_cases hji:j=i;subst hji;exact self hy H;have :=ready_mono hj hji;rw[H.1]at this;cases this
 |succ fuel ih=>
  intro listed S mF hfree hr hy H;refine⟨λh=>(by rw[h]at hr;cases hr),λj hj=>?_⟩;by_cases hji:j=i;subst hji;exact self hy H;have h1:=H.2 j (ready_mono hj hji);obtain⟨IB,oj,VA,hall⟩:=mem_ready.1 hj;rcases hfree j oj VA hji IB with hre|⟨hjm,hap⟩;have h2:=mF.reach _ _ _ hre λo ho=>by rw[VA]at ho;obtain rfl:=aq ho;exact hall
  rw[Dy (mem_ready.1 hr).1]at h2;cases h2;have h2:=Xf VA hi1 hjm hap hy h1;have IC:∀k ok,ops[k]?=some ok->k≠i->(listed.setIfInBounds j true).getD k true=false->uk ops ops.size k i=true\/(c.of k<=c.of i+1/\oi.apart ops ok=true):=λk ok hk hki hun=>by refine hfree k ok hk hki ?_;by_cases hjk:j=k;subst hjk;exact IB;rw[getD_set_ne true hjk]at hun;exact hun
  have mono:∀{K1 K2:an->Prop}{S:an},(∀S',K1 S'->K2 S')->sS C call Y ops c j K1 S->sS C call Y ops c j K2 S:=λ{K1 K2 S} hm hq=>by unfold sS at*;simp only[VA]at hq⊢;split at hq;obtain⟨y,q1,q2⟩:=ja hq;exact q1.lY (hm _ q2);obtain⟨y,q1,q2⟩:=hq;exact⟨y,q1,hm _ q2⟩;obtain⟨K',q1,q2⟩:=hq;exact⟨K',q1,λS' h=>hm _ (q2 S' h)⟩;obtain⟨K',q1,q2⟩:=hq;exact⟨K',q1,λS' h=>hm _ (q2 S' h)⟩
  refine mono (λS' h'=>?_) h2;refine ih (listed.setIfInBounds j true) _ (mF.set hj) IC (ready_mono hr (eY hji)) h'.1 ?_;rw[Dz _ _ hji];exact h'.2
theorem zG {c:rZ}{k:Nat}{K:an->Prop}(h:za C call Y ops c k K S):sS C call Y ops c k K S/\(c.of k<=1->∃o x,ops[k]?=some o/\yz C ops c k o x S/\K (S.put o.dst x)):=by
 unfold za at h;split at h;exact h.elim;rename_i o ho;have ho':ops[k]?=some o:=by simpa using ho
 unfold sS yz;simp only[ho'];split at h;rename_i e;have :=Iz h;obtain⟨x,hy,hK⟩:=ja this;simp only[e];exact⟨hy.lY hK,λ_=>⟨o,x,rfl,hy,hK⟩⟩;rename_i e;obtain⟨x,hy,hK⟩:=Xc h;simp only[e];exact⟨⟨x,hy,hK⟩,λ_=>⟨o,x,rfl,hy,hK⟩⟩;rename_i e;simp only[e];exact⟨⟨_,Xd h,λ_ h=>h⟩,λhle=>absurd hle oO⟩;rename_i n0 n1 n2;have a0:c.of k≠0:=n0;have a1:c.of k≠1:=n1;have a2:c.of k≠2:=n2;obtain⟨n,hn⟩:∃n,c.of k=n+3:=⟨c.of k-3,oO⟩;simp only[hn];exact⟨⟨_,IA h,λ_ h=>h⟩,λhle=>absurd hle oO⟩
theorem NT {c:rZ}{K:an->Prop}:∀(p:Kw),(∀(fuel:Nat)(listed:Array Bool)(S:an),rE ops listed->oB ops c p true fuel listed=true->oC C call Y ops c K p S->KF C call Y ops c K fuel listed S)/\(∀(fuel:Nat)(listed:Array Bool)(S:an),rE ops listed->oB ops c p false fuel listed=true->oC C call Y ops c K p S->∀i,i∈p.Vm->i∈Region.ready .any ops listed->∃f,fuel=f+1/\sS C call Y ops c i (KF C call Y ops c K f (listed.setIfInBounds i true)) S):=by
 intro p;induction p with
 |fin=>
  refine⟨λfuel listed S mF hB h=>?_,λfuel listed S mF hB h i hi=>by cases hi⟩;simp only[oB,gO,List.isEmpty_iff]at hB;cases fuel with
  |zero=>exact⟨hB,h⟩
  |succ fuel=>exact⟨λ_=>h,λi hi=>by rw[hB]at hi;cases hi⟩
 |stop=>refine⟨λfuel listed S mF hB h=>?_,λfuel listed S mF hB h i hi=>by cases hi⟩;simp[oB]at hB
 |one k p ih=>
  refine⟨λfuel listed S mF hB h=>?_,λfuel listed S mF hB h i hi=>by cases hi⟩;cases fuel with
  |zero=>simp[oB]at hB
  |succ fuel=>
   simp only[oB,gO,bn]at hB;obtain⟨⟨⟨hq,hr⟩,hf⟩,hB'⟩:=hB;have hr':k∈Region.ready .any ops listed:=by simpa using hr
   have NJ:c.of k<=1:=iD hq;simp only[oC]at h;obtain⟨o,x,ho,hy,hK⟩:=(zG h).2 NJ;refine Tv ho NJ fuel listed S mF (λj oj hj hne hun=>?_) hr' hy ?_;refine(BV ho hf j oj hj hne hun).imp id λh=>⟨iD h.1,h.2⟩;exact ih.1 fuel _ _ (mF.set hr') hB' hK
 |alt k p r ihp ihr=>
  have parts:∀{S:an},oC C call Y ops c K (.alt k p r) S->za C call Y ops c k (oC C call Y ops c K p) S/\oC C call Y ops c K r S:=λ{S} h=>by simp only[oC]at h;split at h;exact⟨h,trivial⟩;exact h
  have both:∀(top:Bool)(fuel:Nat)(listed:Array Bool)(S:an),rE ops listed->oB ops c (.alt k p r) top fuel listed=true->oC C call Y ops c K (.alt k p r) S->∀i,i∈(Kw.alt k p r).Vm->i∈Region.ready .any ops listed->∃f,fuel=f+1/\sS C call Y ops c i (KF C call Y ops c K f (listed.setIfInBounds i true)) S:=λtop fuel listed S mF hB h i hi hr=>by
   obtain⟨hst,qX⟩:=parts h;cases fuel with
   |zero=>simp[oB]at hB
   |succ f=>simp only[oB,bn]at hB;rcases aL.1 hi with rfl|hi;refine⟨f,rfl,?_⟩;have hs:=(zG hst).1;obtain⟨-,o,ho,-⟩:=mem_ready.1 hr;unfold sS at hs⊢;simp only[ho]at hs⊢;have oG:∀S',oC C call Y ops c K p S'->KF C call Y ops c K f (listed.setIfInBounds i true) S':=λS' h'=>ihp.1 f _ _ (mF.set hr) hB.2.1 h';split at hs;obtain⟨y,q1,q2⟩:=ja hs;exact q1.lY (oG _ q2);obtain⟨y,q1,q2⟩:=hs;exact⟨y,q1,oG _ q2⟩;obtain⟨K',q1,q2⟩:=hs;exact⟨K',q1,λS' h=>oG _ (q2 S' h)⟩;obtain⟨K',q1,q2⟩:=hs;exact⟨K',q1,λS' h=>oG _ (q2 S' h)⟩;exact ihr.2 (f+1) listed S mF hB.2.2 qX i hi hr
  refine⟨λfuel listed S mF hB h=>?_,λfuel listed S mF hB h i hi hr=>both false fuel listed S mF hB h i hi hr⟩;have hB0:=hB;cases fuel with
  |zero=>simp[oB]at hB
  |succ f=>
   simp only[oB,xD,gA,bn,beq_iff_eq]at hB;refine⟨λe=>(by rw[hB.1]at e;cases e),λi hi=>?_⟩;obtain⟨f',hf,hst⟩:=both true (f+1) listed S mF hB0 h i (by rw[hB.1]at hi;exact hi) hi;obtain rfl:f=f':=oO
   exact hst
theorem IG (dO:ni E.C call)(hY:fh E Y){id:Nat}{c:rZ}{p:Kw}{K:an->Prop}{Q:Exit->Act->World->Prop}(hQ:∀S a w,K S->nT E S a w->Q .normal a w)(hB:oB ops c p true ops.size (Array.replicate ops.size false)=true)(hs:nT E S a w)(h:oC E.C call Y ops c K p S):(Code.region id ops true).wpIn E.jv 0 E.C.P Q a w:=by refine wpIn_region_any E.C.mixed (IF dO hY (c:=c) hQ _ _ _ _ _ (let⟨G,hs⟩:=hs;⟨G,hs.drew⟩) ?_);exact(NT p).1 _ _ _ ⟨by simp,λp o hp hl=>by have :p<ops.size:=(bz.1 hp).1;simp[this]at hl⟩ hB h
def adQ (n:Nat)(listed:Array Bool):Nat:=((List.range n).filter λi=>!listed.getD i true).length
theorem Ge {α:Type}{p q:α->Bool}{k:α}:∀{l:List α},(∀i,i∈l->q i=true->p i=true)->k∈l->p k=true->q k=false->(l.filter q).length<(l.filter p).length
 |[],_,hk,_,_=>by cases hk
 |x::l,h,hk,h1,h2=>by
  have hle:∀{l:List α},(∀i,i∈l->q i=true->p i=true)->(l.filter q).length<=(l.filter p).length:=by
   intro l;induction l with
   |nil=>intro _;exact aB _
   |cons y l ih=>
    intro h;have :=ih λi hi=>h i (dG _ hi);rw[mK,mK];cases hq:q y with
    |true=>rw[h y kX hq];simp;exact this
    |false=>cases p y<;>simp<;>omega
  have hl:=λi hi=>h i (dG _ hi);rw[mK,mK];rcases aL.1 hk with rfl|hk;rw[h1,h2];have :=hle hl;simp;omega;have :=Ge hl hk h1 h2;cases hq:q x with
  |true=>rw[h x kX hq];simp;exact this
  |false=>cases p x<;>simp<;>omega
theorem adR {c:rZ}{J:Array Bool->an->Prop}{K:an->Prop}(h1:∀(listed:Array Bool)(S':an)(k:Nat),J listed S'->k∈Region.ready .any ops listed->za C call Y ops c k (J (listed.setIfInBounds k true)) S')(h2:∀(listed:Array Bool)(S':an),J listed S'->Region.ready .any ops listed=[]->K S'):∀(fuel:Nat)(listed:Array Bool)(S:an),adQ ops.size listed<=fuel->J listed S->KF C call Y ops c K fuel listed S:=by
 intro fuel;induction fuel with
 |zero=>
  intro listed S hn hJ;have hr:Region.ready .any ops listed=[]:=by
   cases hq:Region.ready .any ops listed with
   |nil=>rfl
   |cons k r=>
    exfalso;have hk:k∈Region.ready .any ops listed:=by rw[hq];exact kX
    obtain⟨h3,o,ho,-⟩:=mem_ready.1 hk;have hlt:=(bz.1 ho).1;have :k∈(List.range ops.size).filter λi=>!listed.getD i true:=om.2 ⟨fO.2 hlt,by rw[h3];rfl⟩;have :=List.length_pos_of_mem this;unfold adQ at hn;omega
  exact⟨hr,h2 _ _ hJ hr⟩
 |succ fuel ih=>
  intro listed S hn hJ;refine⟨h2 _ _ hJ,λk hk=>?_⟩;obtain⟨h3,o,ho,-⟩:=mem_ready.1 hk;have hlt:=(bz.1 ho).1;have hun:adQ ops.size (listed.setIfInBounds k true)<adQ ops.size listed:=by
   refine Ge (k:=k) (λi _ h=>?_) (fO.2 hlt) (by rw[h3];rfl) ?_;by_cases hik:k=i;subst hik;rw[h3];rfl;rw[getD_set_ne true hik]at h;exact h;have hsz:k<listed.size:=by rcases Nat.lt_or_ge k listed.size with h|h;exact h;rw[DB,Dw h]at h3;cases h3
   simp[DB,NQ,hsz]
  have hs:=(zG (h1 listed S k hJ hk)).1;have oG:∀S',J (listed.setIfInBounds k true) S'->KF C call Y ops c K fuel (listed.setIfInBounds k true) S':=λS' h=>ih _ _ oO h;unfold sS at hs⊢;simp only[ho]at hs⊢;split at hs;obtain⟨y,q1,q2⟩:=ja hs;exact q1.lY (oG _ q2);obtain⟨y,q1,q2⟩:=hs;exact⟨y,q1,oG _ q2⟩;obtain⟨K',q1,q2⟩:=hs;exact⟨K',q1,λS' h=>oG _ (q2 S' h)⟩;obtain⟨K',q1,q2⟩:=hs;exact⟨K',q1,λS' h=>oG _ (q2 S' h)⟩
theorem Gf {o:Nat}{l:List (Nat×List FV)}{ys:List FV}(h:Qv.getObj l o=some ys):∃xs,Qv.getObj l o=some xs/\xs.length=ys.length/\∀(i:Nat)(x y:FV),xs[i]?=some x->ys[i]?=some y->bw x y:=⟨ys,h,rfl,λi x y hx hy=>by rw[hx]at hy;obtain rfl:=aq hy;exact bw.refl _⟩
theorem cU.refl (S:an):cU S S:=⟨rfl,rfl,rfl,λ_ _ q=>⟨q,id⟩,⟨rfl,λi f f' h1 h2=>by rw[h1]at h2;obtain rfl:=aq h2;exact⟨rfl,rfl,λ_=>bw.refl _⟩⟩,λ_=>bw.refl _,λ_ _ h=>Gf h,λo l h=>⟨l,h,rfl,λi p p' h1 h2=>by rw[h1]at h2;obtain rfl:=aq h2;exact⟨rfl,bw.refl _⟩⟩,λ_ _ h=>h⟩
theorem QD (S:an)(ds:List Nat):Off ds S S:=⟨rfl,rfl,rfl,rfl,rfl,rfl,rfl,rfl,λ_ _=>rfl⟩
theorem jZ (dO:ni E.C call)(hY:fh E Y){id:Nat}{draw:Bool}{K:an->Prop}{Q:Exit->Act->World->Prop}(hQ:∀S a w,K S->nT E S a w->Q .normal a w)(hs:nT E S a w)(h:lV E.C call Y ops draw K S):(Code.region id ops draw).wpIn E.jv 0 E.C.P Q a w:=by
 have keep:∀(φ:List FV->Prop),EL K (S.vH (dstsOf ops.toList)) (qe ops.toList) φ->∀S' a w,(φ (getAll S' (qe ops.toList))/\Off (dstsOf ops.toList) S S')->nT E S' a w->Q .normal a w:=λφ hk S' a w ⟨h1,h2⟩ hs'=>by obtain⟨T,h3,h4⟩:=Qw _ _ _ hk h1 h2.weaken;exact hQ T a w h3 (hs'.weaken h4)
 have hd:∀o,o∈ops.toList->∀d,o.dst=some d->d∈dstsOf ops.toList:=λo ho d hd=>Tm ho hd;unfold lV at h;split at h;exact wpIn_region_list (FY dO hY hQ _ _ _ _ h hs);obtain⟨φ,h⟩:=h;cases φ with
 |none=>exact wpIn_region_list (FY dO hY hQ _ _ _ _ h hs)
 |some φ=>obtain⟨h1,h2⟩:=h;exact wpIn_region_list (WV (keep φ h2) _ _ _ _ (Vy _ _ _ hd (QD _ _) h1) hs)
 obtain⟨how,h⟩:=h;cases how with
 |lex m=>
  obtain⟨hB,h⟩:=h;have hm:m<=ops.size:=by simp only[BL,bn,decide_eq_true_eq]at hB;exact hB.1.1
  exact ID dO hY hQ hB hs h hm
 |keep φ=>obtain⟨hB,h1,h2⟩:=h;refine ID dO hY (m:=ops.size) (keep φ h2) hB hs ?_ (aB _);have h3:=Vy (ds:=dstsOf ops.toList) _ _ _ hd (QD _ _) h1;have e1:ops.toList.take ops.size=ops.toList:=ej (by simp);have e2:ops.toList.drop ops.size=[]:=Dd (by simp);rw[e1,e2];exact h3
 |plan c p T=>
  obtain⟨hB,h⟩:=h;cases T with
  |none=>exact IG dO hY hQ hB hs h
  |some T=>exact IG dO hY (K:=λS'=>cU S' T) (λS a w hw hs=>hQ T a w h.2 (hs.weaken hw)) hB hs h.1
 |sea c J=>obtain⟨h0,h1,h2⟩:=h;exact wpIn_region_any E.C.mixed (IF dO hY (c:=c) hQ _ _ _ _ _ (let⟨G,hs⟩:=hs;⟨G,hs.drew⟩) (adR h1 h2 ops.size _ _ (cg (lq _ _) (by simp)) h0))
end
section
variable {E:Env}{G:bl}{S:an}{a:Act}{w:World}
def qp (tmps:Array Value):ResultVar->Sem Value|.tmp t=>pure (tmps.getD t undef)|.cell a t=>do loadVar t (<-asAddr (tmps.getD a undef))
def VB:List Value->Value|[v]=>v|vs=>.tuple vs.toArray
theorem lJ (fn:Func)(tmps:Array Value)(P:Program)(w:World){vs:List Value}(h:(fn.results.toList.mapM (qp tmps)).run P w=.ok vs w):(results fn tmps).run P w=.ok (VB vs) w:=by
 have h2:(fn.results.mapM (qp tmps)).run P w=.ok vs.toArray w:=by rw[Array.mapM_eq_mapM_toList];simp only[Sem.run_map,h,Result.andThen_ok]
 have h3:results fn tmps=(do let vs<-fn.results.mapM (qp tmps);pure (if h:vs.size=1 then vs[0]else .tuple vs)):=by unfold results;congr 1
 rw[h3];simp only[Sem.run_bind,h2,Result.andThen_ok,Sem.run_pure];congr 1;match vs with
  |[]=>rfl
  |[v]=>rfl
  |v::u::r=>rfl
theorem zH (hs:bA E G S a w){ad:Nat}{t:TypeId}{K:FV->Prop}(h:nB E.C S.aK t (S.get ad) K):∃v x,(qp a.tmps (.cell ad t)).run E.C.P w=.ok v w/\K x/\aU G w v x:=by obtain⟨p,v,x,h1,h2,h3,h4⟩:=Lz hs (aU.get hs ad) h;exact⟨v,x,by simp only[qp,Sem.run_bind,h1,asAddr,Sem.run_pure,Result.andThen_ok,h2],h3,h4⟩
theorem yB (hs:bA E G S a w):∀(rs:List ResultVar)(K:List AV->Prop),mX E.C S rs K->∃vs xs,(rs.mapM (qp a.tmps)).run E.C.P w=.ok vs w/\K xs/\vs.length=rs.length/\vs.length=xs.length/\∀(i:Nat)(c:Value)(x:AV),vs[i]?=some c->xs[i]?=some x->dH G.br w c x:=by
 intro rs;induction rs with
 |nil=>intro K h;exact⟨[],[],by simp,h,rfl,rfl,by simp⟩
 |cons r rs ih=>
  have fin:∀(K:List AV->Prop){v:Value}{y:AV},(qp a.tmps r).run E.C.P w=.ok v w->dH G.br w v y->mX E.C S rs (λxs=>K (y::xs))->∃vs xs,((r::rs).mapM (qp a.tmps)).run E.C.P w=.ok vs w/\K xs/\vs.length=(r::rs).length/\vs.length=xs.length/\∀(i:Nat)(c:Value)(x:AV),vs[i]?=some c->xs[i]?=some x->dH G.br w c x:=λK {v y} h1 h2 h3=>by obtain⟨vs,xs,g1,g2,g3,g4,g5⟩:=ih _ h3;refine⟨v::vs,y::xs,by simp_all,g2,by grind,by grind,λi c x hc hx=>?_⟩;grind
  intro K h;cases r with
  |tmp t=>simp only[mX]at h;split at h;rename_i y hy;exact fin K (v:=a.tmps.getD t undef) rfl ((aU.get hs t).fA hy) h;simp_all
  |cell ad t=>simp only[mX]at h;obtain⟨v,x,h1,h2,h3⟩:=zH hs h;split at h2;rename_i y hy;exact fin K h1 (h3.fA hy) h2;simp_all
theorem tG (hs:bA E G S a w){v:Value}{x:AV}(h:dH G.br w v x):dH (lT E.EM E.w0.heap.size) w v x:=h.keep (λb o hi=>hs.nS b o hi) (λ_ _ _ _ h=>h) (.refl _ _)
theorem oo (hs:bA E G S a w):∀(rs:List ResultVar)(K:List FV->Prop),rq E.C S rs K->∃vs xs,(rs.mapM (qp a.tmps)).run E.C.P w=.ok vs w/\K xs/\vs.length=rs.length/\vs.length=xs.length/\∀(i:Nat)(c:Value)(x:FV),vs[i]?=some c->xs[i]?=some x->aU G w c x:=by
 intro rs;induction rs with
 |nil=>intro K h;exact⟨[],[],by simp,h,rfl,rfl,by simp⟩
 |cons r rs ih=>
  have fin:∀(K:List FV->Prop){v:Value}{y:FV},(qp a.tmps r).run E.C.P w=.ok v w->aU G w v y->rq E.C S rs (λxs=>K (y::xs))->∃vs xs,((r::rs).mapM (qp a.tmps)).run E.C.P w=.ok vs w/\K xs/\vs.length=(r::rs).length/\vs.length=xs.length/\∀(i:Nat)(c:Value)(x:FV),vs[i]?=some c->xs[i]?=some x->aU G w c x:=λK {v y} h1 h2 h3=>by obtain⟨vs,xs,g1,g2,g3,g4,g5⟩:=ih _ h3;refine⟨v::vs,y::xs,by simp_all,g2,by grind,by grind,λi c x hc hx=>?_⟩;grind
  intro K h;cases r with
  |tmp t=>exact fin K (v:=a.tmps.getD t undef) rfl (aU.get hs t) h
  |cell ad t=>simp only[rq]at h;obtain⟨v,x,h1,h2,h3⟩:=zH hs h;exact fin K h1 h3 h2
theorem AK {vs:List Value}{xs:List FV}(hl:vs.length=xs.length)(h:∀(i:Nat)(c:Value)(x:FV),vs[i]?=some c->xs[i]?=some x->aU G w c x):aU G w (VB vs) (Kx xs):=by
 match vs,xs,hl with
  |[v],[x],_=>exact h 0 v x rfl rfl
  |[],[],_=>exact .eN [] [] rfl (by simp)
  |v::u::vs,x::y::xs,hl=>exact .eN (v::u::vs) (x::y::xs) hl h
  |[],_::_,hl=>simp_all
  |[_],[],hl=>simp_all
  |[_],_::_::_,hl=>simp_all
  |_::_::_,[],hl=>simp_all
  |_::_::_,[_],hl=>simp_all
theorem aU.bare {G:bl}{w:World}{v:Value}{x:FV}(h:aU G w v x){br:Nat->Nat->Prop}(hi:∀b o,G.br b o->br b o):x.safe []=true->aU (bare br) w v x:=by
 have key:∀{xs:List FV},FV.uS [] xs=true->∀x,x∈xs->x.safe []=true:=by
  intro xs;induction xs with
  |nil=>simp_all
  |cons y ys ih=>intro h x hx;simp only[FV.uS]at h;grind
 induction h with
 |p v x h=>intro _;exact .p v x (h.keep hi (λ_ _ _ _ h=>h) (.refl _ _))
 |agg cs xs hn _ ih=>intro hs;simp only[FV.safe]at hs;exact .agg cs xs hn λi c x h1 h2=>ih i c x h1 h2 (key hs x (bW h2))
 |eN cs xs hn _ ih=>intro hs;simp only[FV.safe]at hs;exact .eN cs xs hn λi c x h1 h2=>ih i c x h1 h2 (key hs x (bW h2))
 |ptr o off b h=>intro hs;simp[FV.safe,hU]at hs
 |gd t T bP xs a c h1 h2=>intro hs;simp[FV.safe,hU]at hs
 |full xs a h=>intro _;exact .full xs a (h.keep hi (λ_ _ _ _ h=>h) (.refl _ _))
 |fn f fs cs first captured hn hn' _ _ ih GM=>intro hs;simp only[FV.safe]at hs;split at hs;rename_i h1;exact .fn f fs cs first captured hn hn' (λi c x h2 h3=>ih i c x h2 h3 (key h1 x (bW h3))) (λi c x h2 h3=>GM i c x h2 h3 (key hs x (bW h3)));simp_all
 |mh l k h=>intro hs;simp[FV.safe,hU]at hs
 |gH o T bP n c b h1 h2 h3 h4=>intro hs;simp[FV.safe,hU]at hs
 |uK o x T bP n c b off h1 h2 h0 h3 h4=>intro hs;simp[FV.safe,hU]at hs
 |gV o base off b h=>intro hs;simp[FV.safe,hU]at hs
 |gw o b h=>intro hs;simp[FV.safe,hU]at hs
 |Ay o b h=>intro hs;simp[FV.safe,hU]at hs
 |dW v=>intro _;exact .dW v
theorem Xg {xs:List FV}(h:FV.uS [] xs=true):(Kx xs).safe []=true:=by
 match xs,h with
  |[],_=>rfl
  |[x],h=>simp only[FV.uS]at h;split at h;assumption;simp_all
  |_::_::_,h=>exact h
theorem VC (hs:bA E G S a w){v:Value}{o bP:Nat}{T:TypeId}(hr:aU G w v (.gH o T bP)){R:dJ->Prop}{rest:Option (List AV)}{us:List Value}(h:Zv S o bP λxss=>R (.own rest T bP xss))(hu:∀r,rest=some r->us.length=r.length/\∀(i:Nat)(u:Value)(x:AV),us[i]?=some u->r[i]?=some x->dH G.br w u x):∃xss,R (.own rest T bP xss)/\oz E.EM E.w0.heap.size w (ago rest v us) (.own rest T bP xss):=by obtain⟨n,c,b,rfl,h1,h2,h3,h4⟩:=hr.Hq;obtain⟨xss,g1,g2,g3⟩:=h;split at g2;rename_i cells hc;obtain⟨hon,hc⟩:=jl hc;obtain⟨t1,t2,⟨cs,fr,tt,-⟩,t3⟩:=hs.gv _ _ _ _ _ h2;obtain⟨-,-,l3⟩:=hs.gW o b h1;have hlen:=(hs.cL o o b _ h1 h2).2.2 cells hc;obtain⟨b',k1,k2⟩:=hs.aK o cells hc;rw[h1]at k1;obtain rfl:=aq k1;obtain⟨k3,k4⟩:=FV.jk g2;have hfl:xss.flatten.length=xss.length*bP:=ic λzs hz=>(g1 zs hz).1;obtain rfl:n=xss.length:=gP h4 oO;have hI:∀{u:Value}{x:AV},dH G.br w u x->dH (Zf E.EM E.w0.heap.size b) w u x:=λh=>h.keep (λb' o' hi=>(hs.nS b' o' hi).imp id λh=>⟨h,λe=>(l3 o').1 (e▸hi)⟩) (λ_ _ _ _ h=>h) (.refl _ _);refine⟨xss,g3,b,c,cs,fr,us,rfl,t2,t1,h4,h3,g1,tt,λi=>(l3 i).2,λi hi=>?_,λi x hx=>?_,λr hr=>⟨(hu r hr).1,λi u x q1 q2=>hI ((hu r hr).2 i u x q1 q2)⟩⟩;by_cases hin:i<cells.length;obtain⟨u,q1,-⟩:=k2 i _ (ay hin);simp_all;simp_all;obtain⟨y,q1,q2⟩:=k4 i x hx;obtain⟨u,q3,q4⟩:=k2 i y q1;exact⟨u,q3,hI (q4.fA q2)⟩;simp_all
theorem eN (hs:bA E G S a w){fn:Func}{R:dJ->Prop}{rs:List ResultVar}(hrs:fn.results.toList=rs)(hn:rs.length≠1)(h:mX E.C S rs λxs=>R (.val (.eN xs))):∃v r,(results fn a.tmps).run E.C.P w=.ok v w/\R r/\oz E.EM E.w0.heap.size w v r:=by
 obtain⟨vs,xs,g1,g2,g3,g4,g5⟩:=yB hs _ _ h;refine⟨_,_,lJ fn a.tmps E.C.P w (hrs▸g1),g2,?_⟩;have :VB vs=Value.tuple vs.toArray:=by
  match vs,g3 with
   |[],_=>rfl
   |[v],g3=>simp_all
   |v::u::r,_=>rfl
 rw[this];exact tG hs (.eN vs xs g4 g5)
theorem II (hs:bA E G S a w){fn:Func}{R:dJ->Prop}(h:ze E.C fn.results.toList R S):∃v r,(results fn a.tmps).run E.C.P w=.ok v w/\R r/\oz E.EM E.w0.heap.size w v r:=by
 unfold ze at h;split at h;obtain⟨vs,xs,g1,g2,g3,g4,g5⟩:=oo hs _ _ h;split at g2;rename_i aiI;exact⟨_,_,lJ fn a.tmps E.C.P w g1,g2,(AK g4 g5).bare (λb o hi=>hs.nS b o hi) (Xg aiI)⟩;simp_all;split at h;rename_i t hrs;have hrun:(results fn a.tmps).run E.C.P w=.ok (a.tmps.getD t undef) w:=by have :=lJ fn a.tmps E.C.P w (vs:=[a.tmps.getD t undef]) (by rw[hrs];rfl);exact this
 have hr:=aU.get hs t;generalize a.tmps.getD t undef=v at hrun hr;split at h;rename_i k T bP xs hg;rw[hg]at hr;rcases h with h|h;refine⟨v,_,hrun,h,?_⟩;cases hr with
 |gd _ _ _ _ ad c h1 h2=>refine⟨ad,c,rfl,?_⟩;rcases h2 with⟨rfl,rfl⟩|⟨b,off,rfl,h3,h4⟩;exact .inl ⟨rfl,rfl,tG hs h1⟩;obtain⟨t1,t2,⟨cs,fr,tt,-⟩,t3⟩:=hs.gv _ _ _ _ _ h4;refine .inr ⟨b,off,cs,fr,rfl,t2,t1,h3,tt,λi hi hi'=>⟨(t3 i hi hi').1,(t3 i hi hi').2.1⟩,?_⟩;refine h1.keep (λb' o hi=>?_) (λ_ _ _ _ h=>h) (.refl _ _);rcases hs.nS b' o hi with h5|h5;simp_all;grind
 exact⟨v,_,hrun,h,tG hs (hr.fA rfl)⟩;rename_i hg;rw[hg]at hr;rcases h with⟨T,bP,h⟩|h;refine⟨v,_,hrun,h,?_⟩;cases hr with
 |full _ ad h1=>exact⟨ad,0,rfl,.inl ⟨rfl,rfl,tG hs h1⟩⟩
 exact⟨v,_,hrun,h,tG hs (hr.fA rfl)⟩;rename_i o hg;rw[hg]at hr;obtain⟨ks,vs,hf,h⟩:=h;obtain⟨G',hs',up⟩:=hs.Th hf;have hu:=up v _ hr;rw[show(FV.gw o).fm o (.mp ks vs)=.p (.mp ks vs)from by simp[FV.fm]]at hu;exact⟨v,_,hrun,h,tG hs' (hu.fA rfl)⟩;rename_i o T bP hg;rw[hg]at hr;obtain⟨xss,g1,g2⟩:=VC hs hr h (rest:=none) (us:=[]) (λr h=>by grind);exact⟨v,_,hrun,g1,g2⟩;split at h;rename_i y hy;exact⟨v,_,hrun,h,tG hs (hr.fA hy)⟩;simp_all;rename_i ad t hrs;obtain⟨v,x,h1,h2,h3⟩:=zH hs h;split at h2;rename_i y hy;exact⟨v,_,lJ fn a.tmps E.C.P w (vs:=[v]) (by simp_all),h2,tG hs (h3.fA hy)⟩;simp_all;rename_i t r1 rest hrs;split at h;rename_i o T bP hg;have hr:=aU.get hs t;rw[hg]at hr;obtain⟨vs,xs,g1,g2,g3,g4,g5⟩:=yB hs _ _ h;have h0:(qp a.tmps (.tmp t)).run E.C.P w=.ok (a.tmps.getD t undef) w:=rfl;have key:∀rr:List ResultVar,(rr.mapM (qp a.tmps)).run E.C.P w=.ok vs w->((ResultVar.tmp t::rr).mapM (qp a.tmps)).run E.C.P w=.ok (a.tmps.getD t undef::vs) w:=λrr g=>by simp_all
 have hrun:=lJ fn a.tmps E.C.P w (vs:=a.tmps.getD t undef::vs) (by grind);have ht:VB (a.tmps.getD t undef::vs)=ago (some xs) (a.tmps.getD t undef) vs:=by match vs,g3 with|u::r,_=>rfl
 rw[ht]at hrun;obtain⟨xss,k1,k2⟩:=VC hs hr g2 (rest:=some xs) (us:=vs) λr h=>by grind
 grind;exact eN hs (rs:=.tmp t::r1::rest) hrs (by simp) h;rename_i WR hn2 Pn;refine eN hs rfl ?_ h;generalize hrr:fn.results.toList=rr at WR hn2 Pn;match rr with
  |[]=>simp
  |[.tmp t]=>simp_all
  |[.cell ad t]=>simp_all
  |_::_::_=>simp
end
section
variable {E:Env}{G:bl}{S:an}{a:Act}{w:World}
theorem bA.enter (hs:bA E G S a w){n:Nat}{tmps:Nat->FV}{vals:Array Value}(hn:vals.size=n)(ht:∀i,i<n->aU G w (vals.getD i undef) (tmps i)){mD:Option Nat}(hr:∀l,mD=some l->∃(i:Nat) (r:Loop),E.loops[i]?=some (l,r)):bA {E with mD:=mD,bM:=a.tmps::E.bM,fixed:=marksOf a.defers++E.fixed} G (S.enter n tmps) {tmps:=vals,defers:=[]} w:=by
 refine⟨hs.kept,hn,⟨hs.ext'.mps.env rfl rfl rfl,by simp[an.enter,hs.ext'.lR],λi vs fr h1 h2=>?_,hs.ext'.kP,hs.ext'.loops,hs.ext'.lS,hs.ext'.yl,hr,?_,hs.ext'.Be⟩,⟨hs.jr.at_,hs.jr.row,hs.jr.dx⟩,hs.nS,hs.fJ,ht,hs.aK,hs.gW,hs.fq,hs.cL,hs.gv,hs.ew⟩;cases i with
 |zero=>simp[an.enter]at h1 h2;subst h1;subst h2;exact⟨hs.size,hs.tmps⟩
 |succ i=>simp[an.enter]at h1 h2;exact hs.ext'.bM i vs fr h1 h2
 obtain⟨ms,h1,h2,h3⟩:=hs.ext'.marks;refine⟨[],rfl,?_,?_⟩;simpa[h1,mu]using h2;simpa[h1,mu]using h3
theorem bA.leave {E:Env}{mD:Option Nat}{a':Act}{w':World}{f:Fr}{r:List Fr}{ms:List Nat}(hs:bA {E with mD:=mD,bM:=a.tmps::E.bM,fixed:=marksOf a.defers++E.fixed} G S a' w')(hf:S.bM=f::r)(hd:a.defers=ms.map mark)(hr:∀l,E.mD=some l->∃(i:Nat) (r:Loop),E.loops[i]?=some (l,r)):bA E G {n:=f.n,off:=f.off,tmps:=f.tmps,aK:=S.aK,bM:=r,cO:=S.cO,dh:=S.dh,maps:=S.maps,jD:=S.jD} a w':=by obtain⟨h1,h2⟩:=hs.ext'.bM 0 a.tmps f rfl (by simp_all);refine⟨hs.kept,h1,⟨hs.ext'.mps.env rfl rfl rfl,?_,λi vs fr h3 h4=>?_,hs.ext'.kP,hs.ext'.loops,hs.ext'.lS,hs.ext'.yl,hr,⟨ms,hd,?_,?_⟩,hs.ext'.Be⟩,⟨hs.jr.at_,hs.jr.row,hs.jr.dx⟩,hs.nS,hs.fJ,h2,hs.aK,hs.gW,hs.fq,hs.cL,hs.gv,hs.ew⟩;have :=hs.ext'.lR;simp_all;exact hs.ext'.bM (i+1) vs fr (by simp_all) (by simp_all);obtain⟨ms',-,h4,-⟩:=hs.ext'.marks;have h5:(marksOf a.defers++E.fixed).Nodup:=(og.1 h4).2.1;rwa[hd,mu]at h5;obtain⟨ms',-,-,h4⟩:=hs.ext'.marks;intro q hq;refine h4 q (tH _ ?_);show q∈marksOf a.defers++E.fixed;rw[hd,mu];omega
theorem Fe {K:an->Prop}(h:S.leave K):∃f r,S.bM=f::r/\K {n:=f.n,off:=f.off,tmps:=f.tmps,aK:=S.aK,bM:=r,cO:=S.cO,dh:=S.dh,maps:=S.maps,jD:=S.jD}:=by unfold an.leave at h;grind
theorem AL {P:Program}{fn:Func}{tmps:Array Value}{R:Ending->World->Prop}:∀(ms:List Nat){E:Env}{G:bl}{S:an}{a:Act}{w:World},E.C.P=P->bA E G S a w->a.tmps=tmps->a.defers=ms.map mark->(∀G a' w',bA E G S a' w'->a'.tmps=tmps->a'.defers=[]->∃v,(results fn tmps).run P w'=.ok v w'/\R (.returned v) w')->LeavesInM Fence.wide 0 P fn tmps R (ms.map mark) .returning w:=by
 intro ms;induction ms with
 |nil=>intro E G S a w hP hs ht hd h;exact h G a w hs ht hd
 |cons m ms ih=>
  intro E G S a w hP hs ht hd h;obtain⟨ms',h1,h2,h3⟩:=hs.ext'.marks;have yC:ms'=m::ms:=by have e1:=aY marksOf h1;rw[hd,mu,mu]at e1;exact e1.symm
  subst yC;obtain⟨h4,h5⟩:=h3 m (by simp);refine⟨by simp,.inl ⟨m,w.putObj m (.deferred none),rfl,run_takeDeferred h5,?_⟩⟩;have Ti:=h2;rw[cr,tI]at Ti;have hs':bA {E with mD:=E.mD,bM:=E.bM,loops:=E.loops,fixed:=E.fixed} G {S with cO:=S.cO} {a with defers:=ms.map mark} (w.putObj m (.deferred none)):=hs.putObj (o':=.deferred none) (maps:=S.maps) (jD:=S.jD) h5 rfl rfl (.inl h4) (λ⟨es,k,h⟩=>by grind) (λkeep sF hsame=>by refine⟨hs.ext'.mps.zx h5 ⟨λ_ _ h=>(by grind),λ_ _ _ _ h=>(by grind)⟩ keep sF rfl rfl rfl,hs.ext'.lR,λi vs fr q1 q2=>?_,hs.ext'.kP,λi k r st q1 q2=>?_,hs.ext'.lS,hs.ext'.yl,hs.ext'.mD,⟨ms,rfl,Ti.2,λr hr=>?_⟩,hs.ext'.Be.of keep⟩;obtain⟨q3,q4⟩:=hs.ext'.bM i vs fr q1 q2;simp_all;obtain⟨q3,q4⟩:=hs.ext'.loops i k r st q1 q2;grind;grind);grind
end
section
variable {E:Env}{G:bl}{S:an}{a:Act}{w:World}
theorem VD:∀(l:List Az)(n:Nat),HV l n=l[n]?
 |[],n=>by rfl
 |p::l,0=>rfl
 |p::l,n+1=>by simp[HV,VD l n]
theorem VE:∀(l:List Fr)(n:Nat),adt l n=l[n]?
 |[],n=>by rfl
 |p::l,0=>rfl
 |p::l,n+1=>by simp[adt,VE l n]
theorem NU:∀(l:List Az)(n:Nat)(q:Az),WG l n q=l.set n q
 |[],n,q=>by rfl
 |p::l,0,q=>rfl
 |p::l,n+1,q=>by simp[WG,NU l n q]
theorem QE (r:Loop)(h1:r.state=.ready)(h2:r.pending=none):Az.ready.of r=r:=by cases r;simp only at h1 h2;subst h1;subst h2;rfl
theorem LK:∀(ps:List Nat)(vals:List Value)(args:List FV)(t:Array Value)(f:Nat->FV)(n:Nat),vals.length=args.length->vals.length=ps.length->t.size=n->(∀i,i<n->aU G w (t.getD i undef) (f i))->(∀(i:Nat)(v:Value)(x:FV),vals[i]?=some v->args[i]?=some x->aU G w v x)->((ps.zip vals).foldl (λt (p,v)=>t.setIfInBounds p v) t).size=n/\∀i,i<n->aU G w (((ps.zip vals).foldl (λt (p,v)=>t.setIfInBounds p v) t).getD i undef) (PC f ps args i)
 |[],vals,args,t,f,n,h1,h2,h3,h4,h5=>by
  cases args with
  |nil=>exact⟨by simp_all,by simpa[PC]using h4⟩
  |cons x args=>simp_all
 |p::ps,[],args,t,f,n,h1,h2,h3,h4,h5=>by grind
 |p::ps,v::vals,[],t,f,n,h1,h2,h3,h4,h5=>by simp_all
 |p::ps,v::vals,x::args,t,f,n,h1,h2,h3,h4,h5=>by
  simp only[List.zip_cons_cons,fN,PC];refine LK ps vals args (t.setIfInBounds p v) _ n (by simp_all) (by simp_all) (by simp_all) (λi hi=>?_) (λi u y hu hy=>h5 (i+1) u y (by simp_all) (by simp_all));have hi':i<t.size:=oO
  by_cases hd:i=p;subst hd;have :Nat.beq i i=true:=by simp
  rw[this];have hv:=h5 0 v x rfl rfl;simp_all;have :Nat.beq i p=false:=by cases hb:Nat.beq i p;rfl;simp_all
  rw[this];have :=h4 i hi;simpa[Array.getD,hi',CV,eY hd]using this
theorem bA.Ff (hs:bA E G S a w){i k:Nat}{r:Loop}{st:Az}(h1:E.loops[i]?=some (k,r))(h2:HV S.cO i=some st):E.w0.heap.size<=k/\w.heap[k]?=some (.loop (st.of r)):=hs.ext'.loops i k r st h1 (by rw[<-VD];omega)
theorem bA.aiJ (hs:bA E G S a w){i k:Nat}{r:Loop}{st st':Az}(h1:E.loops[i]?=some (k,r))(h2:HV S.cO i=some st):bA E G {S with cO:=WG S.cO i st'} a (w.putObj k (.loop (st'.of r))):=by obtain⟨h3,h4⟩:=hs.Ff h1 h2;refine hs.putObj (o:=.loop (st.of r)) (o':=.loop (st'.of r)) h4 rfl rfl (.inl h3) (λ⟨es,k,h⟩=>by grind) (maps:=S.maps) (jD:=S.jD) (mD:=E.mD) (bM:=E.bM) (loops:=E.loops) (fixed:=E.fixed) (defers:=a.defers) (λkeep sF hsame=>?_);refine⟨hs.ext'.mps.zx h4 ⟨λ_ _ h=>(by grind),λ_ _ _ _ h=>(by grind)⟩ keep sF rfl rfl rfl,hs.ext'.lR,λj vs fr q1 q2=>?_,by simp only[NU,List.length_set];exact hs.ext'.kP,λj k' r' st2 q1 q2=>?_,hs.ext'.lS,hs.ext'.yl,hs.ext'.mD,?_,hs.ext'.Be.of keep⟩;obtain⟨q3,q4⟩:=hs.ext'.bM j vs fr q1 q2;simp_all;simp only[NU]at q2;by_cases hj:j=i;grind;rw[Dj (eY hj)]at q2;obtain⟨q3,q4⟩:=hs.ext'.loops j k' r' st2 q1 q2;refine⟨q3,sF _ _ (λe=>?_) q4⟩;subst e;exact hj (hs.ext'.lS j i k' r' r q1 h1);obtain⟨ms,q1,q2,q3⟩:=hs.ext'.marks;grind
theorem bA.aae (hs:bA E G S a w){l:Nat}{rec:Loop}{ms:List Nat}(hl:w.heap[l]?=some (.loop (Az.ready.of rec)))(hw0:E.w0.heap.size<=l)(hnew:∀(i k:Nat)(r:Loop),E.loops[i]?=some (k,r)->k≠l)(yC:∀m,m∈ms->E.w0.heap.size<=m/\w.heap[m]?=some (.deferred (some [])))(Ti:(ms++(marksOf a.defers++E.fixed)).Nodup):∃G',bA {E with loops:=E.loops++[(l,rec)]} G' {S.kill (1000000+S.cO.length)with cO:=S.cO++[.ready]} {a with defers:=ms.map mark++a.defers} w/\G'.yl (1000000+S.cO.length)=some l/\∀v x,aU G w v x->aU G' w v (x.kill (1000000+S.cO.length)):=by
 generalize hlv:S.cO.length=lvl;have an4:lvl=E.loops.length:=hlv▸hs.ext'.kP;let G':bl:={G.free (1000000+lvl)with yl:=λn=>if n=1000000+lvl then some l else G.yl n};have up:∀v x,aU G w v x->aU G' w v (x.kill (1000000+lvl)):=λv x h=>h.kill _ rfl (λo b h h'=>by simp only[G',bl.free];simp_all) (λt r h h'=>by simp only[G',bl.free];simp_all) (λn k h h'=>by grind) (hmp:=bl.oV.1) (hit:=bl.oV.2.2.1);have HY:mj (FV.kill (1000000+lvl)) G G' S (S.kill (1000000+lvl)) w:=.kill _ rfl bl.oV.1 bl.oV.2.1 bl.oV.2.2.1 bl.oV.2.2.2 (λo b h=>by simp only[G',bl.free]at h;simp_all);have h1:=hs.kill (1000000+lvl);have up2:∀v x,aU (G.free (1000000+lvl)) w v x->(∀k,x≠.mh k)->True:=λ_ _ _ _=>trivial;refine⟨G',⟨h1.kept,h1.size,⟨(hs.ext'.mps.move _ up (.refl _) HY).env rfl rfl rfl,?_,λi vs fr q1 q2=>?_,?_,λi k r st q1 q2=>?_,λi j k r r' q1 q2=>?_,λi k r q1 k' q2=>?_,λq hq=>?_,?_,hs.ext'.Be⟩,⟨h1.jr.at_,h1.jr.row,h1.jr.dx⟩,h1.nS,h1.fJ,λi hi=>up _ _ (hs.tmps i hi),λo cells ho=>?_,h1.gW,h1.fq,h1.cL,h1.gv,h1.ew⟩,by grind,up⟩;exact h1.ext'.lR;have q2':(yW (FV.kill (1000000+lvl)) S.bM)[i]?=some fr:=q2;rw[HJ,aM]at q2';cases hx:S.bM[i]?with
 |none=>simp_all
 |some fr0=>simp[hx]at q2';subst q2';obtain⟨q3,q4⟩:=hs.ext'.bM i vs fr0 q1 hx;exact⟨q3,λj hj=>up _ _ (q4 j hj)⟩
 simp_all;by_cases hi:i<E.loops.length;rw[cF hi]at q1;rw[cF oO]at q2;exact hs.ext'.loops i k r st q1 q2;grind;have va:∀(i k:Nat)(r:Loop),(E.loops++[(l,rec)])[i]?=some (k,r)->(i<E.loops.length/\E.loops[i]?=some (k,r))\/(i=E.loops.length/\k=l):=λi k r q=>by grind
 rcases va i k r q1 with⟨-,e1⟩|⟨e1,e2⟩<;>rcases va j k r' q2 with⟨-,e3⟩|⟨e3,e4⟩;exact hs.ext'.lS i j k r r' e1 e3;grind;grind;omega;simp only[G']at q2;by_cases hi:i<E.loops.length;rw[cF hi]at q1;rw[af oO]at q2;exact hs.ext'.yl i k r q1 k' q2;grind;obtain⟨i,r,q1⟩:=hs.ext'.mD q hq;exact⟨i,r,by grind⟩;obtain⟨ms',q1,q2,q3⟩:=hs.ext'.marks;rw[q1,mu]at Ti;grind;obtain⟨hne,cs,q2,rfl⟩:=lH ho;obtain⟨b,q3,q4⟩:=hs.aK o cs q2;refine⟨b,by simp only[G',bl.free];simp_all,λi x hx=>?_⟩;rw[FV.fT,aM]at hx;grind
theorem bA.adS {l:Nat}{rec:Loop}{st:Az}(hs:bA {E with loops:=E.loops++[(l,rec)]} G S a w)(hst:HV S.cO E.loops.length=some st)(hr:∀q,E.mD=some q->∃(i:Nat) (r:Loop),E.loops[i]?=some (q,r)){o':Loop}:bA E G {S with cO:=S.cO.take E.loops.length} a (w.putObj l (.loop o')):=by
 have h0:(E.loops++[(l,rec)])[E.loops.length]?=some (l,rec):=by rw[dN (aB _)];simp
 obtain⟨h3,h4⟩:=hs.Ff h0 hst;refine hs.putObj (o:=.loop (st.of rec)) (o':=.loop o') h4 rfl rfl (.inl h3) (λ⟨es,k,h⟩=>by grind) (maps:=S.maps) (jD:=S.jD) (mD:=E.mD) (bM:=E.bM) (loops:=E.loops) (fixed:=E.fixed) (defers:=a.defers) (λkeep sF hsame=>?_);have hlen:S.cO.length=E.loops.length+1:=by have :=hs.ext'.kP;simpa using this
 have hin:∀(i k:Nat)(r:Loop),E.loops[i]?=some (k,r)->(E.loops++[(l,rec)])[i]?=some (k,r):=λi k r q=>by grind
 refine⟨hs.ext'.mps.zx h4 ⟨λ_ _ h=>(by grind),λ_ _ _ _ h=>(by grind)⟩ keep sF rfl rfl rfl,hs.ext'.lR,λj vs fr q1 q2=>?_,by simp_all,λj k' r' st2 q1 q2=>?_,λi j k r r' q1 q2=>hs.ext'.lS i j k r r' (hin _ _ _ q1) (hin _ _ _ q2),λi k r q1=>hs.ext'.yl i k r (hin _ _ _ q1),hr,?_,hs.ext'.Be.of keep⟩;obtain⟨q3,q4⟩:=hs.ext'.bM j vs fr q1 q2;simp_all;have hj:=(aI.1 q1).1;rw[Dl hj]at q2;obtain⟨q3,q4⟩:=hs.ext'.loops j k' r' st2 (hin _ _ _ q1) q2;refine⟨q3,sF _ _ (λe=>?_) q4⟩;subst e;exact absurd (hs.ext'.lS j E.loops.length k' r' rec (hin _ _ _ q1) h0) (Nat.ne_of_lt hj);obtain⟨ms,q1,q2,q3⟩:=hs.ext'.marks;grind
def IJ (c:Code):Prop:=∀{E:Env}{call:iR}{Y:pn},ni E.C call->fh E Y->∀{Q:Exit->an->Prop}{S:an}{a:Act}{w:World},yQ E.C call Y c Q S->nT E S a w->c.wpIn E.jv 0 E.C.P (λe a' w'=>∃S',Q e S'/\nT E S' a' w') a w
theorem QF {E:Env}{call:iR}{Y:pn}(dO:ni E.C call)(hY:fh E Y){assign body:Code}(ha:IJ assign)(hb:IJ body){a1:Act}{l:Nat}{rec:Loop}{aaf:List Nat}(hrt:rec.tmps=a1.tmps)(hra:rec.assign=assign)(hrb:rec.body=body)(YW:rec.state=.ready)(VF:rec.pending=none):fh {E with mD:=none,bM:=a1.tmps::E.bM,loops:=E.loops++[(l,rec)],fixed:=aaf} (wX Y (yQ E.C call Y assign) (yQ E.C call Y body) rec.params.toList E.loops.length E.bM.length):=by
 intro mD xs ls fixed G S a w ln k args K vals hs hk h hlen oD;have e1:xs++a1.tmps::E.bM=(xs++[a1.tmps])++E.bM:=by simp
 have e2:(E.loops++[(l,rec)])++ls=E.loops++([(l,rec)]++ls):=by simp
 unfold wX at h;split at h;have hY':=hY mD (xs++[a1.tmps]) ([(l,rec)]++ls) fixed G S a w ln k args K vals;grind;rename_i hln;obtain rfl:=aN hln;split at h;rename_i fr hp hfr;obtain⟨hargs,h⟩:=h;have hargs:=aN hargs;have hidx:((E.loops++[(l,rec)])++ls)[E.loops.length]?=some (l,rec):=by rw[cF (by simp),dN (aB _)];simp
 obtain rfl:=hs.ext'.yl E.loops.length l rec hidx k hk;obtain⟨hk1,hk2⟩:=hs.Ff hidx hp;rw[QE rec YW VF]at hk2;have alb:S.bM[xs.length]?=some fr:=by
  unfold Zt at hfr;rw[VE,hs.ext'.lR]at hfr;have :(xs++a1.tmps::E.bM).length-E.bM.length-1=xs.length:=by simp;omega
  rw[this]at hfr;exact hfr
 obtain⟨hsz,htm⟩:=hs.ext'.bM xs.length a1.tmps fr (by simp) alb;have hy:=run_yield (P:=E.C.P) (args:=vals.toArray) hk2 (by simp_all);refine⟨_,_,_,_,hy,?_⟩;have EC:vals.length=rec.params.toList.length:=by rw[hlen,hargs]
 have hts:=LK (G:=G) (w:=w) rec.params.toList vals args a1.tmps fr.tmps fr.n hlen EC hsz htm oD;have aiK:(rec.params.zip vals.toArray).foldl (λtmps x=>match x with|(t,a)=>tmps.setIfInBounds t a) rec.tmps=(rec.params.toList.zip vals).foldl (λt (p,v)=>t.setIfInBounds p v) a1.tmps:=by rw[<-Array.foldl_toList,hrt];simp
 rw[aiK,hra,hrb];have hrnd:∀q,(some k:Option Nat)=some q->∃(i:Nat) (r:Loop),((E.loops++[(k,rec)])++ls)[i]?=some (q,r):=λq hq=>by grind
 have hs1:=hs.enter (n:=fr.n) (vals:=(rec.params.toList.zip vals).foldl (λt (p,v)=>t.setIfInBounds p v) a1.tmps) hts.1 hts.2 (mD:=some k) hrnd;have hYr:fh {E with mD:=some k,bM:=a.tmps::(xs++a1.tmps::E.bM),loops:=(E.loops++[(k,rec)])++ls,fixed:=marksOf a.defers++fixed} Y:=by
  have :=hY.later (some k) (a.tmps::(xs++[a1.tmps])) ([(k,rec)]++ls) (marksOf a.defers++fixed);rw[<-e2]at this;have e3:(a.tmps::(xs++[a1.tmps]))++E.bM=a.tmps::(xs++a1.tmps::E.bM):=by simp
  rw[e3]at this;exact this
 have hA:=ha (E:={E with mD:=some k,bM:=a.tmps::(xs++a1.tmps::E.bM),loops:=(E.loops++[(k,rec)])++ls,fixed:=marksOf a.defers++fixed}) dO hYr h ⟨_,hs1⟩;refine roundIn_of_wpIn (F:=Fence.wide) trivial (wpIn_mono hA ?_);rintro e a2 w2 ⟨S2,hq,G2,hs2⟩;cases e with
 |normal=>
  simp only[uR,Vn]at hq;split at hq;rename_i hp2;obtain⟨-,hk3⟩:=hs2.Ff hidx hp2;refine⟨_,run_beginRound hk3 rfl,?_⟩;have hs3:=hs2.aiJ (st':=.busy) hidx hp2;have hB:=hb (E:={E with mD:=some k,bM:=a.tmps::(xs++a1.tmps::E.bM),loops:=(E.loops++[(k,rec)])++ls,fixed:=marksOf a.defers++fixed}) dO hYr hq ⟨_,hs3⟩;refine wpIn_mono hB ?_;obtain⟨ms,yC,-,-⟩:=hs.ext'.marks;have fin:∀{st:Az}{b:Bool}{jump:Option Code}{S4:an}{a4:Act}{w4:World},zc E.loops.length st (K (.p (.bool b))) S4->nT {E with mD:=some k,bM:=a.tmps::(xs++a1.tmps::E.bM),loops:=(E.loops++[(k,rec)])++ls,fixed:=marksOf a.defers++fixed} S4 a4 w4->jump.isNone=b->(Loop.mk (if jump.isNone then LoopState.ready else .done) jump rec.fn rec.tmps rec.params rec.assign rec.body rec.defers)=st.of rec->∃v w',(Instr.endRound k jump).run E.C.P w4=.ok v w'/\∃v_1 x G' S',Ending.returned v=.returned v_1/\K x S'/\bA {E with mD:=mD,bM:=xs++a1.tmps::E.bM,loops:=(E.loops++[(k,rec)])++ls,fixed:=fixed} G' S' a w'/\aU G' w' v_1 x:=λ{st b jump S4 a4 w4} hq4 ⟨G4,hs4⟩ hj alc=>by unfold zc at hq4;split at hq4;rename_i hp4;obtain⟨-,hk4⟩:=hs4.Ff hidx hp4;obtain⟨f,r,hf,hK⟩:=Fe hq4;have hs5:=hs4.aiJ (st':=st) hidx hp4;have hs6:=bA.leave (E:={E with mD:=mD,bM:=xs++a1.tmps::E.bM,loops:=(E.loops++[(k,rec)])++ls,fixed:=fixed}) (a:=a) (mD:=some k) (ms:=ms) hs5 hf yC hs.ext'.mD;have hend:=run_endRound (P:=E.C.P) jump hk4;refine⟨_,_,hend,.bool jump.isNone,_,G4,_,rfl,hK,?_,.p _ _ (hj▸.bool _)⟩;have :({Az.of rec .busy with state:=if jump.isNone then LoopState.ready else .done,pending:=jump}:Loop)=st.of rec:=alc;simp_all;simp_all
  rintro e a4 w4 ⟨S4,hq4,hs4⟩;cases e with
  |normal=>exact fin (jump:=none) hq4 hs4 rfl rfl
  |ret=>exact fin (jump:=some .ret) hq4 hs4 rfl rfl
  |exit id=>exact fin (jump:=some (.exit id)) hq4 hs4 rfl rfl
  |_=>exact hq4.elim
  simp_all
 |_=>exact hq.elim
 grind
end
section
variable {E:Env}{G:bl}{S:an}{a:Act}{w:World}{C:Ctx}{ops:Array Oper}
def aiN (m:Nat)(l:Array Bool):Prop:=∀j,j<m->l.getD j true=true
def aah (C:Ctx)(ops:Array Oper)(m:Nat)(T:Array Bool->an->Prop):Nat->Array Bool->an->Prop|0,l,S=>aiN m l/\T l S|f+1,l,S=>Region.ready .any ops l≠[]/\∀i,i∈Region.ready .any ops l->i<m/\∃o,ops[i]?=some o/\lY C ops o (aah C ops m T f (l.setIfInBounds i true)) S
theorem Tw {m:Nat}{T:Array Bool->an->Prop}{Q:Exit->Act->World->Prop}(hT:∀l S a w,T l S->nT E S a w->wpAnyIn E.jv 0 E.C.P .any ops Q 5 l a w):∀(f:Nat)(l:Array Bool)(S:an)(a:Act)(w:World),nT E S a w->aah E.C ops m T f l S->wpAnyIn E.jv 0 E.C.P .any ops Q (f+5) l a w:=by
 intro f;induction f with
 |zero=>intro l S a w hs h;exact hT _ _ _ _ h.2 hs
 |succ f ih=>intro l S a w hs h;rw[show f+1+5=(f+5)+1 by omega];refine⟨λh0=>absurd h0 h.1,λi hi=>?_⟩;obtain⟨-,o,ho,hq⟩:=h.2 i hi;unfold wpOpIn;simp only[ho];exact uZ hs hq λS a w hk hs'=>ih _ _ _ _ hs' hk
theorem Tx {m:Nat}{T:Array Bool->an->Prop}{i:Nat}{oi:Oper}{x:FV}(hi:ops[i]?=some oi)(him:i<m):∀(f:Nat)(listed:Array Bool)(S:an),rE ops listed->(∀j oj,ops[j]?=some oj->j≠i->listed.getD j true=false->uk ops ops.size j i=true\/(decide (j<m)=true/\oi.apart ops oj=true))->i∈Region.ready .any ops listed->kr C ops oi x S->aah C ops m T f (listed.setIfInBounds i true) (S.put oi.dst x)->aah C ops m T (f+1) listed S:=by
 intro f;induction f with
 |zero=>
  intro listed S mF hfree hr hy H;refine⟨λh=>(by rw[h]at hr;cases hr),λj hj=>?_⟩;by_cases hji:j=i;subst hji;exact⟨him,oi,hi,hy.lY H⟩;exfalso;obtain⟨IB,oj,VA,hall⟩:=mem_ready.1 hj;rcases hfree j oj VA hji IB with hre|⟨hjm,hap⟩;have h2:=mF.reach _ _ _ hre λo ho=>by rw[VA]at ho;obtain rfl:=aq ho;exact hall
  rw[Dy (mem_ready.1 hr).1]at h2;cases h2;have :=H.1 j (by simpa using hjm);rw[getD_set_ne true (eY hji)]at this;rw[IB]at this;cases this
 |succ f ih=>
  intro listed S mF hfree hr hy H;refine⟨λh=>(by rw[h]at hr;cases hr),λj hj=>?_⟩;by_cases hji:j=i;subst hji;exact⟨him,oi,hi,hy.lY H⟩;obtain⟨ald,oj,VA,h1⟩:=H.2 j (ready_mono hj hji);obtain⟨IB,oj',ale,hall⟩:=mem_ready.1 hj;rcases hfree j oj VA hji IB with hre|⟨hjm,hap⟩;have h2:=mF.reach _ _ _ hre λo ho=>by rw[ale]at ho;obtain rfl:=aq ho;exact hall
  rw[Dy (mem_ready.1 hr).1]at h2;cases h2;have h2:=LI hap hy h1;have IC:∀k ok,ops[k]?=some ok->k≠i->(listed.setIfInBounds j true).getD k true=false->uk ops ops.size k i=true\/(decide (k<m)=true/\oi.apart ops ok=true):=λk ok hk hki hun=>by refine hfree k ok hk hki ?_;by_cases hjk:j=k;subst hjk;exact IB;rw[getD_set_ne true hjk]at hun;exact hun
  obtain⟨y,hy2,h3⟩:=ja h2;refine⟨ald,oj,VA,hy2.lY (ih (listed.setIfInBounds j true) _ (mF.set hj) IC (ready_mono hr (eY hji)) h3.1 ?_)⟩;rw[Dz _ _ hji];exact h3.2
theorem aai {K:an->Prop}:∀(l:List Oper)(k:Nat)(listed:Array Bool)(S:an),rE ops listed->(∀j,j<l.length->l[j]?=ops[k+j]?)->CN ops l.length k listed=true->Ho C ops l K S->aah C ops (k+l.length) (λl' S'=>zb ops (k+l.length) l'=true/\K S') l.length listed S:=by
 intro l;induction l with
 |nil=>intro k listed S _ _ hB h;simp only[bt,CN,bn,bD,fO]at hB;exact⟨λj hj=>hB.2 j hj,hB.1,h⟩
 |cons o l ih=>
  intro k listed S mF hl hB h;have h0:ops[k]?=some o:=by simpa using(hl 0 (by simp)).symm
  simp only[aW,CN,bn]at hB;obtain⟨⟨hr,hf⟩,hB'⟩:=hB;have hr':k∈Region.ready .any ops listed:=by simpa using hr
  obtain⟨x,hy,hK⟩:=ja (Iz h);have e:k+(o::l).length=k+1+l.length:=by simp only[aW];omega
  rw[e];refine Tx h0 oO l.length listed S mF (λj oj hj hne hun=>?_) hr' hy ?_;have :=BV h0 hf j oj hj hne hun;rw[show k+(l.length+1)=k+1+l.length by omega]at this;exact this;exact ih (k+1) _ _ (mF.set hr') (λj hj=>by have :=hl (j+1) (by simpa using hj);simpa[fL,nV 1 j]using this) hB' hK
theorem wpOp_step {Q:Exit->Act->World->Prop}{i:Nat}{o:Oper}{a':Act}{w':World}{K:Act->World->Prop}(ho:ops[i]?=some o)(hg:o.guard=none)(hs:Bv E Q o a w a' w')(h:K a' w'):wpOpIn E.jv 0 E.C.P ops Q i K a w:=by unfold wpOpIn;simp only[ho];rw[ag (by simp[Region.wanted,hg])];exact hs _ h
theorem aaj {m:Nat}{K:an->Prop}{Q:Exit->Act->World->Prop}(hQ:∀S' a' w',K S'->nT E S' a' w'->Q .normal a' w')(hm:∀j,(ops.toList.drop m)[j]?=ops[m+j]?){l:Array Bool}(ht:zb ops m l=true)(h:vJ E.C (ops.toList.drop m) K S)(hs:nT E S a w):wpAnyIn E.jv 0 E.C.P .any ops Q 5 l a w:=by
 obtain⟨G,hs⟩:=hs;obtain⟨o1,o2,o3,o4,o5,a1,a2,a3,a4,a5,b3,c2,w1,w2,w3,hl,⟨g1,g2,g3,g4,g5⟩,s1,s2,s3,s4,s5,q,s6,s7,s8,s9⟩:=Iu hQ h hs;have i1:ops[m]?=some o1:=by have :=hm 0;rw[hl]at this;simpa using this.symm
 have i2:ops[m+1]?=some o2:=by have :=hm 1;rw[hl]at this;simpa using this.symm
 have i3:ops[m+2]?=some o3:=by have :=hm 2;rw[hl]at this;simpa using this.symm
 have i4:ops[m+3]?=some o4:=by have :=hm 3;rw[hl]at this;simpa using this.symm
 have i5:ops[m+4]?=some o5:=by have :=hm 4;rw[hl]at this;simpa using this.symm
 simp only[zb,bn,beq_iff_eq]at ht;obtain⟨⟨⟨⟨⟨⟨⟨⟨⟨⟨⟨⟨r0,ra⟩,rb⟩,rb2⟩,rb3⟩,rb4⟩,rc⟩,rc2⟩,rc3⟩,rd⟩,rd1⟩,rd2⟩,rd3⟩:=ht;refine wpAnyIn_all r0 (by simp) λi hi=>?_;obtain rfl:=aO.1 hi;refine wpOp_step i1 g1 s1 (wpAnyIn_all ra (by simp) λi hi=>?_);rcases aL.1 hi with rfl|hi;refine wpOp_step i2 g2 s2 (wpAnyIn_all rb (by simp) λi hi=>?_);rcases aL.1 hi with rfl|hi;refine wpOp_step i3 g3 s3 (wpAnyIn_all rb2 (by simp) λi hi=>?_);obtain rfl:=aO.1 hi;refine wpOp_step i4 g4 s4 (wpAnyIn_all rb3 (by simp) λi hi=>?_);obtain rfl:=aO.1 hi;exact wpOp_step i5 g5 s5 (wpAnyIn_done rb4 q _);obtain rfl:=aO.1 hi;refine wpOp_step i4 g4 s6 (wpAnyIn_all rc (by simp) λi hi=>?_);obtain rfl:=aO.1 hi;refine wpOp_step i3 g3 s7 (wpAnyIn_all rc2 (by simp) λi hi=>?_);obtain rfl:=aO.1 hi;exact wpOp_step i5 g5 s5 (wpAnyIn_done rc3 q _);obtain rfl:=aO.1 hi;refine wpOp_step i4 g4 s8 (wpAnyIn_all rd (by simp) λi hi=>?_);obtain rfl:=aO.1 hi;refine wpOp_step i2 g2 s9 (wpAnyIn_all rd1 (by simp) λi hi=>?_);obtain rfl:=aO.1 hi;refine wpOp_step i3 g3 s7 (wpAnyIn_all rd2 (by simp) λi hi=>?_);obtain rfl:=aO.1 hi;exact wpOp_step i5 g5 s5 (wpAnyIn_done rd3 q _)
theorem KG {call:iR}{Y:pn}(dO:ni E.C call)(hY:fh E Y){id:Nat}{ops:Array Oper}{draw:Bool}{K:an->Prop}{Q:Exit->Act->World->Prop}(hQ:∀S a w,K S->nT E S a w->Q .normal a w)(hs:nT E S a w)(h:Hp E.C call Y ops draw K S):(Code.region id ops draw).wpIn E.jv 0 E.C.P Q a w:=by
 cases draw with
 |false=>exact Iw dO hY hQ hs rfl h
 |true=>
  obtain⟨hd,h⟩:=h;simp only[CO,bn]at hd;have h5:=iD hd.1;obtain⟨m,hm⟩:∃m,m=ops.size-5:=⟨_,rfl⟩;rw[<-hm]at h hd;have hl:(ops.toList.take m).length=m:=by simp;omega
  have :=aai (C:=E.C) (ops:=ops) (K:=vJ E.C (ops.toList.drop m) K) (ops.toList.take m) 0 (Array.replicate ops.size false) S ⟨by simp,λp o hp hl=>by have :p<ops.size:=(bz.1 hp).1;simp[this]at hl⟩ (λj hj=>by rw[hl]at hj;simp[xE,hj]) (by rw[hl];exact hd.2) h;rw[hl,dF]at this;refine wpIn_region_any E.C.mixed ?_;rw[show ops.size=m+5 by omega];refine Tw (m:=m) (ops:=ops) (T:=λl' S'=>zb ops m l'=true/\vJ E.C (ops.toList.drop m) K S') (λl S a w ht hs=>aaj (m:=m) (ops:=ops) hQ (λj=>by simp[kM]) ht.1 ht.2 hs) m (Array.replicate (m+5) false) S _ _ (let⟨G,hs⟩:=hs;⟨G,hs.drew⟩) ?_;rw[show m+5=ops.size by omega];exact this
end
end Qv
