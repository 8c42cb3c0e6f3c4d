/- Part 5 of the proof: its lemmas. No condition. -/
import Derived.Test.YtiboombocnfngaaGreatDoorY4
import Derived.Deep.LoopGhost
set_option maxRecDepth 10000
set_option maxHeartbeats 80000000
set_option linter.all false
namespace Qv
open Go Go.RowKit
theorem Wc {α:Type}{o:Nat}{l:α}:∀{m:List (Nat×α)},getM m o=some l->sZ m o l=m:=by
 intro m;induction m with
 |nil=>intro h;rfl
 |cons p m ih=>obtain⟨u,i⟩:=p;intro h;simp only[getM]at h;show(match Nat.beq u o with|true=>(u,l)::m|false=>(u,i)::sZ m o l)=_;grind
theorem KO {α:Type}(o:Nat)(l l':α):∀(m:List (Nat×α)),sZ (sZ m o l) o l'=sZ m o l'
 |[]=>rfl
 |(u,i)::m=>by
  cases hb:Nat.beq u o with
  |true=>simp only[sZ,hb]
  |false=>simp only[sZ,hb];rw[KO o l l' m]
theorem Ay {α:Type}{o:Nat}{l l':α}:∀{m:List (Nat×α)},getM m o=some l->getM (sZ m o l') o=some l':=by
 intro m;induction m with
 |nil=>intro h;cases h
 |cons p m ih=>obtain⟨u,i⟩:=p;intro h;simp only[getM]at h;simp only[sZ];split at h;rename_i hb;simp only[hb,getM];rename_i hb;simp only[hb,getM];simp_all
theorem Cz {a:Act}{d:Nat}{v:Value}(h:d<a.tmps.size):(a.put (some d) v).tmps.getD d undef=v:=by simp[Act.put,Array.getD,h]
theorem Be {a:Act}{d i:Nat}{v:Value}(h:i≠d):(a.put (some d) v).tmps.getD i undef=a.tmps.getD i undef:=by simp only[Act.put,Array.getD];by_cases hi:i<a.tmps.size;simp[hi,BY,cU h];grind
theorem HN {a:Act}{d:Nat}{v:Value}:(a.put (some d) v).tmps.size=a.tmps.size:=by simp[Act.put]
theorem qv {S:ag}{d i:Nat}{x:FV}(h:i≠d):(S.put (some d) x).get i=S.get i:=by unfold ag.get ag.put;simp only[Pa h]
theorem uN {i:Nat}{ds:List Nat}(h:gv i ds=false):i∉ds:=λhm=>by rw[nV.2 hm]at h;grind
section
variable {E:Env}{G:aZ}{S:ag}{a:Act}{w:World}
theorem RW {call:iG}{Y:ov}(dm:mC E.C call)(hY:eA E Y){ops:Array Oper}{K:ag->Prop}{Q:Exit->Act->World->Prop}{rest:List Oper}(hQ:∀S' a' w',K S'->mY E S' a' w'->wpListIn E.je 0 E.C.P ops Q rest a' w'):∀(l:List Oper)(S:ag)(a:Act)(w:World),oE E.C call Y ops l K S->mY E S a w->wpListIn E.je 0 E.C.P ops Q (l++rest) a w:=by
 intro l;induction l with
 |nil=>intro S a w h hs;exact hQ _ _ _ h hs
 |cons o l ih=>intro S a w h hs;obtain⟨G,hs⟩:=hs;simp only[oE]at h;rw[cr];refine wpListIn_step λK' Bd=>?_;split at h;rename_i hg;rw[af (by simp[Region.wanted,hg])];exact tu dm hY hs h λS' a' w' hk hs'=>Bd _ _ (ih _ _ _ hk hs');rename_i j want hg;split at h;simp_all;rename_i d hd;split at h;rename_i b hb;have hy:=sg hs hd hb;split at h;rename_i Fp;rw[nT]at Fp;rw[af (by simp[Region.wanted,hg,hy,beq_iff_eq.1 Fp])];exact tu dm hY hs h λS' a' w' hk hs'=>Bd _ _ (ih _ _ _ hk hs');rename_i Fp;rw[nT]at Fp;rw[aa (by simp[Region.wanted,hg,hy];simp_all)];exact⟨λf _=>Env.gd f,Bd _ _ (ih _ _ _ h ⟨G,hs.put o.dst (jD G w)⟩)⟩;rename_i hb;have hy:=qL hs hd hb;rw[aa (by simp[Region.wanted,hg,hy])];exact⟨λf _=>Env.gd f,Bd _ _ (ih _ _ _ h ⟨G,hs.put o.dst (jD G w)⟩)⟩;simp_all
theorem RX (hs:bp E G S a w){t kT eT:TypeId}(hu:E.C.P.underlying t=some (.map kT eT)){ob b:Nat}(hb:G.mp ob=some b){kk:AV}{l:List (AV×FV)}(hl:getM S.maps ob=some l){T:TypeId}{z:Nat}{x:Option AV}(Uy:getM E.C.ex.Mh ob=some (T,z,x))(hx:x≠some kk)(hz:(E.C.P.info? eT).map (·.zero)=some (some (.slice none 0 0))){L:List gC}(hL:dZ E.C.P 40 kT=some L)(hk:ij (gM E.C.P kT) L kk=true)(hall:∀p,p∈l->ij (gM E.C.P kT) L p.1=true){old:List (List AV)}(hold:match tQ kk l with|some v=>v=.p (.sl old)|none=>old=[])(new:FV)(hkr:dh G.bh w (tv (gM E.C.P kT) kk.cells) kk):∃(w1:World) (YW:List MapEntry) (Pc:Nat) (l1:List (AV×FV)) (j:Nat) (e0:MapEntry) (ad:Option Addr) (c:Nat),(Instr.mapEntry t (.map (some b)) (tv (gM E.C.P kT) kk.cells)).run E.C.P w=.ok (.tuple #[.slice ad old.length c,.int .i64 (e0.born:Int)]) w1/\bp (E.Pe ob) G {S with maps:=sZ S.maps ob l1} a w1/\w1.heap[b]?=some (.map YW.toArray Pc)/\oQ YW Pc/\YW.length=l1.length/\YW[j]?=some e0/\e0.key=tv (gM E.C.P kT) kk.cells/\e0.val=.slice ad old.length c/\old.length<=c/\dh G.bh w1 (.slice ad old.length c) (.sl old)/\((old.length=0/\c=0)\/∃b2 off,(ad=some ⟨b2,off,none⟩/\off=0)/\G.tail (.inr (ob,e0.born))=some (b2,off+old.length*z,off+c*z,T))/\(∀(i:Nat)(e:MapEntry)(p:AV×FV),YW[i]?=some e->l1[i]?=some p->i≠j->x≠some p.1->Ee G T z ob e)/\l1.set j (kk,new)=Gd kk new l/\(∀(i:Nat)(e:MapEntry),YW[i]?=some e->i≠j->e.born≠e0.born):=by
 obtain⟨b',gm,es,h1,h2,h3,h4,h5⟩:=hs.ext'.mps.at_ ob l hl;obtain rfl:b'=b:=by simp_all
 have hka:=MC (w:=w) h4 (λi e p a b=>(h5 i e p a b).1) hall;have hent:=VY (w:=w) hu hL hk h2 hka (z:=.slice none 0 0) (λw=>HH hz);rw[Cp]at hold;rw[tY];have hs1:=hs.Pe ob;have hnone:∀T z k,getM (E.Pe ob).C.ex.Mh ob=some (T,z,k)->False:=λT z k h=>(pg h).1 rfl;cases fJ:iz kk (iF l)with
 |none=>
  rw[fJ]at hent hold;simp only[Option.bind_none]at hold;subst hold;refine⟨_,es++[({key:=tv (gM E.C.P kT) kk.cells,val:=.slice none 0 0,born:=gm}:MapEntry)],gm+1,l++[(kk,.p (.sl []))],es.length,({key:=tv (gM E.C.P kT) kk.cells,val:=.slice none 0 0,born:=gm}:MapEntry),none,0,hent,?_,World.putObj_heap_same (bq.1 h2).1,⟨λe he=>?_,?_⟩,by grind,by simp,rfl,rfl,av _,.Uj _ _,.inl ⟨rfl,rfl⟩,λi e p he hp hi hxp=>?_,?_,λi e he hi=>?_⟩;refine hs1.MK (es':=es++[({key:=tv (gM E.C.P kT) kk.cells,val:=.slice none 0 0,born:=gm}:MapEntry)]) (AU:=gm+1) (l':=l++[(kk,.p (.sl []))]) hb h2 ⟨λe he=>?_,?_⟩ (by grind) (λi e p he hp=>?_) (λT z k h=>(hnone T z k h).elim);rcases bf.1 he with he|he;have :=h3.lt e he;omega;simp_all;rw[aF,mc];refine⟨h3.nd,by simp,λu hu v hv=>?_⟩;obtain⟨e,he,rfl⟩:=aB.1 hu;have :=h3.lt e he;grind;by_cases hi:i<es.length;grind;rw[eu oO]at he;rw[eu oO,<-h4]at hp;cases hq:i-es.length with
  |zero=>rw[hq]at he hp;simp at he hp;subst he;subst hp;exact⟨hkr,.p _ _ (.Uj _ _)⟩
  |succ q=>simp_all
  rcases bf.1 he with he|he;have :=h3.lt e he;omega;simp_all;rw[aF,mc];refine⟨h3.nd,by simp,λu hu v hv=>?_⟩;obtain⟨e,he,rfl⟩:=aB.1 hu;have :=h3.lt e he;grind;have hlt:i<es.length:=by have :=(aG.1 he).1;simp at this;omega
  rw[cV hlt]at he;rw[cV oO]at hp;exact hs.ext'.mps.room ob T z x l b' gm es hl Uy hb h2 i e p he hp hxp;simp_all;have hlt:i<es.length:=by have :=(aG.1 he).1;simp at this;omega
  rw[cV hlt]at he;have :=h3.lt e (bP he);grind
 |some j=>
  rw[fJ]at hent hold;obtain⟨hj,hkj⟩:=tZ fJ;rw[nh,aj]at hj;obtain⟨e0,he0,hek,hrun⟩:=hent;simp only[rV,an hj,ek]at hold;have amT:(l[j]).1=kk:=by
   have h6:(iF l)[j]?=some kk:=by rw[an oO,hkj]
   rw[nh,aJ,an hj]at h6;exact ak h6
  obtain⟨h6,h7⟩:=h5 j e0 l[j] he0 (an hj);obtain⟨ad,n,c,g1,g2⟩:=hs.ext'.mps.room ob T z x l b' gm es hl Uy hb h2 j e0 l[j] he0 (an hj) (by simp_all);rw[hold,g1]at h7;have h8:dh G.bh w (.slice ad n c) (.sl old):=h7.plain;obtain⟨_,_,hv,hle,-⟩:=h8.kP;injection hv with q1 q2 q3;subst q2;subst q3;rw[g1]at hrun;refine⟨w,es,gm,l,j,e0,ad,c,hrun,?_,h2,h3,h4,he0,hek,g1,hle,h8,g2,λi e p he hp hi hxp=>hs.ext'.mps.room ob T z x l b' gm es hl Uy hb h2 i e p he hp hxp,rfl,λi e he hi hbn=>?_⟩;rw[Wc hl];omega;have JP:=h3.nd;have e1:(es.map (·.born))[i]?=some e0.born:=by rw[aJ,he];simp[hbn]
  have e2:(es.map (·.born))[j]?=some e0.born:=by rw[aJ,he0];rfl
  have BL:=(aG.1 e1).1;exact hi (((List.getElem?_inj BL JP).1 (e1.trans e2.symm)))
theorem pE {P:Program}{o:Oper}{ρ:Operand->Value}{x:Operand}{i:Nat}{vs:Array Value}{v:Value}(ho:o.op=.extract x i)(hx:ρ x=.tuple vs)(hv:vs[i]?=some v):(execOp ρ o).run P w=.ok (.value v) w:=by simp[execOp,ho,hx,Instr.extract,hv]
theorem RY {P:Program}{o:Oper}{ρ:Operand->Value}{t:TypeId}{m k:Operand}{v:Value}{w':World}(ho:o.op=.mapEntry t m k)(h:(Instr.mapEntry t (ρ m) (ρ k)).run P w=.ok v w'):(execOp ρ o).run P w=.ok (.value v) w':=by simp[execOp,ho,h]
theorem Fq {P:Program}{o:Oper}{ρ:Operand->Value}{x y:Operand}{tx ty:TypeId}{v:Value}{w':World}(ho:o.op=.call ⟨.builtin .append,#[x,y],#[tx,ty]⟩)(h:(Builtin.append_ #[tx,ty] o.type #[ρ x,ρ y]).run P w=.ok v w'):(execOp ρ o).run P w=.ok (.value v) w':=by simp[execOp,ho,resolve,invoke,builtin,h]
theorem RZ {P:Program}{o:Oper}{ρ:Operand->Value}{t:TypeId}{m s x:Operand}{w':World}(ho:o.op=.entryStore t m s x)(h:(Instr.entryStore t (ρ m) (ρ s) (ρ x)).run P w=.ok () w'):(execOp ρ o).run P w=.ok .skip w':=by simp[execOp,ho,h]
theorem Zc {es:List MapEntry}{j:Nat}{e0:MapEntry}(h:es[j]?=some e0)(v:Value):(es.set j {e0 with val:=v}).map (·.born)=es.map (·.born):=by apply gU;grind
theorem Wd {ob:Nat}{G':aZ}{Sx:ag}{ax:Act}{w2:World}(hsE:bp (E.Pe ob) G' Sx ax w2){b:Nat}(hb:G'.mp ob=some b){es:List MapEntry}{gm:Nat}(hw2:w2.heap[b]?=some (.map es.toArray gm))(Cv:oQ es gm){l0 l1:List (AV×FV)}{m0:List (Nat×List (AV×FV))}(hm0:getM m0 ob=some l0)(aeA:Sx.maps=sZ m0 ob l1)(hlen:es.length=l1.length){j:Nat}{e0:MapEntry}(he0:es[j]?=some e0){kk:AV}(hkr:dh G'.bh w2 e0.key kk){v':Value}{new:List (List AV)}(hnew:dh G'.bh w2 v' (.sl new)){T:TypeId}{z:Nat}{x:Option AV}(Uy:getM E.C.ex.Mh ob=some (T,z,x))(hroom:Ee G' T z ob {e0 with val:=v'})(MJ:∀(i:Nat)(e:MapEntry)(p:AV×FV),es[i]?=some e->l1[i]?=some p->i≠j->x≠some p.1->Ee G' T z ob e):bp E G' {Sx with maps:=sZ m0 ob (l1.set j (kk,.p (.sl new)))} ax (w2.putObj b (.map (es.set j {e0 with val:=v'}).toArray gm)):=by
 have OZ:getM Sx.maps ob=some l1:=by rw[aeA];exact Ay hm0
 obtain⟨b2,amU,es2,q1,q2,q3,q4,q5⟩:=hsE.ext'.mps.at_ ob l1 OZ;obtain rfl:b2=b:=by simp_all
 obtain rfl:=Mx hw2 q2;have hjl:j<es2.length:=by grind
 have hsF:=hsE.MK (es':=es2.set j {e0 with val:=v'}) (AU:=gm) (l':=l1.set j (kk,.p (.sl new))) hb hw2 ⟨λe he=>by rcases List.mem_or_eq_of_mem_set he with he|rfl;exact Cv.lt e he;exact Cv.lt e0 (bP he0),by rw[Zc he0];exact Cv.nd⟩ (by grind) (λi e p he hp=>by rw[List.getElem?_set]at he hp;by_cases hi:j=i;subst hi;rw[af rfl,af hjl]at he;rw[af rfl,af oO]at hp;obtain rfl:=ak he;obtain rfl:=ak hp;exact⟨hkr,.p _ _ hnew⟩;grind) (λT z k h=>((pg h).1 rfl).elim);rw[aeA,KO]at hsF;refine bp.afm hsF λT2 z2 k2 l2 b3 amV es3 v1 v2 v3 v4 i e p v5 v6 v7=>?_;rw[Uy]at v2;obtain⟨rfl,rfl,rfl⟩:T=T2/\z=z2/\x=k2:=by simp_all
 have DU:l2=l1.set j (kk,.p (.sl new)):=by have :=Ay (l':=l1.set j (kk,.p (.sl new))) hm0;simp only at v1;rw[this]at v1;exact(ak v1).symm
 subst DU;obtain rfl:b2=b3:=by simp_all
 have rL:(w2.putObj b2 (.map (es2.set j {e0 with val:=v'}).toArray gm)).heap[b2]?=some (.map (es2.set j {e0 with val:=v'}).toArray gm):=World.putObj_heap_same (bq.1 hw2).1;grind
theorem Pn (S:ag)(d0 d1 d2 d3:Nat)(m:List (Nat×List (AV×FV)))(m1:List (Nat×List (AV×FV))):cq {(((({S with maps:=m1}.put (some d0) .dy).put (some d1) .dy).put (some d2) .dy).put (some d3) .dy)with maps:=m} ((S.ur [d0,d1,d2,d3]).Fa m):=by
 refine⟨rfl,rfl,rfl,λo bs h=>⟨h,id⟩,⟨rfl,λi f f' h h'=>?_⟩,λi=>?_,λo ys h=>⟨ys,h,rfl,λi x y h1 h2=>?_⟩,λo l h=>⟨l,h,rfl,λi p p' h1 h2=>?_⟩,λq x h=>h⟩;have h':S.bD[i]?=some f':=h';have h:S.bD[i]?=some f:=h;rw[h]at h';obtain rfl:=ak h';exact⟨rfl,rfl,λ_=>bt.refl _⟩;show bt _ (match gv i [d0,d1,d2,d3]with|true=>.dy|false=>S.tmps i);cases hm:gv i [d0,d1,d2,d3]with
 |true=>exact bt.dy _
 |false=>have :=uN hm;simp only[aC,gy,or_false,not_or]at this;obtain⟨h0,h1,h2,h3⟩:=this;simp only[ag.put,Pa h0,Pa h1,Pa h2,Pa h3];exact bt.refl _
 rw[h1]at h2;obtain rfl:=ak h2;exact bt.refl _;rw[h1]at h2;obtain rfl:=ak h2;exact⟨rfl,bt.refl _⟩
theorem aki {α:Type}{l:List α}(h:l.length=5):∃a b c d e,l=[a,b,c,d,e]:=by match l,h with|[a,b,c,d,e],_=>simp_all
theorem We {m k y d0 d1 d2 d3 n:Nat}(h:Yt m k y d0 d1 d2 d3 n=true):(d0<n/\d1<n/\d2<n/\d3<n)/\(m≠d0/\m≠d1/\m≠d2/\m≠d3)/\(k≠d0/\k≠d1/\k≠d2/\k≠d3)/\(y≠d0/\y≠d1/\y≠d2/\y≠d3)/\(d0≠d1/\d0≠d2/\d0≠d3)/\(d1≠d2/\d1≠d3)/\d2≠d3:=by unfold Yt at h;simp only[aR,ab3,cE]at h;obtain⟨⟨⟨⟨⟨⟨⟨⟨⟨VW,Oc⟩,hd2⟩,hd3⟩,hm⟩,hk⟩,hy⟩,acy⟩,acz⟩,afr⟩:=h;have hm:=uN hm;have hk:=uN hk;have hy:=uN hy;have acy:=uN acy;have acz:=uN acz;simp only[aC,gy,or_false,not_or]at hm hk hy acy acz;exact⟨⟨VW,Oc,hd2,hd3⟩,hm,hk,hy,acy,acz,bJ afr⟩
def Az (E:Env)(Q:Exit->Act->World->Prop)(o:Oper)(a:Act)(w:World)(a':Act)(w':World):Prop:=∀X:Act->World->Prop,X a' w'->AY E o a w X Q
theorem HO {K:ag->Prop}{Q:Exit->Act->World->Prop}(hQ:∀S' a' w',K S'->mY E S' a' w'->Q .normal a' w'){l:List Oper}(h:uu E.C l K S)(hs:bp E G S a w):∃(o1 o2 o3 o4 o5:Oper) (a1 a2 a3 a4 a5 b3 c2:Act) (w1 w2 w3:World),l=[o1,o2,o3,o4,o5]/\(o1.guard=none/\o2.guard=none/\o3.guard=none/\o4.guard=none/\o5.guard=none)/\Az E Q o1 a w a1 w1/\Az E Q o2 a1 w1 a2 w1/\Az E Q o3 a2 w1 a3 w2/\Az E Q o4 a3 w2 a4 w2/\Az E Q o5 a4 w2 a5 w3/\Q .normal a5 w3/\Az E Q o4 a2 w1 b3 w1/\Az E Q o3 b3 w1 a4 w2/\Az E Q o4 a1 w1 c2 w1/\Az E Q o2 c2 w1 b3 w1:=by
 unfold uu at h;obtain⟨t,tx,ty,m,k,y,d0,d1,d2,d3,Gi,HP,Zd,hd,h⟩:=h;have hlen:l.length=5:=by rw[<-aj (f:=λo:Oper=>o.op),Gi];rfl
 obtain⟨o1,o2,o3,o4,o5,hl5⟩:=aki hlen;rw[hl5]at Gi HP Zd;obtain⟨p1,Gi⟩:=fB Gi;obtain⟨p2,Gi⟩:=fB Gi;obtain⟨p3,Gi⟩:=fB Gi;obtain⟨p4,Gi⟩:=fB Gi;obtain⟨p5,-⟩:=fB Gi;obtain⟨s1,HP⟩:=fB HP;obtain⟨s2,HP⟩:=fB HP;obtain⟨s3,HP⟩:=fB HP;obtain⟨s4,HP⟩:=fB HP;obtain⟨s5,-⟩:=fB HP;obtain⟨g1,Zd⟩:=fB Zd;obtain⟨g2,Zd⟩:=fB Zd;obtain⟨g3,Zd⟩:=fB Zd;obtain⟨g4,Zd⟩:=fB Zd;obtain⟨g5,-⟩:=fB Zd;obtain⟨⟨VW,Oc,hd2,hd3⟩,⟨m0,m1,m2,m3⟩,⟨k0,k1,k2,k3⟩,⟨y0,y1,y2,y3⟩,⟨d01,d02,d03⟩,⟨d12,d13⟩,afr⟩:=We hd;clear hd hlen Gi HP Zd;have p1:o1.op=_:=p1;have p2:o2.op=_:=p2;have p3:o3.op=_:=p3;have p4:o4.op=_:=p4;have p5:o5.op=_:=p5;have s1:o1.dst=_:=s1;have s2:o2.dst=_:=s2;have s3:o3.dst=_:=s3;have s4:o4.dst=_:=s4;have s5:o5.dst=_:=s5;split at h;rename_i kT eT _ e _ ui ht htx hty;have hu:=(E.C.ok ht).map;have JN:=(E.C.ok htx).slice;obtain⟨dd,YT,hsh⟩:=(E.C.ok hty).xS;split at h;rename_i j ki ob yc hj hki hmm;have hok:=E.C.ok hj;have hdk:∀k,dd≠.int k:=λk e=>by rw[<-hsh,e]at yc;simp[shapeOf,Shape.Fc]at yc
 split at h;rename_i kk ys l0 T z x hkk hyy hl Uy;obtain⟨hT,hz,hb0,hx,hzero,L,hL,hkf,hall,yb,old,hold,hlo,hbd,l',hl',hK⟩:=h;obtain rfl:=aK hT;obtain rfl:=aK hz;have hb0:=bJ hb0;have hagg:=(E.C.ok hki).gM;rw[<-hagg]at hkf hall;have hkr:=(aO.get hs k).eW hkk;have hkey:=sO hkr hkf;have hmr:=aO.get hs m;rw[hmm]at hmr;obtain⟨b,hvm,hb⟩:∃b,a.tmps.getD m undef=.map (some b)/\G.mp ob=some b:=by
  generalize a.tmps.getD m undef=vm at hmr;cases hmr with
  |fu _ b hb=>simp_all
 obtain⟨w1,YW,Pc,l1,jx,e0,ad,c,r1,hsB,hw1,Cv,aeB,he0,hek,KL,hle,nO,hroom,MM,AX,ahy⟩:=RX hs hu hb hl Uy hx hzero hL hkf hall hold (.p (.sl (old++ys))) (by simp_all);have hsz:a.tmps.size=S.n:=hs.size;obtain⟨vt,hvt⟩:∃vt,vt=Value.tuple #[.slice ad old.length c,.int .i64 (e0.born:Int)]:=⟨_,rfl⟩;obtain⟨v0,hv0⟩:∃v0,v0=Value.slice ad old.length c:=⟨_,rfl⟩;have hsC:=(hsB.put (some d0) (v:=vt) (x:=.dy) (.dy _)).put (some d1) (v:=v0) (x:=.dy) (.dy _);obtain⟨a1,ha1⟩:∃a1,a1=a.put (some d0) vt:=⟨_,rfl⟩;obtain⟨a2,ha2⟩:∃a2,a2=a1.put (some d1) v0:=⟨_,rfl⟩;rw[<-ha1,<-ha2]at hsC;have z1:a1.tmps.size=S.n:=by rw[ha1,HN,hsz]
 have z2:a2.tmps.size=S.n:=by rw[ha2,HN,z1]
 have f1:∀i,i≠d0->a1.tmps.getD i undef=a.tmps.getD i undef:=λi hi=>by rw[ha1];exact Be hi
 have f2:∀i,i≠d1->a2.tmps.getD i undef=a1.tmps.getD i undef:=λi hi=>by rw[ha2];exact Be hi
 have x1:a1.tmps.getD d0 undef=vt:=by rw[ha1];exact Cz oO
 have x2:a2.tmps.getD d1 undef=v0:=by rw[ha2];exact Cz oO
 have hyr:=aO.get hsC y;rw[qv y1,qv y0]at hyr;obtain⟨news,n1,n2,n3⟩:=aO.items (P:=E.C.P) (e:=j.size) hyy hyr yb;obtain⟨ad',c',w2,G',r2,hsD,aeC,afs,hkeep,hmp,MJ⟩:=Pg (ty:=o3.type) hsC (q:=(ob,e0.born)) (by
  cases hq:getM (E.Pe ob).C.ex.Mh ob with
  |none=>rfl
  |some r=>exact absurd rfl (pg hq).1) JN YT hdk hok nO hlo yb hle hroom n1 n2 n3 hbd hb0
 obtain⟨v',VZ⟩:∃v',v'=Value.slice ad' (old++ys).length c':=⟨_,rfl⟩;rw[<-hv0,<-VZ]at r2;rw[<-VZ]at aeC;have hsE:=(hsD.put (some d2) (v:=v') (x:=.dy) (.dy _)).put (some d3) (v:=.int .i64 (e0.born:Int)) (x:=.dy) (.dy _);obtain⟨a3,ha3⟩:∃a3,a3=a2.put (some d2) v':=⟨_,rfl⟩;obtain⟨a4,ha4⟩:∃a4,a4=a3.put (some d3) (.int .i64 (e0.born:Int)):=⟨_,rfl⟩;rw[<-ha3,<-ha4]at hsE;have z3:a3.tmps.size=S.n:=by rw[ha3,HN,z2]
 have f3:∀i,i≠d2->a3.tmps.getD i undef=a2.tmps.getD i undef:=λi hi=>by rw[ha3];exact Be hi
 have f4:∀i,i≠d3->a4.tmps.getD i undef=a3.tmps.getD i undef:=λi hi=>by rw[ha4];exact Be hi
 have x3:a3.tmps.getD d2 undef=v':=by rw[ha3];exact Cz oO
 have x4:a4.tmps.getD d3 undef=.int .i64 (e0.born:Int):=by rw[ha4];exact Cz oO
 have hw2:w2.heap[b]?=some (.map YW.toArray Pc):=MJ _ _ hw1 rfl;have acA:=aO.get hsE k;rw[qv k3,qv k2,qv k1,qv k0,f4 _ k3,f3 _ k2,f2 _ k1,f1 _ k0,hkey]at acA;have acA:dh G'.bh w2 e0.key kk:=by rw[hek];exact acA.eW (y:=kk) hkk
 have hG:=Wd (E:=E) hsE (b:=b) (by grind) hw2 Cv (m0:=S.maps) hl rfl aeB he0 acA aeC Uy ⟨ad',_,c',VZ,afs⟩ (λi e p he hp hi hxp=>by obtain⟨ad2,n2,c2,u1,u2⟩:=MM i e p he hp hi hxp;exact⟨ad2,n2,c2,u1,u2.imp id λ⟨b2,off,u3,u4⟩=>⟨b2,off,u3,hkeep _ _ (λe1=>ahy i e he hi (gY e1).2) u4⟩⟩);have ahA:=RZ (P:=E.C.P) (w:=w2) (ρ:=a4.eval) p5 (w':=w2.putObj b (.map (YW.set jx {e0 with val:=v'}).toArray Pc)) (by rw[jY,jY,jY,f4 _ m3,f3 _ m2,f2 _ m1,f1 _ m0,hvm,x4,f4 _ afr,x3];exact run_store hw2 Cv.nd he0 v');have hne:∀{p q:Nat},p≠q->∀d,some p=some d->some q≠some d:=λh d e e2=>h (ak (e.trans e2.symm));have eb:(a2.put (some d3) (.int .i64 (e0.born:Int))).put (some d2) v'=a4:=by rw[ha4,ha3];exact Act.put_comm _ _ _ (by simp;omega)
 have ec:(a1.put (some d3) (.int .i64 (e0.born:Int))).put (some d1) v0=a2.put (some d3) (.int .i64 (e0.born:Int)):=by rw[ha2];exact Act.put_comm _ _ _ (by simp;omega)
 refine⟨o1,o2,o3,o4,o5,a1,a2,a3,a4,a4.put o5.dst undef,a2.put (some d3) (.int .i64 (e0.born:Int)),a1.put (some d3) (.int .i64 (e0.born:Int)),w1,w2,w2.putObj b (.map (YW.set jx {e0 with val:=v'}).toArray Pc),hl5,⟨g1,g2,g3,g4,g5⟩,λX hX=>?_,λX hX=>?_,λX hX=>?_,λX hX=>?_,λX hX=>?_,?_,λX hX=>?_,λX hX=>?_,λX hX=>?_,λX hX=>?_⟩;exact wp_value (v:=vt) (w':=w1) (RY p1 (by rw[jY,jY,hvm,hkey,r1,hvt])) (by rw[s1,<-ha1];exact hX);exact wp_value (v:=v0) (w':=w1) (pE (vs:=#[v0,.int .i64 (e0.born:Int)]) p2 (by rw[jY,x1,hvt,hv0]) rfl) (by rw[s2,<-ha2];exact hX);exact wp_value (v:=v') (w':=w2) (Fq p3 (by rw[jY,jY,x2];exact r2)) (by rw[s3,<-ha3];exact hX);exact wp_value (v:=.int .i64 (e0.born:Int)) (w':=w2) (pE (vs:=#[v0,.int .i64 (e0.born:Int)]) p4 (by rw[jY,f3 _ d02,f2 _ d01,x1,hvt,hv0]) rfl) (by rw[s4,<-ha4];exact hX);refine⟨λf _=>Env.gd f,?_⟩;rw[Oper.semAt_eq _ _ _ (λc=>by grind),ahA];exact hX;rw[s5];refine hQ _ _ _ hK ?_;rw[<-hl',<-AX];exact mY.weaken ⟨_,hG⟩ (Pn S d0 d1 d2 d3 _ _);exact wp_value (v:=.int .i64 (e0.born:Int)) (w':=w1) (pE (vs:=#[v0,.int .i64 (e0.born:Int)]) p4 (by rw[jY,f2 _ d01,x1,hvt,hv0]) rfl) (by rw[s4];exact hX);exact wp_value (v:=v') (w':=w2) (Fq p3 (by rw[jY,jY,Be d13,Be y3,x2];exact r2)) (by rw[s3,eb];exact hX);exact wp_value (v:=.int .i64 (e0.born:Int)) (w':=w1) (pE (vs:=#[v0,.int .i64 (e0.born:Int)]) p4 (by rw[jY,x1,hvt,hv0]) rfl) (by rw[s4];exact hX);exact wp_value (v:=v0) (w':=w1) (pE (vs:=#[v0,.int .i64 (e0.born:Int)]) p2 (by rw[jY,Be d03,x1,hvt,hv0]) rfl) (by rw[s2,ec];exact hX);simp_all;simp_all;simp_all
theorem Sa {ops:Array Oper}{K:ag->Prop}{Q:Exit->Act->World->Prop}(hQ:∀S' a' w',K S'->mY E S' a' w'->Q .normal a' w'){l:List Oper}(h:uu E.C l K S)(hs:bp E G S a w):wpListIn E.je 0 E.C.P ops Q l a w:=by obtain⟨o1,o2,o3,o4,o5,a1,a2,a3,a4,a5,b3,c2,w1,w2,w3,rfl,⟨g1,g2,g3,g4,g5⟩,s1,s2,s3,s4,s5,q,-⟩:=HO hQ h hs;exact wpListIn_plain g1 λK1 hK1=>s1 _ (hK1 _ _ (wpListIn_plain g2 λK2 hK2=>s2 _ (hK2 _ _ (wpListIn_plain g3 λK3 hK3=>s3 _ (hK3 _ _ (wpListIn_plain g4 λK4 hK4=>s4 _ (hK4 _ _ (wpListIn_plain g5 λK5 hK5=>s5 _ (hK5 _ _ q)))))))))
theorem HQ {call:iG}{Y:ov}(dm:mC E.C call)(hY:eA E Y){id:Nat}{ops:Array Oper}{draw:Bool}{K:ag->Prop}{Q:Exit->Act->World->Prop}(hQ:∀S a w,K S->mY E S a w->Q .normal a w)(hs:mY E S a w)(hd:draw=false)(h:Gx E.C call Y ops draw K S):(Code.region id ops draw).wpIn E.je 0 E.C.P Q a w:=by
 unfold Gx at h;cases draw with
 |true=>cases hd
 |false=>refine wpIn_region_list ?_;rw[<-dU (ops.toList.length-5) ops.toList];exact RW dm hY (λS' a' w' hk ⟨G',hs'⟩=>Sa hQ hk hs') _ _ _ _ h hs
end
section
variable {E:Env}{G:aZ}{S:ag}{a:Act}{w:World}{o:Oper}{ops:Array Oper}{C:Ctx}{call:iG}{Y:ov}
theorem Eo {fs:List (Nat×TypeId)}{jh:List (TypeId×jE)}{S S':ag}:∀(parts:List (Nat×Operand))(cells:List FV),(∀p,p∈parts->S'.val p.2=S.val p.2)->mK fs jh S' parts cells=mK fs jh S parts cells:=by
 intro parts;induction parts with
 |nil=>intro cells _;rfl
 |cons p parts ih=>obtain⟨i,x⟩:=p;intro cells h;have hx:=h (i,x) kq;simp only at hx;simp only[mK,hx];split;rfl;split;rfl;split;split;rfl;exact ih _ λp hp=>h p (cg _ hp);rfl
theorem uO {size:Nat}{S S':ag}:∀(parts:List (Nat×Operand))(cells:List FV),(∀p,p∈parts->S'.val p.2=S.val p.2)->fR size S' parts cells=fR size S parts cells:=by
 intro parts;induction parts with
 |nil=>intro cells _;rfl
 |cons p parts ih=>obtain⟨i,x⟩:=p;intro cells h;have hx:=h (i,x) kq;simp only at hx;simp only[fR,hx];split;split;rfl;exact ih _ λp hp=>h p (cg _ hp);rfl
theorem Fs {S S':ag}{t:TypeId}{parts:Array (Nat×Operand)}{K:FV->Prop}(h:∀p,p∈parts.toList->S'.val p.2=S.val p.2):ej C S' (.build t parts) K=ej C S (.build t parts) K:=by simp only[ej,Gt];split;split;rfl;rw[Eo _ _ h];split;rfl;rw[uO _ _ h];rfl
theorem uP {S S':ag}{t:TypeId}{len:Nat}{parts:Array (Nat×Operand)}{K:FV->Prop}(h:∀p,p∈parts.toList->S'.val p.2=S.val p.2):ej C S' (.buildSlice t len parts) K=ej C S (.buildSlice t len parts) K:=by simp only[ej,lW];split;split;rfl;split;rfl;rw[uO _ _ h];rfl
theorem Ft {S S':ag}{op:Op}{K:FV->Prop}(hv:∀x,x∈op.operands->S'.val x=S.val x)(ho:S'.aD=S.aD)(hm:∀t x i ok,op=.lookup t x i ok->S'.maps=S.maps)(hit:∀it,op=.entry it->S'.jg=S.jg):ej C S' op K=ej C S op K:=by
 cases op<;>try rfl
 case lookup t x i ok=>simp only[ej];rw[hv x (by simp[Op.operands]),hv i (by simp[Op.operands]),hm _ _ _ _ rfl]
 case move x=>simp only[ej];rw[hv x (by simp[Op.operands])]
 case assign x=>simp only[ej];rw[hv x (by simp[Op.operands])]
 case pick c x y=>simp only[ej];rw[hv c (by simp[Op.operands]),hv x (by simp[Op.operands]),hv y (by simp[Op.operands])]
 case binOp op t x y yt=>simp only[ej];rw[hv x (by simp[Op.operands]),hv y (by simp[Op.operands])]
 case unOp op t x=>simp only[ej];rw[hv x (by simp[Op.operands])]
 case convert s d x=>simp only[ej];rw[hv x (by simp[Op.operands])]
 case makeInterface t x=>simp only[ej];rw[hv x (by simp[Op.operands])]
 case makeFunc fn first captured=>simp only[ej];have h1:first.toList.map S'.val=first.toList.map S.val:=dF λx hx=>hv x (by simp[Op.operands];exact .inl (by simpa using hx));have h2:captured.toList.map S'.val=captured.toList.map S.val:=dF λx hx=>hv x (by simp[Op.operands];exact .inr (by simpa using hx));rw[h1,h2]
 case build t parts=>exact Fs λp hp=>hv p.2 (by simp[Op.operands];exact⟨p.1,by simpa using hp⟩)
 case buildSlice t len parts=>exact uP λp hp=>hv p.2 (by simp[Op.operands];exact⟨p.1,by simpa using hp⟩)
 case load t x=>simp only[ej];rw[hv x (by simp[Op.operands]),ho]
 case nilCheck x=>simp only[ej];rw[hv x (by simp[Op.operands])]
 case fieldAddr s x f=>simp only[ej];rw[hv x (by simp[Op.operands])]
 case field s x f=>simp only[ej];rw[hv x (by simp[Op.operands])]
 case indexAddr t x i=>simp only[ej];rw[hv x (by simp[Op.operands]),hv i (by simp[Op.operands]),ho]
 case index t x i=>simp only[ej];rw[hv x (by simp[Op.operands]),hv i (by simp[Op.operands])]
 case slice t x lo hi mx=>
  cases mx with
  |some m=>rfl
  |none=>
   simp only[ej];have h1:lo.map S'.val=lo.map S.val:=by
    cases lo with
    |none=>rfl
    |some y=>simp only[ek];rw[hv y (by simp[Op.operands])]
   have h2:hi.map S'.val=hi.map S.val:=by
    cases hi with
    |none=>rfl
    |some y=>simp only[ek];rw[hv y (by simp[Op.operands])]
   rw[hv x (by simp[Op.operands]),h1,h2]
 case extract x i=>simp only[ej];rw[hv x (by simp[Op.operands])]
 case call c=>
  obtain⟨callee,args,types⟩:=c;have h1:args.toList.map S'.val=args.toList.map S.val:=dF λx hx=>hv x (by cases callee<;>simp[Op.operands,Call.operands]<;>first|exact .inr (by simpa using hx)|(simpa using hx));cases callee with
  |value f=>simp only[ej];rw[h1,hv f (by simp[Op.operands,Call.operands])]
  |builtin b=>simp only[ej];rw[h1,ho]
  |invoke r m=>rfl
theorem ag.HR {S:ag}{dst:Option Nat}{v:FV}{t:Nat}(h:∀d,dst=some d->t≠d):(S.put dst v).get t=S.get t:=by
 cases dst with
 |none=>rfl
 |some d=>
  have hne:=h d rfl;have :Nat.beq t d=false:=by cases hb:Nat.beq t d;rfl;exact absurd (aK hb) hne
  simp only[ag.get,ag.put,this]
theorem ag.wh {S:ag}{dst:Option Nat}{v:FV}{x:Operand}(h:∀d,dst=some d->x≠.tmp d):(S.put dst v).val x=S.val x:=by
 cases x with
 |tmp t=>exact ag.HR λd hd e=>h d hd (by rw[e])
 |_=>rfl
theorem ag.HS {S:ag}{dst:Option Nat}{v:FV}:(S.put dst v).aD=S.aD:=by cases dst<;>rfl
theorem ag.put_comm {S:ag}{x y:Option Nat}{u v:FV}(h:∀d,x=some d->y≠some d):(S.put x u).put y v=(S.put y v).put x u:=by
 cases x with
 |none=>rfl
 |some d=>
  cases y with
  |none=>rfl
  |some e=>
   have hne:d≠e:=λhe=>h d rfl (he▸rfl);simp only[ag.put];congr 1;funext i;by_cases h1:i=d;have h2:Nat.beq i e=false:=by cases hb:Nat.beq i e;rfl;exact absurd ((aK hb).symm.trans h1).symm hne
   rw[h2];have h2:Nat.beq i d=false:=by cases hb:Nat.beq i d;rfl;exact absurd (aK hb) h1
   rw[h2]
theorem si {S:ag}{dst:Option Nat}{v:FV}{o:Oper}{K:FV->Prop}(h:∀d,dst=some d->d∉o.looksAt ops):ej C (S.put dst v) o.op K=ej C S o.op K:=Ft (λx hx=>ag.wh λd hd hxd=>h d hd (by subst hxd;exact jl _ (wj.2 ⟨.tmp d,by simpa using hx,rfl⟩))) ag.HS (λ_ _ _ _ _=>by cases dst<;>rfl) (λ_ _=>by cases dst<;>rfl)
def iX (ops:Array Oper)(S:ag)(o:Oper):Option Bool:=match o.guard with|none=>some true|some (j,want)=>match(ops[j]?).bind (·.dst)with|none=>none|some d=>match S.get d with|.p (.bool b)=>some (b==want)|.p (.eS [])=>some false|_=>none
theorem qV {dst:Option Nat}{v:FV}(h:∀d,dst=some d->d∉o.looksAt ops):iX ops (S.put dst v) o=iX ops S o:=by unfold iX;split;rfl;rename_i j want hg;split;rfl;rename_i d hd;have :(S.put dst v).get d=S.get d:=ag.HR λe he hde=>h e he (by subst hde;simp[Oper.looksAt,hg,hd]);rw[this]
theorem sj (hs:bp E G S a w){b:Bool}(h:iX ops S o=some b):Region.wanted o (yielded ops a.tmps)=b:=by unfold iX at h;unfold Region.wanted;split at h;rename_i hg;rw[hg];exact ak h;rename_i j want hg;rw[hg];split at h;cases h;rename_i d hd;split at h;rename_i c hc;simp only[sg hs hd hc];have :=ak h;rw[<-this];cases c<;>cases want<;>rfl;rename_i hc;simp only[qL hs hd hc];exact ak h;cases h
def Ep:FV:=.p (.eS [])
def lC (C:Ctx)(ops:Array Oper)(o:Oper)(K:ag->Prop)(S:ag):Prop:=match iX ops S o with|some true=>∃v,ej C S o.op (λu=>u=v)/\K (S.put o.dst v)|some false=>K (S.put o.dst Ep)|none=>False
def Fu (C:Ctx)(call:iG)(Y:ov)(ops:Array Oper)(o:Oper)(K:ag->Prop)(S:ag):Prop:=match iX ops S o with|some true=>BQ C call Y o K S|some false=>K (S.put o.dst Ep)|none=>False
theorem HT {rest:List Oper}{K:ag->Prop}(h:Gw C ops (o::rest) K S):lC C ops o (Gw C ops rest K) S:=by
 simp only[Gw]at h;unfold lC iX;split at h;rename_i hg;rw[hg];exact h;rename_i j want hg;rw[hg];split at h;exact h.elim;rename_i d hd;simp only[hd];split at h;rename_i b hb;rw[nT]at h;simp only[hb];cases Fp:(b==want)with
 |true=>rw[Fp]at h;exact h
 |false=>rw[Fp]at h;exact h
 rename_i hb;simp only[hb];exact h;exact h.elim
theorem HU {rest:List Oper}{K:ag->Prop}(h:oE C call Y ops (o::rest) K S):Fu C call Y ops o (oE C call Y ops rest K) S:=by
 simp only[oE]at h;unfold Fu iX;split at h;rename_i hg;rw[hg];exact h;rename_i j want hg;rw[hg];split at h;exact h.elim;rename_i d hd;simp only[hd];split at h;rename_i b hb;rw[nT]at h;simp only[hb];cases Fp:(b==want)with
 |true=>rw[Fp]at h;exact h
 |false=>rw[Fp]at h;exact h
 rename_i hb;simp only[hb];exact h;exact h.elim
def jM (C:Ctx)(ops:Array Oper)(o:Oper)(x:FV)(S:ag):Prop:=(iX ops S o=some true/\ej C S o.op λu=>u=x)\/(iX ops S o=some false/\x=Ep)
theorem iO {K:ag->Prop}(h:lC C ops o K S):∃x,jM C ops o x S/\K (S.put o.dst x):=by unfold lC at h;split at h;rename_i hw;obtain⟨v,h1,h2⟩:=h;exact⟨v,.inl ⟨hw,h1⟩,h2⟩;rename_i hw;exact⟨Ep,.inr ⟨hw,rfl⟩,h⟩;exact h.elim
theorem jM.lC {x:FV}(hy:jM C ops o x S){K:ag->Prop}(h:K (S.put o.dst x)):lC C ops o K S:=by unfold Qv.lC;rcases hy with⟨hw,hv⟩|⟨hw,rfl⟩;rw[hw];exact⟨x,hv,h⟩;rw[hw];exact h
theorem jM.put {x:FV}(hy:jM C ops o x S){dst:Option Nat}{v:FV}(h:∀d,dst=some d->d∉o.looksAt ops):jM C ops o x (S.put dst v):=by unfold jM at*;rw[qV h,si h];exact hy
theorem jM.UB {x:FV}{dst:Option Nat}{v:FV}(hy:jM C ops o x (S.put dst v))(h:∀d,dst=some d->d∉o.looksAt ops):jM C ops o x S:=by unfold jM at*;rw[qV h,si h]at hy;exact hy
theorem KP {oi oj:Oper}{x:FV}(hap:oi.apart ops oj=true){K:ag->Prop}(hy:jM C ops oi x S)(h:lC C ops oj K (S.put oi.dst x)):lC C ops oj (λS'=>jM C ops oi x S'/\K (S'.put oi.dst x)) S:=by obtain⟨h1,h2,h3⟩:=Oper.apart_spec hap;obtain⟨u,hu,hK⟩:=iO h;refine(hu.UB h1).lC ⟨hy.put h3,?_⟩;rw[<-ag.put_comm h2];exact hK
def KQ (C:Ctx)(call:iG)(Y:ov)(ops:Array Oper)(q:Nat->Bool)(i:Nat)(K:ag->Prop)(S:ag):Prop:=match ops[i]?with|none=>K S|some o=>match q i with|true=>lC C ops o K S|false=>∃K':ag->Prop,Fu C call Y ops o K' S/\∀S',K' S'->K S'
def Wf (C:Ctx)(call:iG)(Y:ov)(ops:Array Oper)(q:Nat->Bool)(K:ag->Prop):Nat->Array Bool->ag->Prop|0,listed,S=>Region.ready .any ops listed=[]/\K S|fuel+1,listed,S=>(Region.ready .any ops listed=[]->K S)/\∀i∈Region.ready .any ops listed,KQ C call Y ops q i (Wf C call Y ops q K fuel (listed.setIfInBounds i true)) S
theorem ua (hs:mY E S a w){K:ag->Prop}{K':Act->World->Prop}{Q:Exit->Act->World->Prop}(h:lC E.C ops o K S)(hK:∀S a w,K S->mY E S a w->K' a w):if Region.wanted o (yielded ops a.tmps)then AY E o a w K' Q else(∀f,o.about E.C.P w a.eval=some f->E.je.fn f)/\K' (a.put o.dst undef) w:=by obtain⟨G,hs⟩:=hs;unfold lC at h;split at h;rename_i hw;rw[af (sj hs hw)];obtain⟨v,h1,h2⟩:=h;exact En (K:=λ_=>True) hs h1 λa' w' hs'=>hK _ _ _ h2 hs';rename_i hw;rw[aa (by rw[sj hs hw];simp)];exact⟨λf _=>Env.gd f,hK _ _ _ h ⟨G,hs.put o.dst (jD G w)⟩⟩;exact h.elim
theorem yj (dm:mC E.C call)(hY:eA E Y)(hs:mY E S a w){K:ag->Prop}{K':Act->World->Prop}{Q:Exit->Act->World->Prop}(h:Fu E.C call Y ops o K S)(hK:∀S a w,K S->mY E S a w->K' a w):if Region.wanted o (yielded ops a.tmps)then AY E o a w K' Q else(∀f,o.about E.C.P w a.eval=some f->E.je.fn f)/\K' (a.put o.dst undef) w:=by obtain⟨G,hs⟩:=hs;unfold Fu at h;split at h;rename_i hw;rw[af (sj hs hw)];exact tu dm hY hs h λS' a' w' hk hs'=>hK _ _ _ hk hs';rename_i hw;rw[aa (by rw[sj hs hw];simp)];exact⟨λf _=>Env.gd f,hK _ _ _ h ⟨G,hs.put o.dst (jD G w)⟩⟩;exact h.elim
theorem Sb (dm:mC E.C call)(hY:eA E Y){q:Nat->Bool}{K:ag->Prop}{Q:Exit->Act->World->Prop}(hQ:∀S a w,K S->mY E S a w->Q .normal a w):∀(fuel:Nat)(listed:Array Bool)(S:ag)(a:Act)(w:World),mY E S a w->Wf E.C call Y ops q K fuel listed S->wpAnyIn E.je 0 E.C.P .any ops Q fuel listed a w:=by
 intro fuel;induction fuel with
 |zero=>intro listed S a w hs h;exact⟨h.1,hQ _ _ _ h.2 hs⟩
 |succ fuel ih=>intro listed S a w hs h;refine⟨λh0=>hQ _ _ _ (h.1 h0) hs,λi hi=>?_⟩;have h2:=h.2 i hi;unfold KQ at h2;unfold wpOpIn;split at h2;rename_i ho;simp only[ho];exact ih _ _ _ _ hs h2;rename_i o ho;simp only[ho];split at h2;exact ua hs h2 λS a w hk hs'=>ih _ _ _ _ hs' hk;obtain⟨K',h3,h4⟩:=h2;exact yj dm hY hs h3 λS a w hk hs'=>ih _ _ _ _ hs' (h4 _ hk)
def qw (ops:Array Oper)(listed:Array Bool):Prop:=listed.size=ops.size/\∀p o,ops[p]?=some o->listed.getD p false=true->∀e∈o.after,Region.binds .any e=true->listed.getD e.on false=true
theorem qw.set {listed:Array Bool}{i:Nat}(h:qw ops listed)(hi:i∈Region.ready .any ops listed):qw ops (listed.setIfInBounds i true):=by obtain⟨h1,h2⟩:=h;obtain⟨h0,o,ho,hall⟩:=mem_ready.1 hi;refine⟨by simpa using h1,λp op hp hl e he hb=>?_⟩;by_cases hpi:i=p;subst hpi;rw[ho]at hp;obtain rfl:=ak hp;exact getD_set_true (hall e he hb);rw[getD_set_ne false hpi]at hl;exact getD_set_true (h2 p op hp hl e he hb)
theorem qw.reach {listed:Array Bool}(h:qw ops listed):∀(fuel j i:Nat),td ops fuel j i=true->(∀o,ops[j]?=some o->∀e∈o.after,Region.binds .any e=true->listed.getD e.on false=true)->listed.getD i false=true:=by
 intro fuel;induction fuel with
 |zero=>intro j i hr;cases hr
 |succ fuel ih=>intro j i hr hall;simp only[td]at hr;split at hr;cases hr;rename_i o ho;obtain⟨e,he,hb⟩:=fC.1 hr;simp only[aR,kr,beq_iff_eq]at hb;have hl:=hall o ho e (by simpa using he) hb.1;rcases hb.2 with hi|hr';exact hi▸hl;exact ih e.on i hr' λo' ho'=>h.2 e.on o' ho' hl
theorem CA {listed:Array Bool}{i:Nat}(h:listed.getD i true=false):listed.getD i false=false:=by rcases Nat.lt_or_ge i listed.size with h'|h';simp[h']at h⊢;exact h;simp[Array.getElem?_eq_none h']at h
theorem Sc {q:Nat->Bool}{K:ag->Prop}{i:Nat}{oi:Oper}{x:FV}(hi:ops[i]?=some oi)(him:q i=true):∀(fuel:Nat)(listed:Array Bool)(S:ag),qw ops listed->(∀j oj,ops[j]?=some oj->j≠i->listed.getD j true=false->td ops ops.size j i=true\/(q j=true/\oi.apart ops oj=true))->i∈Region.ready .any ops listed->jM C ops oi x S->Wf C call Y ops q K fuel (listed.setIfInBounds i true) (S.put oi.dst x)->Wf C call Y ops q K (fuel+1) listed S:=by
 have self:∀{K':ag->Prop}{S:ag},jM C ops oi x S->K' (S.put oi.dst x)->KQ C call Y ops q i K' S:=λhy h=>by unfold KQ;simp only[hi,him];exact hy.lC h
 intro fuel;induction fuel with
 |zero=>intro listed S _ _ hr hy H;refine⟨λh=>(by rw[h]at hr;cases hr),λj hj=>?_⟩;by_cases hji:j=i;subst hji;exact self hy H;have :=ready_mono hj hji;rw[H.1]at this;cases this
 |succ fuel ih=>
  intro listed S mG hfree hr hy H;refine⟨λh=>(by rw[h]at hr;cases hr),λj hj=>?_⟩;by_cases hji:j=i;subst hji;exact self hy H;have h1:=H.2 j (ready_mono hj hji);obtain⟨MO,oj,Wg,hall⟩:=mem_ready.1 hj;rcases hfree j oj Wg hji MO with hre|⟨hjm,hap⟩;have h2:=mG.reach _ _ _ hre λo ho=>by rw[Wg]at ho;obtain rfl:=ak ho;exact hall
  rw[CA (mem_ready.1 hr).1]at h2;cases h2;unfold KQ at h1⊢;simp only[Wg,hjm]at h1⊢;have h2:=KP hap hy h1;have HV:∀k ok,ops[k]?=some ok->k≠i->(listed.setIfInBounds j true).getD k true=false->td ops ops.size k i=true\/(q k=true/\oi.apart ops ok=true):=λk ok hk hki hun=>by refine hfree k ok hk hki ?_;by_cases hjk:j=k;subst hjk;exact MO;rw[getD_set_ne true hjk]at hun;exact hun
  obtain⟨y,hy2,h3⟩:=iO h2;refine hy2.lC (ih (listed.setIfInBounds j true) _ (mG.set hj) HV (ready_mono hr (cU hji)) h3.1 ?_);rw[CB _ _ hji];exact h3.2
theorem Bf {q:Nat->Bool}{listed:Array Bool}{i:Nat}{oi:Oper}(hi:ops[i]?=some oi)(h:On ops q listed i=true)(j:Nat)(oj:Oper)(hj:ops[j]?=some oj)(hne:j≠i)(hun:listed.getD j true=false):td ops ops.size j i=true\/(q j=true/\oi.apart ops oj=true):=by simp only[On,hi,br,fA]at h;have h1:=h j (bq.1 hj).1;simp only[hj,kr,beq_iff_eq,hne,false_or,hun,rP,aR]at h1;exact h1
theorem Wh {m:Nat}{K:ag->Prop}:∀(l:List Oper)(k:Nat)(listed:Array Bool)(S:ag),m<=k->(∀j,l[j]?=ops[k+j]?)->tf ops m l.length k listed=true->oE C call Y ops l K S->Wf C call Y ops (λi=>decide (i<m)) K l.length listed S:=by
 intro l;induction l with
 |nil=>intro k listed S _ _ hB h;exact⟨by simpa[tf]using hB,h⟩
 |cons o l ih=>
  intro k listed S hk hl hB h;have h0:ops[k]?=some o:=by simpa using(hl 0).symm
  have hkm:decide (k<m)=false:=by simp;omega
  simp only[aS,tf,hkm,aR,beq_iff_eq]at hB;obtain⟨hr,hB'⟩:=hB;refine⟨λe=>(by rw[hr]at e;cases e),λi hi=>?_⟩;rw[hr]at hi;obtain rfl:i=k:=by simpa using hi
  unfold KQ;simp only[h0,hkm];exact⟨_,HU h,λS' h'=>ih (i+1) _ S' oO (λj=>by have :=hl (j+1);simpa[fK,nc 1 j]using this) hB' h'⟩
theorem Ze {m:Nat}{K:ag->Prop}:∀(l l':List Oper)(k:Nat)(listed:Array Bool)(S:ag),qw ops listed->k+l.length=m->(∀j,(l++l')[j]?=ops[k+j]?)->tf ops m (l++l').length k listed=true->Gw C ops l (oE C call Y ops l' K) S->Wf C call Y ops (λi=>decide (i<m)) K (l++l').length listed S:=by
 intro l;induction l with
 |nil=>intro l' k listed S _ hkm hl hB h;exact Wh l' k listed S (by simp at hkm;omega) (by simpa using hl) (by simpa using hB) h
 |cons o l ih=>
  intro l' k listed S mG hkm hl hB h;have h0:ops[k]?=some o:=by simpa using(hl 0).symm
  have hlt:k<m:=by simp at hkm;omega
  have hk':decide (k<m)=true:=by simp[hlt]
  simp only[cr,aS,tf,hk',aR]at hB;obtain⟨⟨hr,hf⟩,hB'⟩:=hB;have hr':k∈Region.ready .any ops listed:=by simpa using hr
  obtain⟨x,hy,hK⟩:=iO (HT h);simp only[cr,aS];refine Sc h0 hk' (l++l').length listed S mG (λj oj hj hne hun=>Bf h0 hf j oj hj hne hun) hr' hy ?_;exact ih l' (k+1) _ _ (mG.set hr') (by simp at hkm;omega) (λj=>by have :=hl (j+1);simpa[fK,nc 1 j]using this) hB' hK
theorem HW (dm:mC E.C call)(hY:eA E Y){id m:Nat}{K:ag->Prop}{Q:Exit->Act->World->Prop}(hQ:∀S a w,K S->mY E S a w->Q .normal a w)(hB:AT ops m=true)(hs:mY E S a w)(h:Gw E.C ops (ops.toList.take m) (oE E.C call Y ops (ops.toList.drop m) K) S)(hm:m<=ops.size):(Code.region id ops true).wpIn E.je 0 E.C.P Q a w:=by
 simp only[AT,aR]at hB;refine wpIn_region_any E.C.mixed (Sb dm hY (q:=λi=>decide (i<m)) hQ _ _ _ _ _ (let⟨G,hs⟩:=hs;⟨G,hs.drew⟩) ?_);have hlen:(ops.toList.take m++ops.toList.drop m).length=ops.size:=by simp
 have :=Ze (C:=E.C) (call:=call) (Y:=Y) (ops:=ops) (m:=m) (K:=K) (ops.toList.take m) (ops.toList.drop m) 0 (Array.replicate ops.size false) S ⟨by simp,λp o hp hl=>by have :p<ops.size:=(bq.1 hp).1;simp[this]at hl⟩ (by simp;omega) (λj=>by simp) (by rw[hlen];exact hB.2) h;rw[hlen]at this;exact this
theorem kz {pr:List Nat}{o k:Nat}(h:gv o pr=true)(hk:gv k pr=false):Nat.beq o k=false:=by cases hb:Nat.beq o k;rfl;rw[aK hb]at h;rw[h]at hk;cases hk
mutual theorem FV.nu {pr:List Nat}{k:Nat}(hk:gv k pr=false):∀{x:FV},x.safe pr=true->x.kill k=x
 |.p _,_=>rfl
 |.agg xs,h=>by simp only[FV.safe]at h;simp only[FV.kill,FV.tw hk h]
 |.eS xs,h=>by simp only[FV.safe]at h;simp only[FV.kill,FV.tw hk h]
 |.ptr o off,h=>by simp only[FV.safe]at h;simp only[FV.kill,kz h hk]
 |.gi t T e xs,h=>by simp only[FV.safe]at h;simp only[FV.kill,kz h hk]
 |.full _,_=>rfl
 |.fn f a b,h=>by simp only[FV.safe]at h;split at h;rename_i h1;simp only[FV.kill,FV.tw hk h1,FV.tw hk h];cases h
 |.lM l,h=>by simp only[FV.safe]at h;simp only[FV.kill,kz h hk]
 |.fT o T e,h=>by simp only[FV.safe]at h;simp only[FV.kill,kz h hk]
 |.sY o x T e,h=>by simp only[FV.safe]at h;simp only[FV.kill,kz h hk]
 |.gB o b off,h=>by simp only[FV.safe]at h;simp only[FV.kill,kz h hk]
 |.fu o,h=>by simp only[FV.safe]at h;simp only[FV.kill,kz h hk]
 |.zo o,h=>by simp only[FV.safe]at h;simp only[FV.kill,kz h hk]
 |.dy,_=>rfl theorem FV.tw {pr:List Nat}{k:Nat}(hk:gv k pr=false):∀{xs:List FV},FV.tS pr xs=true->FV.dJ k xs=xs|[],_=>rfl|x::xs,h=>by simp only[FV.tS]at h;split at h;rename_i h1;simp only[FV.dJ,FV.nu hk h1,FV.tw hk h];cases h end
structure Agree (pr:List Nat)(S S':ag):Prop where
 val:∀z:Operand,(S.val z).safe pr=true->S'.val z=S.val z
 aD:∀o cells,gv o pr=true->Qv.getObj S.aD o=some cells->∃cells',Qv.getObj S'.aD o=some cells'/\cells'.length=cells.length/\∀(i:Nat)(y:FV),cells[i]?=some y->y.safe pr=true->cells'[i]?=some y
theorem Agree.refl {pr:List Nat}(S:ag):Agree pr S S:=⟨λ_ _=>rfl,λo cells _ hc=>⟨cells,hc,rfl,λi y hi _=>hi⟩⟩
theorem Agree.trans {pr:List Nat}{S S' tJ:ag}(h:Agree pr S S')(h':Agree pr S' tJ):Agree pr S tJ:=by refine⟨λz hz=>?_,λo cells ho hc=>?_⟩;have :=h.val z hz;rw[h'.val z (by rw[this];exact hz),this];obtain⟨c1,h1,l1,h2⟩:=h.aD o cells ho hc;obtain⟨c2,h3,l2,h4⟩:=h'.aD o c1 ho h1;exact⟨c2,h3,l2.trans l1,λi y hi hy=>h4 i y (h2 i y hi hy) hy⟩
theorem Zf (S:ag)(k:Nat)(z:Operand):(S.kill k).val z=(S.val z).kill k\/(S.val z).kill k=(S.kill k).val z:=by
 left;cases z with
 |tmp t=>simp only[ag.val,ag.get,ag.kill];split<;>rfl
 |const v=>
  simp only[ag.val];have h1:∀u:Value,(FV.gT u).kill k=FV.gT u:=λu=>by unfold FV.gT;split<;>rfl
  unfold FV.Oe;split;simp only[FV.kill,FV.fE,dV];congr 1;exact(dF λu _=>(h1 u)).symm;rfl;exact(h1 _).symm
 |func f=>rfl
 |global g=>simp only[ag.val];split<;>rfl
theorem Po {d o:Nat}:∀{l:List (Nat×List FV)}{cs:List FV},o≠d->Qv.getObj l o=some cs->Qv.getObj (dW d l) o=some (FV.dJ d cs):=by
 intro l;induction l with
 |nil=>intro cs _ h;cases h
 |cons p l ih=>
  obtain⟨u,i⟩:=p;intro cs hne h;simp only[Qv.getObj]at h;simp only[dW];split at h;rename_i hb;obtain rfl:=aK hb;obtain rfl:=ak h;have :Nat.beq u d=false:=by cases hb:Nat.beq u d;rfl;exact absurd (aK hb) hne
  rw[this];simp[Qv.getObj];rename_i hb;split;exact ih hne h;simp only[Qv.getObj,hb];exact ih hne h
theorem Agree.kill {pr:List Nat}(S:ag){k:Nat}(hk:gv k pr=false):Agree pr S (S.kill k):=by refine⟨λz hz=>?_,λo cells ho hc=>?_⟩;rcases Zf S k z with h|h;rw[h,FV.nu hk hz];rw[<-h,FV.nu hk hz];refine⟨_,Po (λe=>by rw[e,hk]at ho;cases ho) hc,by rw[FV.fE,aj],λi y hi hy=>?_⟩;rw[FV.fE,aJ,hi];simp[FV.nu hk hy]
theorem MP {ob o:Nat}{c:List FV}:∀{l:List (Nat×List FV)},o≠ob->Qv.getObj (setObj l ob c) o=Qv.getObj l o:=by
 intro l hne;induction l with
 |nil=>rfl
 |cons p l ih=>
  obtain⟨u,i⟩:=p;simp only[setObj];split;rename_i hb;obtain rfl:=aK hb;have :Nat.beq u o=false:=by cases hb:Nat.beq u o;rfl;exact absurd (aK hb).symm hne
  simp only[Qv.getObj,this];simp only[Qv.getObj,ih]
theorem Agree.BO {pr:List Nat}(S:ag){ob:Nat}(c:List FV)(hk:gv ob pr=false):Agree pr S (S.BO ob c):=⟨λz _=>by cases z<;>rfl,λo cells ho hc=>⟨cells,by show Qv.getObj (setObj S.aD ob c) o=_;rw[MP (λe=>by rw[e,hk]at ho;cases ho)];exact hc,rfl,λi y hi _=>hi⟩⟩
theorem Agree.Zg {pr:List Nat}(S:ag){d:Nat}(c:List FV)(hk:gv d pr=false):Agree pr S {S with aD:=(d,c)::S.aD}:=⟨λz _=>by cases z<;>rfl,λo cells ho hc=>⟨cells,by
 have :Nat.beq d o=false:=by cases hb:Nat.beq d o;rfl;rw[aK hb,ho]at hk;cases hk
 simp only[Qv.getObj,this];exact hc,rfl,λi y hi _=>hi⟩⟩
theorem Agree.iY {pr:List Nat}(S:ag)(b:List (Nat×List UInt8)):Agree pr S {S with cz:=b}:=⟨λz _=>by cases z<;>rfl,λo cells ho hc=>⟨cells,hc,rfl,λi y hi _=>hi⟩⟩
def gJ (C:Ctx)(ops:Array Oper)(pr:List Nat)(o:Oper)(x:FV)(S:ag):Prop:=(iX ops S o=some true/\(ej C S o.op λu=>u=x)/\xb pr S o.op x=true)\/(iX ops S o=some false/\x=Ep)
theorem gJ.yA {pr:List Nat}{x:FV}(h:gJ C ops pr o x S):jM C ops o x S:=h.imp (λh=>⟨h.1,h.2.1⟩) id
theorem tA {pr:List Nat}{op:Op}{x:FV}(h:xb pr S op x=true):(∃zs,opsL op=some zs/\∀z,z∈zs->(S.val z).safe pr=true)/\x.safe pr=true:=by
 unfold xb at h;split at h;cases h;rename_i zs hz;split at h;rename_i hs;refine⟨⟨zs,hz,?_⟩,h⟩;clear hz;induction zs with
 |nil=>simp
 |cons y ys ih=>simp only[xL]at hs;split at hs;rename_i hy;intro z hz;rcases aC.1 hz with rfl|hz;exact hy;exact ih hs z hz;cases hs
 cases h
theorem HX {pr:List Nat}{op:Op}{x:FV}{zs:List Operand}(h:opsL op=some zs)(hz:∀z,z∈zs->(S.val z).safe pr=true)(hx:x.safe pr=true):xb pr S op x=true:=by
 unfold xb;rw[h];have :xL pr S zs=true:=by
  clear h;induction zs with
  |nil=>rfl
  |cons y ys ih=>simp only[xL,hz y kq];exact ih λz h=>hz z (cg _ h)
 simp only[this];exact hx
theorem gJ.safe {pr:List Nat}{x:FV}(h:gJ C ops pr o x S):x.safe pr=true:=by rcases h with h|⟨-,rfl⟩;exact(tA h.2.2).2;rfl
theorem Pp {op:Op}{zs:List Operand}(h:opsL op=some zs):∀z,z∈zs->z∈op.operands:=by
 intro z hz;unfold opsL at h;split at h;all_goals cases h
 all_goals simp[Op.operands,Call.operands]at hz⊢
 all_goals exact hz
theorem Zh {op:Op}{zs:List Operand}(h:opsL op=some zs):∀z,z∈op.operands->z∈zs:=by
 intro z hz;unfold opsL at h;split at h;all_goals cases h
 all_goals simp[Op.operands,Call.operands]at hz⊢
 all_goals exact hz
theorem Wi {pr:List Nat}{x:FV}{dst:Option Nat}{v:FV}(h:∀d,dst=some d->d∉o.looksAt ops)(hs:xb pr S o.op x=true):xb pr (S.put dst v) o.op x=true:=by obtain⟨⟨zs,h1,h2⟩,h3⟩:=tA hs;refine HX h1 (λz hz=>?_) h3;rw[ag.wh λd hd hzd=>h d hd (by subst hzd;exact jl _ (wj.2 ⟨.tmp d,by simpa using Pp h1 _ hz,rfl⟩))];exact h2 z hz
theorem Pq {pr:List Nat}{x:FV}{dst:Option Nat}{v:FV}(h:∀d,dst=some d->d∉o.looksAt ops)(hs:xb pr (S.put dst v) o.op x=true):xb pr S o.op x=true:=by obtain⟨⟨zs,h1,h2⟩,h3⟩:=tA hs;refine HX h1 (λz hz=>?_) h3;have :=h2 z hz;rw[ag.wh λd hd hzd=>h d hd (by subst hzd;exact jl _ (wj.2 ⟨.tmp d,by simpa using Pp h1 _ hz,rfl⟩))]at this;exact this
theorem gJ.put {pr:List Nat}{x:FV}(hy:gJ C ops pr o x S){dst:Option Nat}{v:FV}(h:∀d,dst=some d->d∉o.looksAt ops):gJ C ops pr o x (S.put dst v):=by unfold gJ at*;rw[qV h,si h];exact hy.imp (λq=>⟨q.1,q.2.1,Wi h q.2.2⟩) id
theorem gJ.UB {pr:List Nat}{x:FV}{dst:Option Nat}{v:FV}(hy:gJ C ops pr o x (S.put dst v))(h:∀d,dst=some d->d∉o.looksAt ops):gJ C ops pr o x S:=by unfold gJ at*;rw[qV h,si h]at hy;exact hy.imp (λq=>⟨q.1,q.2.1,Pq h q.2.2⟩) id
theorem ym {pr:List Nat}:∀(n:Nat){xs xs' cs:List FV},takeN n xs=some cs->FV.tS pr cs=true->(∀(i:Nat)(y:FV),xs[i]?=some y->y.safe pr=true->xs'[i]?=some y)->takeN n xs'=some cs
 |0,xs,xs',cs,h,_,_=>h
 |n+1,[],xs',cs,h,_,_=>by simp[takeN]at h
 |n+1,x::xs,xs',cs,h,hs,ha=>by
  simp only[takeN]at h;split at h;rename_i ys hys;obtain rfl:=ak h;simp only[FV.tS]at hs;split at hs;rename_i hx;have h0:=ha 0 x rfl hx;cases xs' with
  |nil=>simp at h0
  |cons x' xs'=>
   simp at h0;subst h0;have :=ym n (xs:=xs) (xs':=xs') hys hs λi y hi hy=>by simpa using ha (i+1) y (by simpa using hi) hy
   simp only[takeN,this]
  cases hs;cases h
theorem Er {α:Type}:∀(n:Nat)(xs:List α)(i:Nat),(gb n xs)[i]?=xs[n+i]?
 |0,xs,i=>by simp[gb]
 |n+1,[],i=>by simp[gb]
 |n+1,x::xs,i=>by rw[gb,Er n xs i,show n+1+i=(n+i)+1 by omega];simp
theorem MQ {pr:List Nat}{S':ag}(h:Agree pr S S'){t:TypeId}{v x:FV}(hv:v.safe pr=true)(hx:x.safe pr=true)(he:mI C S.aD t v λu=>u=x):mI C S'.aD t v λu=>u=x:=by
 unfold mI at he⊢;cases hi:bK C.jh t with
 |none=>rw[hi]at he;exact he.elim
 |some i=>
  rw[hi]at he;simp only at he⊢;cases v with
  |ptr o off=>
   simp only at he⊢;cases hc:Qv.getObj S.aD o with
   |none=>rw[hc]at he;exact he.elim
   |some cells=>
    rw[hc]at he;obtain⟨cells',h1,hl,h2⟩:=h.aD o cells hv hc;rw[h1];simp only at he⊢;have hd:∀(i:Nat)(y:FV),(gb off cells)[i]?=some y->y.safe pr=true->(gb off cells')[i]?=some y:=λi y hi hy=>by rw[Er]at hi⊢;exact h2 _ y hi hy
    cases hag:i.shape.isAgg with
    |true=>
     rw[hag]at he;simp only at he⊢;cases hcs:takeN i.size (gb off cells)with
     |none=>rw[hcs]at he;exact he.elim
     |some cs=>rw[hcs]at he;simp only at he;subst he;rw[ym _ hcs hx hd]
    |false=>
     rw[hag]at he;simp only at he⊢;cases hys:gb off cells with
     |nil=>rw[hys]at he;exact he.elim
     |cons y ys=>
      rw[hys]at he;simp only at he;subst he;have :=hd 0 y (by rw[hys];rfl) hx;cases hq:gb off cells' with
      |nil=>rw[hq]at this;simp at this
      |cons z zs=>rw[hq]at this;simpa using this
  |gB o base off=>
   simp only at he⊢;cases hc:Qv.getObj S.aD o with
   |none=>rw[hc]at he;exact he.elim
   |some cells=>
    rw[hc]at he;obtain⟨cells',h1,hl,h2⟩:=h.aD o cells hv hc;rw[h1];simp only at he⊢;obtain⟨A,ys,B,rfl,hA,he⟩:=he;have hlen:cells'.length=A.length+(ys.length+B.length):=by simpa using hl
    refine⟨cells'.take A.length,(cells'.drop A.length).take ys.length,(cells'.drop A.length).drop ys.length,by rw[dU,dU],by rw[aN,<-hA];omega,?_⟩;have hd:∀(i:Nat)(y:FV),(gb off ys)[i]?=some y->y.safe pr=true->(gb off ((cells'.drop A.length).take ys.length))[i]?=some y:=λi y hi hy=>by rw[Er]at hi⊢;have hlt:=(aG.1 hi).1;rw[Cn hlt,jV];refine h2 _ y ?_ hy;rw[eu oO,cV oO,<-hi];congr 1;omega
    cases hag:i.shape.isAgg with
    |true=>
     rw[hag]at he;simp only at he⊢;cases hcs:takeN i.size (gb off ys)with
     |none=>rw[hcs]at he;exact he.elim
     |some cs=>rw[hcs]at he;simp only at he;subst he;rw[ym _ hcs hx hd]
    |false=>
     rw[hag]at he;simp only at he⊢;cases hys:gb off ys with
     |nil=>rw[hys]at he;exact he.elim
     |cons y zs=>
      rw[hys]at he;simp only at he;subst he;have :=hd 0 y (by rw[hys];rfl) hx;cases hq:gb off ((cells'.drop A.length).take ys.length)with
      |nil=>rw[hq]at this;simp at this
      |cons z zs=>rw[hq]at this;simpa using this
  |p y=>cases y<;>first|exact he|exact he.elim
  |_=>exact he.elim
theorem CC {pr:List Nat}{S':ag}(h:Agree pr S S'){t:TypeId}{v i:FV}{K:FV->Prop}(hv:v.safe pr=true)(he:jw C S.aD t v i K):jw C S'.aD t v i K:=by
 unfold jw at he⊢;split at he;rename_i k n;split at he;split at he;exact he.elim;rename_i j hj;try simp only[hj]
 split at he;rename_i o T bI;split at he;rename_i cells hc hb;obtain⟨cells',h1,hl,-⟩:=h.aD o cells hv hc;rw[h1];simp only[hb];obtain⟨m,base,e1,e2,e3,e4⟩:=he;exact⟨m,base,e1,e2,oO,e4⟩;exact he.elim;rename_i o bx T bI;split at he;rename_i cells hc hb;obtain⟨cells',h1,hl,-⟩:=h.aD o cells hv hc;rw[h1];simp only[hb];obtain⟨m,base,e1,e2,e3,e4⟩:=he;exact⟨m,base,e1,e2,oO,e4⟩;exact he.elim;exact he;exact he;exact he;exact he
theorem Es {pr:List Nat}{S':ag}(h:Agree pr S S'){b:Builtin}{args:List FV}{types:List TypeId}{K:FV->Prop}(hv:∀v,v∈args->v.safe pr=true)(he:jG C S.aD b args types K):jG C S'.aD b args types K:=by unfold jG at he⊢;split at he;split at he;split at he;exact he;exact he;split at he;rename_i o T bI;split at he;rename_i cells hc;obtain⟨cells',h1,hl,-⟩:=h.aD o cells (hv (.fT o T bI) (by simp)) hc;rw[h1];obtain⟨n,e1,e2⟩:=he;exact⟨n,oO,e2⟩;exact he.elim;rename_i o bx T bI;split at he;rename_i cells hc;obtain⟨cells',h1,hl,-⟩:=h.aD o cells (hv (.sY o bx T bI) (by simp)) hc;rw[h1];obtain⟨n,e1,e2⟩:=he;exact⟨n,oO,e2⟩;exact he.elim;exact he;exact he;exact he;exact he;exact he;exact he
theorem Pr {pr:List Nat}{S':ag}(h:Agree pr S S'){op:Op}{x:FV}(hs:xb pr S op x=true)(he:ej C S op λu=>u=x):ej C S' op λu=>u=x:=by
 obtain⟨⟨zs,h1,h2⟩,h3⟩:=tA hs;have hv:∀z,z∈zs->S'.val z=S.val z:=λz hz=>h.val z (h2 z hz);have gen:∀S2:ag,(∀z,z∈op.operands->S2.val z=S.val z)->S2.aD=S.aD->ej C S2 op (λu=>u=x):=λS2 a b=>by rw[Ft a b (λ_ _ _ _ e=>by subst e;cases h1) (λ_ e=>by subst e;cases h1)];exact he
 by_cases hl:∃t a,op=.load t a;obtain⟨t,a,rfl⟩:=hl;simp only[opsL,bF]at h1;subst h1;have ha:=h2 a (by simp);simp only[ej]at he⊢;rw[hv a (by simp)];exact MQ h ha h3 he;by_cases DU:∃t a i,op=.indexAddr t a i;obtain⟨t,a,i,rfl⟩:=DU;simp only[opsL,bF]at h1;subst h1;have ha:=h2 a (by simp);simp only[ej]at he⊢;rw[hv a (by simp),hv i (by simp)];exact CC h ha he;by_cases hl3:∃b args types,op=.call ⟨.builtin b,args,types⟩;obtain⟨b,args,types,rfl⟩:=hl3;simp only[opsL,bF]at h1;subst h1;simp only[ej]at he⊢;have ha:args.toList.map S'.val=args.toList.map S.val:=dF λz hz=>hv z hz;rw[ha];exact Es h (λv VZ=>by obtain⟨z,hz,rfl⟩:=aB.1 VZ;exact h2 z hz) he;have hall:=Zh h1;have :=gen {S' with aD:=S.aD} (λz hz=>by have :=hv z (hall z hz);cases z<;>exact this) rfl;cases op;case slice t x lo hi mx=>
  cases mx with
  |none=>exact this
  |some m=>cases h1
 case load t a=>exact absurd ⟨t,a,rfl⟩ hl
 case indexAddr t a i=>exact absurd ⟨t,a,i,rfl⟩ DU
 case call c=>
  obtain⟨callee,args,types⟩:=c;cases callee with
  |builtin b=>exact absurd ⟨b,args,types,rfl⟩ hl3
  |_=>exact this
 case build t parts=>simp only[opsL,bF]at h1;subst h1;exact(Fs (λp hp=>hv p.2 (sk hp))).mpr he
 case buildSlice t len parts=>simp only[opsL,bF]at h1;subst h1;exact(uP (λp hp=>hv p.2 (sk hp))).mpr he
 all_goals exact this
theorem AA {pr:List Nat}{S':ag}(h:Agree pr S S'){b:Bool}(hw:iX ops S o=some b):iX ops S' o=some b:=by
 unfold iX at*;split at hw;exact hw;rename_i j want hg;split at hw;cases hw;rename_i d hd;have key:∀y:AV,S.get d=.p y->S'.get d=.p y:=λy hy=>by have :=h.val (.tmp d) (by show(S.get d).safe pr=true;rw[hy];rfl);exact this.trans hy
 split at hw;rename_i c hc;rw[key _ hc];exact hw;rename_i hc;rw[key _ hc];exact hw;cases hw
theorem gJ.agree {pr:List Nat}{S':ag}(h:Agree pr S S'){x:FV}(hy:gJ C ops pr o x S):gJ C ops pr o x S':=by rcases hy with⟨h1,h2,h3⟩|⟨h1,h2⟩;refine .inl ⟨AA h h1,Pr h h3 h2,?_⟩;obtain⟨⟨zs,q1,q2⟩,q3⟩:=tA h3;exact HX q1 (λz hz=>by rw[h.val z (q2 z hz)];exact q2 z hz) q3;exact .inr ⟨AA h h1,h2⟩
def Zi (C:Ctx)(ops:Array Oper)(pr:List Nat)(o:Oper)(K:ag->Prop)(S:ag):Prop:=∃x,gJ C ops pr o x S/\K (S.put o.dst x)
def AB (C:Ctx)(call:iG)(Y:ov)(ops:Array Oper)(pr:List Nat)(o:Oper)(K:ag->Prop)(S:ag):Prop:=match iX ops S o with|some true=>(nU C.ex.inl pr S o.dst o.op=true/\BQ C call Y o K S)\/Oo C o K S|some false=>K (S.put o.dst Ep)|none=>False
theorem Wj {pr:List Nat}{K:ag->Prop}(h:afb C ops pr o K S):Zi C ops pr o K S:=by
 unfold afb at h;unfold Zi gJ iX;split at h;rename_i hg;rw[hg];obtain⟨v,h1,h2,h3⟩:=h;exact⟨v,.inl ⟨by first|rfl|trivial,h1,h2⟩,h3⟩;rename_i j want hg;rw[hg];split at h;exact h.elim;rename_i d hd;simp only[hd];split at h;rename_i b hb;rw[nT]at h;simp only[hb];cases Fp:(b==want)with
 |true=>rw[Fp]at h;obtain⟨v,h1,h2,h3⟩:=h;exact⟨v,.inl ⟨by first|rfl|trivial,h1,h2⟩,h3⟩
 |false=>rw[Fp]at h;exact⟨_,.inr ⟨by first|rfl|trivial,rfl⟩,h⟩
 rename_i hb;simp only[hb];exact⟨_,.inr ⟨by first|rfl|trivial,rfl⟩,h⟩;exact h.elim
theorem Wk {pr:List Nat}{K:ag->Prop}(h:afc C call Y ops pr o K S):AB C call Y ops pr o K S:=by
 unfold afc at h;unfold AB iX;split at h;rename_i hg;rw[hg];exact .inl h;rename_i j want hg;rw[hg];split at h;exact h.elim;rename_i d hd;simp only[hd];split at h;rename_i b hb;rw[nT]at h;simp only[hb];cases Fp:(b==want)with
 |true=>rw[Fp]at h;exact .inl h
 |false=>rw[Fp]at h;exact h
 rename_i hb;simp only[hb];exact h;exact h.elim
theorem acB {K:ag->Prop}(h:Oo C o K S):BQ C call Y o K S:=by unfold Oo at h;split at h;rename_i f args ty d hg hop hd;split at h;rename_i g Uz;split at h;rename_i e1 e2 e3;simp only[BQ,hop,Mp,Uz,e1,e2,KB,aI,dS,aW,e3,hd];exact .inr (.inl (.inl (.inr h)));exact h.elim;exact h.elim;exact h.elim
theorem Sd {K:ag->Prop}(h:Oo C o K S):o.guard=none:=by unfold Oo at h;split at h;assumption;exact h.elim
theorem Wl {pr:List Nat}{K:ag->Prop}(h:Oo C o K S):AB C call Y ops pr o K S:=by unfold AB iX;rw[Sd h];exact .inr h
theorem qW {dst:Option Nat}{x:FV}{k:Nat}(hx:x.kill k=x):(S.put dst x).kill k=(S.kill k).put dst x:=by
 cases dst with
 |none=>rfl
 |some d=>simp only[ag.put,ag.kill];congr 1;funext i;split;exact hx;rfl
theorem HY {S S':ag}(e:S'.aD=S.aD){ρ:List (Nat×Nat)}:∀{l:List (Nat×List FV)},zu S' ρ l->zu S ρ l|[],h=>h|(o,cells)::l,h=>by unfold zu at h⊢;rw[e]at h;exact⟨h.1,HY e h.2⟩
theorem Wm {pr:List Nat}{oi oj:Oper}{x:FV}(hap:oi.apart ops oj=true){K:ag->Prop}(hy:gJ C ops pr oi x S)(h:AB C call Y ops pr oj K (S.put oi.dst x)):AB C call Y ops pr oj (λS1=>gJ C ops pr oi x S1/\K (S1.put oi.dst x)) S:=by
 obtain⟨h1,h2,h3⟩:=Oper.apart_spec hap;have hxs:=hy.safe;unfold AB at*;rw[qV h1]at h;split at h
 ·have hval:∀z,z∈oj.op.operands->(S.put oi.dst x).val z=S.val z:=λz hz=>ag.wh λd hd hzd=>h1 d hd (by subst hzd;exact jl _ (wj.2 ⟨.tmp d,by simpa using hz,rfl⟩));have hoff:(S.put oi.dst x).off=S.off:=by cases oi.dst<;>rfl
  have OT:(S.put oi.dst x).aD=S.aD:=ag.HS;have hbl:(S.put oi.dst x).cz=S.cz:=by cases oi.dst<;>rfl
  have fin:∀(S1 S2:ag)(v:FV),Agree pr S S1->S2=S1.put oi.dst x->K (S2.put oj.dst v)->gJ C ops pr oi x (S1.put oj.dst v)/\K ((S1.put oj.dst v).put oi.dst x):=λS1 S2 v ha e hk=>by refine⟨(hy.agree ha).put h3,?_⟩;rw[<-ag.put_comm h2,<-e];exact hk
  rcases h with⟨hh,he⟩|h;rotate_left;refine .inr ?_;unfold Oo at h⊢;split at h;rename_i f args ty d hg hop hd;rw[hop]at hval;have hf:=hval f (by simp[Op.operands,Call.operands]);have hargs:args.toList.map (S.put oi.dst x).val=args.toList.map S.val:=dF λz hz=>hval z (by simp[Op.operands,Call.operands];simp_all);have hbz:Hh (S.put oi.dst x) (args.toList.map S.val)=Hh S (args.toList.map S.val):=by cases oi.dst<;>rfl
  have hmp:(S.put oi.dst x).maps=S.maps:=by cases oi.dst<;>rfl
  try simp only[hg,hop,hd]
  rw[hf,hargs,hbz]at h;split at h;rename_i g Uz;try simp only[Uz]
  split at h;rename_i e1 e2 e3;try simp only[e1,e2,e3]
  obtain⟨ρ,aD,m,l,az,R,q1,q2,q3,q4,q5,q6,q7⟩:=h;rw[hmp]at q4 q7;refine⟨ρ,aD,m,l,az,R,q1,q2,HY (ag.HS) q3,q4,q5,q6,λr l' hR=>?_⟩;have :=fin (S.Fa (sZ S.maps (Ff ρ m) (uF (FV.nm ρ) l'))) ((S.put oi.dst x).Fa (sZ S.maps (Ff ρ m) (uF (FV.nm ρ) l'))) (.p r) ⟨λz _=>by cases z<;>rfl,λo cells _ hc=>⟨cells,hc,rfl,λi y hi _=>hi⟩⟩ (by cases oi.dst<;>rfl);rw[hd]at this;exact this (q7 r l' hR);exact h.elim;exact h.elim;exact h.elim;refine .inl ?_;cases hop:oj.op with
  |alloc t=>
   rw[hop]at hh;simp only[BQ,hop]at he⊢;simp only[nU]at hh⊢;split at he;rename_i d inf hd Cm;rw[hd]at hh;rw[hoff]at hh;simp only[cE]at hh;simp only[hd,Cm];refine⟨by simpa using hh,?_⟩;have hk:=FV.nu hh hxs;split at he;rename_i hb hz;try simp only[hb,hz]
   have :=fin {S.kill (S.off+d)with cz:=(S.off+d,[])::BM (S.off+d) S.cz} {(S.put oi.dst x).kill (S.off+d)with cz:=(S.off+d,[])::BM (S.off+d) S.cz} (.ptr (S.off+d) 0) ((Agree.kill S hh).trans (Agree.iY _ _)) (by rw[qW hk];cases oi.dst<;>rfl);rw[hd]at this;rw[Ho]at he⊢;unfold Rz at*;rw[hoff,hbl]at he;exact⟨he.1,this he.2⟩;rename_i hno;rw[jS,vE]at he;rw[jS,vE];unfold newObj at*;rw[hoff,OT]at he;have :=fin {S.kill (S.off+d)with aD:=(S.off+d,FV.dJ (S.off+d) (inf.zero.map FV.gT))::dW (S.off+d) S.aD} {(S.put oi.dst x).kill (S.off+d)with aD:=(S.off+d,FV.dJ (S.off+d) (inf.zero.map FV.gT))::dW (S.off+d) S.aD} (.ptr (S.off+d) 0) ((Agree.kill S hh).trans (Agree.Zg (S.kill (S.off+d)) _ hh)) (by rw[qW hk];cases oi.dst<;>rfl);rw[hd]at this;exact⟨he.1,this he.2⟩;exact he.elim
  |store t p z=>
   rw[hop]at hh hval;have hp:=hval p (by simp[Op.operands]);have hz:=hval z (by simp[Op.operands]);simp only[BQ,hop,hz,hp,OT]at he⊢;simp only[nU,hp]at hh⊢;split at he;rename_i inf ob off Cm vo;rw[vo]at hh;simp only[cE]at hh;simp only[Cm,vo];refine⟨by simpa using hh,?_⟩;split at he;exact he.elim;rename_i cells hc;try simp only[hc]
   split at he;rename_i hb;try simp only[hb]
   split at he;rename_i AZ;try simp only[AZ]
   split at he;rename_i cs hcs;try simp only[hcs]
   rw[jS]at he⊢;have :=fin (S.BO ob cs) ((S.put oi.dst x).BO ob cs) (.p (.eS [])) (Agree.BO S cs hh) (by unfold ag.BO;cases oi.dst<;>rfl);exact this he;exact he.elim;exact he.elim;exact he.elim;rename_i vo;rw[vo]at hh;simp at hh;exact he.elim
  |call c=>
   obtain⟨callee,args,types⟩:=c;cases callee with
   |value f=>
    rw[hop]at hh hval;have hf:=hval f (by simp[Op.operands,Call.operands]);have hargs:args.toList.map (S.put oi.dst x).val=args.toList.map S.val:=dF λz hz=>hval z (by simp[Op.operands,Call.operands];simp_all);simp only[BQ,hop,hf,hargs]at he⊢;simp only[nU,hf,hargs]at hh⊢;split at hh;rename_i g first captured Uz;rw[Uz]at he⊢;split at hh;rename_i xs d hg ahB hd;rw[hoff]at hh;simp only[hg,ahB,hd];simp only[cE]at hh;have hk:=FV.nu hh hxs;simp only[Mp,hg,ahB]at he⊢;obtain⟨R,hc,hr⟩:=he;refine⟨by simpa using hh,R,hc,λr hrr=>?_⟩;have h:=hr r hrr;rw[hd]at h;cases r with
    |val y=>have :=fin S (S.put oi.dst x) (.p y) (Agree.refl S) rfl;rw[hd]at this;exact this h
    |vf y=>have :=fin S (S.put oi.dst x) y (Agree.refl S) rfl;rw[hd]at this;exact this h
    |fresh T bI ys=>simp only[JD,lu,hoff]at h⊢;have :=fin (S.kill (S.off+d)) ((S.put oi.dst x).kill (S.off+d)) (.gi (S.off+d) T bI ys) (Agree.kill S hh) (qW hk);rw[hd]at this;exact this h
    |own rest T bI qj=>simp only[JD,jF,hoff,OT]at h⊢;obtain⟨q1,zs,q2,q3⟩:=h;have :=fin {S.kill (S.off+d)with aD:=(S.off+d,zs)::dW (S.off+d) S.aD} {(S.put oi.dst x).kill (S.off+d)with aD:=(S.off+d,zs)::dW (S.off+d) S.aD} (ab6 rest (.fT (S.off+d) T bI)) ((Agree.kill S hh).trans (Agree.Zg (S.kill (S.off+d)) _ hh)) (by rw[qW hk];cases oi.dst<;>rfl);rw[hd]at this;exact⟨q1,zs,q2,this q3⟩
    cases hh;cases hh
   |invoke r m=>rw[hop]at hh;simp[nU]at hh
   |builtin b=>
    cases b<;>try (rw[hop]at hh;simp[nU]at hh;done)
    rw[hop]at hh hval;have hargs:args.toList.map (S.put oi.dst x).val=args.toList.map S.val:=dF λz hz=>hval z (by simp[Op.operands,Call.operands];simpa using hz);simp only[BQ,hop,hargs]at he⊢;simp only[nU,hargs]at hh⊢;split at he;rename_i a b t u d ha ht hd;rw[ha,hd]at hh;simp only at hh;rw[hoff]at hh;simp only[ha,ht,hd];refine⟨by simpa using hh,?_⟩;split at he;cases hh;replace hh:KC pr (S.off+d) a=true:=by split at hh;cases hh;exact hh
    have app:tc C t u d (S.put oi.dst x) a b K->tc C t u d S a b (λS'=>gJ C ops pr oi x S'/\K (S'.put oi.dst x)):=λhe=>by
     unfold tc at he⊢;split at he;rename_i b1 b2 e b3 b4 hti hui;simp only[hti,hui];split at he;exact he.elim;rename_i Se;try simp only[Se]
     split at he;exact he.elim;rename_i j hj;try simp only[hj]
     split at he;exact he.elim;rename_i ys hys;try simp only[hys]
     cases a with
     |gi k T bI xs=>
      simp only[KC]at hh he⊢;simp only[cE]at hh;have hk:=FV.nu hh hxs;split at he;rename_i e1 e2 e3;try simp only[e1,e2,e3]
      obtain⟨q1,q2,q3,zs,q4,q5⟩:=he;have :=fin (S.kill k) ((S.put oi.dst x).kill k) (.gi k T bI zs) (Agree.kill S hh) (qW hk);rw[hd]at this;exact⟨q1,q2,q3,zs,q4,this q5⟩;exact he.elim
     |full xs=>
      simp only[KC]at hh;simp only[cE]at hh;have hk:=FV.nu hh hxs;cases xs with
      |nil=>
       simp only at he⊢;split at he;rename_i e1;try simp only[e1]
       obtain⟨q1,q2,q3⟩:=he;rw[lu,hoff]at q3;rw[lu];have :=fin (S.kill (S.off+d)) ((S.put oi.dst x).kill (S.off+d)) (.gi (S.off+d) e j.size ys) (Agree.kill S hh) (qW hk);rw[hd]at this;exact⟨q1,q2,this q3⟩;exact he.elim
      |cons z zs=>
       simp only at he⊢;split at he;rename_i e1;try simp only[e1]
       obtain⟨q1,q2,q3,q4,q5⟩:=he;rw[lu,hoff]at q5;rw[lu];obtain⟨zs',q6,q7⟩:=q5;have :=fin (S.kill (S.off+d)) ((S.put oi.dst x).kill (S.off+d)) (.gi (S.off+d) e j.size zs') (Agree.kill S hh) (qW hk);rw[hd]at this;exact⟨q1,q2,q3,q4,zs',q6,this q7⟩;exact he.elim
     |_=>first|(simp[KC]at hh;done)|exact he.elim
     exact he.elim
    unfold RE at he⊢;split at he;rename_i KJ;try simp only[KJ]
    cases a with
    |full xs=>
     cases xs with
     |cons z zs=>exact app he
     |nil=>
      simp only[KC]at hh he⊢;simp only[cE]at hh;have hk:=FV.nu hh hxs;unfold Ms at he⊢;split at he;rename_i b1 b2 e b3 b4 hti hui;simp only[hti,hui];split at he;exact he.elim;rename_i Se;try simp only[Se]
      split at he;exact he.elim;rename_i j hj;try simp only[hj]
      split at he;rename_i ys v1 v2 v3;try simp only[v1,v2,v3]
      obtain⟨q1,q2,q3,q5⟩:=he;rw[jF,hoff]at q5;rw[jF];obtain⟨q8,zs,q6,q7⟩:=q5;have :=fin {S.kill (S.off+d)with aD:=(S.off+d,zs)::dW (S.off+d) S.aD} {(S.put oi.dst x).kill (S.off+d)with aD:=(S.off+d,zs)::dW (S.off+d) S.aD} (.fT (S.off+d) e j.size) ((Agree.kill S hh).trans (Agree.Zg (S.kill (S.off+d)) _ hh)) (by rw[qW hk];cases oi.dst<;>rfl);rw[hd]at this;rw[OT]at q7;exact⟨q1,q2,q3,q8,zs,q6,this q7⟩;exact he.elim;exact he.elim
    |_=>exact app he
    rename_i KJ;try simp only[KJ]
    exact app he;exact he.elim
  |_=>rw[hop]at hh;simp[nU]at hh
 rename_i hw;refine⟨hy.put h3,?_⟩;rw[<-ag.put_comm h2];exact h;exact h.elim
def rM (C:Ctx)(call:iG)(Y:ov)(ops:Array Oper)(c:qT)(i:Nat)(K:ag->Prop)(S:ag):Prop:=match ops[i]?with|none=>K S|some o=>match c.of i with|0=>lC C ops o K S|1=>Zi C ops c.pr o K S|2=>∃K':ag->Prop,AB C call Y ops c.pr o K' S/\∀S',K' S'->K S'|_=>∃K':ag->Prop,Fu C call Y ops o K' S/\∀S',K' S'->K S'
def JQ (C:Ctx)(call:iG)(Y:ov)(ops:Array Oper)(c:qT)(K:ag->Prop):Nat->Array Bool->ag->Prop|0,listed,S=>Region.ready .any ops listed=[]/\K S|fuel+1,listed,S=>(Region.ready .any ops listed=[]->K S)/\∀i∈Region.ready .any ops listed,rM C call Y ops c i (JQ C call Y ops c K fuel (listed.setIfInBounds i true)) S
theorem acC {pr:List Nat}{K:ag->Prop}(h:AB C call Y ops pr o K S):Fu C call Y ops o K S:=by unfold AB at h;unfold Fu;split at h;rename_i hw;exact h.elim (λh=>h.2) acB;exact h;exact h.elim
theorem HZ (dm:mC E.C call)(hY:eA E Y){c:qT}{K:ag->Prop}{Q:Exit->Act->World->Prop}(hQ:∀S a w,K S->mY E S a w->Q .normal a w):∀(fuel:Nat)(listed:Array Bool)(S:ag)(a:Act)(w:World),mY E S a w->JQ E.C call Y ops c K fuel listed S->wpAnyIn E.je 0 E.C.P .any ops Q fuel listed a w:=by
 intro fuel;induction fuel with
 |zero=>intro listed S a w hs h;exact⟨h.1,hQ _ _ _ h.2 hs⟩
 |succ fuel ih=>intro listed S a w hs h;refine⟨λh0=>hQ _ _ _ (h.1 h0) hs,λi hi=>?_⟩;have h2:=h.2 i hi;unfold rM at h2;unfold wpOpIn;split at h2;rename_i ho;simp only[ho];exact ih _ _ _ _ hs h2;rename_i o ho;simp only[ho];split at h2;exact ua hs h2 λS a w hk hs'=>ih _ _ _ _ hs' hk;obtain⟨x,hy,hK⟩:=h2;exact ua hs (hy.yA.lC hK) λS a w hk hs'=>ih _ _ _ _ hs' hk;obtain⟨K',h3,h4⟩:=h2;exact yj dm hY hs (acC h3) λS a w hk hs'=>ih _ _ _ _ hs' (h4 _ hk);obtain⟨K',h3,h4⟩:=h2;exact yj dm hY hs h3 λS a w hk hs'=>ih _ _ _ _ hs' (h4 _ hk)
def xk (C:Ctx)(ops:Array Oper)(c:qT)(i:Nat)(o:Oper)(x:FV)(S:ag):Prop:=match c.of i with|0=>jM C ops o x S|_=>gJ C ops c.pr o x S
theorem Wn {c:qT}{i j:Nat}{oi oj:Oper}{x:FV}(hj:ops[j]?=some oj)(hi1:c.of i<=1)(hjc:c.of j<=c.of i+1)(hap:oi.apart ops oj=true){K:ag->Prop}(hy:xk C ops c i oi x S)(h:rM C call Y ops c j K (S.put oi.dst x)):rM C call Y ops c j (λS'=>xk C ops c i oi x S'/\K (S'.put oi.dst x)) S:=by
 obtain⟨h1,h2,h3⟩:=Oper.apart_spec hap;have ahC:∀{S:ag}{v:FV},xk C ops c i oi x S->xk C ops c i oi x (S.put oj.dst v):=λ{S v} hk=>by
  unfold xk at*;split;rename_i he;simp only[he]at hk;exact hk.put h3;rename_i he;have :gJ C ops c.pr oi x S:=by split at hk;rename_i he2;exact absurd he2 he;exact hk
  exact this.put h3
 unfold rM at*;simp only[hj]at h⊢;split at h;obtain⟨u,hu,hK⟩:=iO h;refine(hu.UB h1).lC ⟨ahC hy,?_⟩;rw[<-ag.put_comm h2];exact hK;obtain⟨u,hu,hK⟩:=h;refine⟨u,hu.UB h1,ahC hy,?_⟩;rw[<-ag.put_comm h2];exact hK;rename_i YM;have hi:c.of i=1:=oO
 have hyc:gJ C ops c.pr oi x S:=by unfold xk at hy;simp only[hi]at hy;exact hy
 obtain⟨K',h4,h5⟩:=h;refine⟨_,Wm hap hyc h4,λS' h'=>⟨?_,h5 _ h'.2⟩⟩;unfold xk;simp only[hi];exact h'.1;rename_i n0 n1 n2;exfalso;have :c.of j<=2:=oO
 have :c.of j=0\/c.of j=1\/c.of j=2:=oO
 rcases this with e|e|e;exact n0 e;exact n1 e;exact n2 e
theorem Sf {c:qT}{K:ag->Prop}{i:Nat}{oi:Oper}{x:FV}(hi:ops[i]?=some oi)(hi1:c.of i<=1):∀(fuel:Nat)(listed:Array Bool)(S:ag),qw ops listed->(∀j oj,ops[j]?=some oj->j≠i->listed.getD j true=false->td ops ops.size j i=true\/(c.of j<=c.of i+1/\oi.apart ops oj=true))->i∈Region.ready .any ops listed->xk C ops c i oi x S->JQ C call Y ops c K fuel (listed.setIfInBounds i true) (S.put oi.dst x)->JQ C call Y ops c K (fuel+1) listed S:=by
 have self:∀{K':ag->Prop}{S:ag},xk C ops c i oi x S->K' (S.put oi.dst x)->rM C call Y ops c i K' S:=λ{K' S} hy h=>by
  unfold rM;simp only[hi];unfold xk at hy;have :c.of i=0\/c.of i=1:=oO
  rcases this with e|e;simp only[e]at hy⊢;exact hy.lC h;simp only[e]at hy⊢;exact⟨x,hy,h⟩
 intro fuel;induction fuel with
 |zero=>intro listed S _ _ hr hy H;refine⟨λh=>(by rw[h]at hr;cases hr),λj hj=>?_⟩;by_cases hji:j=i;subst hji;exact self hy H;have :=ready_mono hj hji;rw[H.1]at this;cases this
 |succ fuel ih=>
  intro listed S mG hfree hr hy H;refine⟨λh=>(by rw[h]at hr;cases hr),λj hj=>?_⟩;by_cases hji:j=i;subst hji;exact self hy H;have h1:=H.2 j (ready_mono hj hji);obtain⟨MO,oj,Wg,hall⟩:=mem_ready.1 hj;rcases hfree j oj Wg hji MO with hre|⟨hjm,hap⟩;have h2:=mG.reach _ _ _ hre λo ho=>by rw[Wg]at ho;obtain rfl:=ak ho;exact hall
  rw[CA (mem_ready.1 hr).1]at h2;cases h2;have h2:=Wn Wg hi1 hjm hap hy h1;have HV:∀k ok,ops[k]?=some ok->k≠i->(listed.setIfInBounds j true).getD k true=false->td ops ops.size k i=true\/(c.of k<=c.of i+1/\oi.apart ops ok=true):=λk ok hk hki hun=>by refine hfree k ok hk hki ?_;by_cases hjk:j=k;subst hjk;exact MO;rw[getD_set_ne true hjk]at hun;exact hun
  have mono:∀{K1 K2:ag->Prop}{S:ag},(∀S',K1 S'->K2 S')->rM C call Y ops c j K1 S->rM C call Y ops c j K2 S:=λ{K1 K2 S} hm hq=>by unfold rM at*;simp only[Wg]at hq⊢;split at hq;obtain⟨y,q1,q2⟩:=iO hq;exact q1.lC (hm _ q2);obtain⟨y,q1,q2⟩:=hq;exact⟨y,q1,hm _ q2⟩;obtain⟨K',q1,q2⟩:=hq;exact⟨K',q1,λS' h=>hm _ (q2 S' h)⟩;obtain⟨K',q1,q2⟩:=hq;exact⟨K',q1,λS' h=>hm _ (q2 S' h)⟩
  refine mono (λS' h'=>?_) h2;refine ih (listed.setIfInBounds j true) _ (mG.set hj) HV (ready_mono hr (cU hji)) h'.1 ?_;rw[CB _ _ hji];exact h'.2
theorem yo {c:qT}{k:Nat}{K:ag->Prop}(h:xM C call Y ops c k K S):rM C call Y ops c k K S/\(c.of k<=1->∃o x,ops[k]?=some o/\xk C ops c k o x S/\K (S.put o.dst x)):=by
 unfold xM at h;split at h;exact h.elim;rename_i o ho;have ho':ops[k]?=some o:=by simpa using ho
 unfold rM xk;simp only[ho'];split at h;rename_i e;have :=HT h;obtain⟨x,hy,hK⟩:=iO this;simp only[e];exact⟨hy.lC hK,λ_=>⟨o,x,rfl,hy,hK⟩⟩;rename_i e;obtain⟨x,hy,hK⟩:=Wj h;simp only[e];exact⟨⟨x,hy,hK⟩,λ_=>⟨o,x,rfl,hy,hK⟩⟩;rename_i e;simp only[e];split at h;exact⟨⟨_,Wl h,λ_ h=>h⟩,λhle=>absurd hle oO⟩;exact⟨⟨_,Wk h,λ_ h=>h⟩,λhle=>absurd hle oO⟩;rename_i n0 n1 n2;have a0:c.of k≠0:=n0;have a1:c.of k≠1:=n1;have a2:c.of k≠2:=n2;obtain⟨n,hn⟩:∃n,c.of k=n+3:=⟨c.of k-3,oO⟩;simp only[hn];exact⟨⟨_,HU h,λ_ h=>h⟩,λhle=>absurd hle oO⟩
theorem MR {c:qT}{K:ag->Prop}:∀(p:JG),(∀(fuel:Nat)(listed:Array Bool)(S:ag),qw ops listed->nM ops c p true fuel listed=true->nN C call Y ops c K p S->JQ C call Y ops c K fuel listed S)/\(∀(fuel:Nat)(listed:Array Bool)(S:ag),qw ops listed->nM ops c p false fuel listed=true->nN C call Y ops c K p S->∀i,i∈p.Uo->i∈Region.ready .any ops listed->∃f,fuel=f+1/\rM C call Y ops c i (JQ C call Y ops c K f (listed.setIfInBounds i true)) S):=by
 intro p;induction p with
 |fin=>
  refine⟨λfuel listed S mG hB h=>?_,λfuel listed S mG hB h i hi=>by cases hi⟩;simp only[nM,gw,List.isEmpty_iff]at hB;cases fuel with
  |zero=>exact⟨hB,h⟩
  |succ fuel=>exact⟨λ_=>h,λi hi=>by rw[hB]at hi;cases hi⟩
 |stop=>refine⟨λfuel listed S mG hB h=>?_,λfuel listed S mG hB h i hi=>by cases hi⟩;simp[nM]at hB
 |one k p ih=>
  refine⟨λfuel listed S mG hB h=>?_,λfuel listed S mG hB h i hi=>by cases hi⟩;cases fuel with
  |zero=>simp[nM]at hB
  |succ fuel=>
   simp only[nM,gw,aR]at hB;obtain⟨⟨⟨hq,hr⟩,hf⟩,hB'⟩:=hB;have hr':k∈Region.ready .any ops listed:=by simpa using hr
   have MF:c.of k<=1:=gW hq;simp only[nN]at h;obtain⟨o,x,ho,hy,hK⟩:=(yo h).2 MF;refine Sf ho MF fuel listed S mG (λj oj hj hne hun=>?_) hr' hy ?_;refine(Bf ho hf j oj hj hne hun).imp id λh=>⟨gW h.1,h.2⟩;exact ih.1 fuel _ _ (mG.set hr') hB' hK
 |alt k p r ihp ihr=>
  have parts:∀{S:ag},nN C call Y ops c K (.alt k p r) S->xM C call Y ops c k (nN C call Y ops c K p) S/\nN C call Y ops c K r S:=λ{S} h=>by simp only[nN]at h;split at h;exact⟨h,trivial⟩;exact h
  have both:∀(top:Bool)(fuel:Nat)(listed:Array Bool)(S:ag),qw ops listed->nM ops c (.alt k p r) top fuel listed=true->nN C call Y ops c K (.alt k p r) S->∀i,i∈(JG.alt k p r).Uo->i∈Region.ready .any ops listed->∃f,fuel=f+1/\rM C call Y ops c i (JQ C call Y ops c K f (listed.setIfInBounds i true)) S:=λtop fuel listed S mG hB h i hi hr=>by
   obtain⟨hst,qe⟩:=parts h;cases fuel with
   |zero=>simp[nM]at hB
   |succ f=>simp only[nM,aR]at hB;rcases aC.1 hi with rfl|hi;refine⟨f,rfl,?_⟩;have hs:=(yo hst).1;obtain⟨-,o,ho,-⟩:=mem_ready.1 hr;unfold rM at hs⊢;simp only[ho]at hs⊢;have xl:∀S',nN C call Y ops c K p S'->JQ C call Y ops c K f (listed.setIfInBounds i true) S':=λS' h'=>ihp.1 f _ _ (mG.set hr) hB.2.1 h';split at hs;obtain⟨y,q1,q2⟩:=iO hs;exact q1.lC (xl _ q2);obtain⟨y,q1,q2⟩:=hs;exact⟨y,q1,xl _ q2⟩;obtain⟨K',q1,q2⟩:=hs;exact⟨K',q1,λS' h=>xl _ (q2 S' h)⟩;obtain⟨K',q1,q2⟩:=hs;exact⟨K',q1,λS' h=>xl _ (q2 S' h)⟩;exact ihr.2 (f+1) listed S mG hB.2.2 qe i hi hr
  refine⟨λfuel listed S mG hB h=>?_,λfuel listed S mG hB h i hi hr=>both false fuel listed S mG hB h i hi hr⟩;have Zj:=hB;cases fuel with
  |zero=>simp[nM]at hB
  |succ f=>
   simp only[nM,Bool.not_true,iP,aR,beq_iff_eq]at hB;refine⟨λe=>(by rw[hB.1]at e;cases e),λi hi=>?_⟩;obtain⟨f',hf,hst⟩:=both true (f+1) listed S mG Zj h i (by rw[hB.1]at hi;exact hi) hi;obtain rfl:f=f':=oO
   exact hst
theorem Ia (dm:mC E.C call)(hY:eA E Y){id:Nat}{c:qT}{p:JG}{K:ag->Prop}{Q:Exit->Act->World->Prop}(hQ:∀S a w,K S->mY E S a w->Q .normal a w)(hB:nM ops c p true ops.size (Array.replicate ops.size false)=true)(hs:mY E S a w)(h:nN E.C call Y ops c K p S):(Code.region id ops true).wpIn E.je 0 E.C.P Q a w:=by refine wpIn_region_any E.C.mixed (HZ dm hY (c:=c) hQ _ _ _ _ _ (let⟨G,hs⟩:=hs;⟨G,hs.drew⟩) ?_);exact(MR p).1 _ _ _ ⟨by simp,λp o hp hl=>by have :p<ops.size:=(bq.1 hp).1;simp[this]at hl⟩ hB h
def acD (n:Nat)(listed:Array Bool):Nat:=((List.range n).filter λi=>!listed.getD i true).length
theorem Fv {α:Type}{p q:α->Bool}{k:α}:∀{l:List α},(∀i,i∈l->q i=true->p i=true)->k∈l->p k=true->q k=false->(l.filter q).length<(l.filter p).length
 |[],_,hk,_,_=>by cases hk
 |x::l,h,hk,h1,h2=>by
  have hle:∀{l:List α},(∀i,i∈l->q i=true->p i=true)->(l.filter q).length<=(l.filter p).length:=by
   intro l;induction l with
   |nil=>intro _;exact av _
   |cons y l ih=>
    intro h;have :=ih λi hi=>h i (cg _ hi);rw[jm,jm];cases hq:q y with
    |true=>rw[h y kq hq];simp;exact this
    |false=>cases p y<;>simp<;>omega
  have hl:=λi hi=>h i (cg _ hi);rw[jm,jm];rcases aC.1 hk with rfl|hk;rw[h1,h2];have :=hle hl;simp;omega;have :=Fv hl hk h1 h2;cases hq:q x with
  |true=>rw[h x kq hq];simp;exact this
  |false=>cases p x<;>simp<;>omega
theorem acE {c:qT}{J:Array Bool->ag->Prop}{K:ag->Prop}(h1:∀(listed:Array Bool)(S':ag)(k:Nat),J listed S'->k∈Region.ready .any ops listed->xM C call Y ops c k (J (listed.setIfInBounds k true)) S')(h2:∀(listed:Array Bool)(S':ag),J listed S'->Region.ready .any ops listed=[]->K S'):∀(fuel:Nat)(listed:Array Bool)(S:ag),acD ops.size listed<=fuel->J listed S->JQ C call Y ops c K fuel listed S:=by
 intro fuel;induction fuel with
 |zero=>
  intro listed S hn hJ;have hr:Region.ready .any ops listed=[]:=by
   cases hq:Region.ready .any ops listed with
   |nil=>rfl
   |cons k r=>
    exfalso;have hk:k∈Region.ready .any ops listed:=by rw[hq];exact kq
    obtain⟨h3,o,ho,-⟩:=mem_ready.1 hk;have hlt:=(bq.1 ho).1;have :k∈(List.range ops.size).filter λi=>!listed.getD i true:=eC.2 ⟨fA.2 hlt,by rw[h3];rfl⟩;have :=List.length_pos_of_mem this;unfold acD at hn;omega
  exact⟨hr,h2 _ _ hJ hr⟩
 |succ fuel ih=>
  intro listed S hn hJ;refine⟨h2 _ _ hJ,λk hk=>?_⟩;obtain⟨h3,o,ho,-⟩:=mem_ready.1 hk;have hlt:=(bq.1 ho).1;have hun:acD ops.size (listed.setIfInBounds k true)<acD ops.size listed:=by
   refine Fv (k:=k) (λi _ h=>?_) (fA.2 hlt) (by rw[h3];rfl) ?_;by_cases hik:k=i;subst hik;rw[h3];rfl;rw[getD_set_ne true hik]at h;exact h;have hsz:k<listed.size:=by rcases Nat.lt_or_ge k listed.size with h|h;exact h;rw[CD,Array.getElem?_eq_none h]at h3;cases h3
   simp[CD,MN,hsz]
  have hs:=(yo (h1 listed S k hJ hk)).1;have xl:∀S',J (listed.setIfInBounds k true) S'->JQ C call Y ops c K fuel (listed.setIfInBounds k true) S':=λS' h=>ih _ _ oO h;unfold rM at hs⊢;simp only[ho]at hs⊢;split at hs;obtain⟨y,q1,q2⟩:=iO hs;exact q1.lC (xl _ q2);obtain⟨y,q1,q2⟩:=hs;exact⟨y,q1,xl _ q2⟩;obtain⟨K',q1,q2⟩:=hs;exact⟨K',q1,λS' h=>xl _ (q2 S' h)⟩;obtain⟨K',q1,q2⟩:=hs;exact⟨K',q1,λS' h=>xl _ (q2 S' h)⟩
theorem Fw {o:Nat}{l:List (Nat×List FV)}{ys:List FV}(h:Qv.getObj l o=some ys):∃xs,Qv.getObj l o=some xs/\xs.length=ys.length/\∀(i:Nat)(x y:FV),xs[i]?=some x->ys[i]?=some y->bt x y:=⟨ys,h,rfl,λi x y hx hy=>by rw[hx]at hy;obtain rfl:=ak hy;exact bt.refl _⟩
theorem cq.refl (S:ag):cq S S:=⟨rfl,rfl,rfl,λ_ _ q=>⟨q,id⟩,⟨rfl,λi f f' h1 h2=>by rw[h1]at h2;obtain rfl:=ak h2;exact⟨rfl,rfl,λ_=>bt.refl _⟩⟩,λ_=>bt.refl _,λ_ _ h=>Fw h,λo l h=>⟨l,h,rfl,λi p p' h1 h2=>by rw[h1]at h2;obtain rfl:=ak h2;exact⟨rfl,bt.refl _⟩⟩,λ_ _ h=>h⟩
theorem Pt (S:ag)(ds:List Nat):Off ds S S:=⟨rfl,rfl,rfl,rfl,rfl,rfl,rfl,rfl,λ_ _=>rfl⟩
theorem iR (dm:mC E.C call)(hY:eA E Y){id:Nat}{draw:Bool}{K:ag->Prop}{Q:Exit->Act->World->Prop}(hQ:∀S a w,K S->mY E S a w->Q .normal a w)(hs:mY E S a w)(h:jW E.C call Y ops draw K S):(Code.region id ops draw).wpIn E.je 0 E.C.P Q a w:=by
 have keep:∀(φ:List FV->Prop),Eb K (S.ur (dstsOf ops.toList)) (oU ops.toList) φ->∀S' a w,(φ (getAll S' (oU ops.toList))/\Off (dstsOf ops.toList) S S')->mY E S' a w->Q .normal a w:=λφ hk S' a w ⟨h1,h2⟩ hs'=>by obtain⟨T,h3,h4⟩:=Pm _ _ _ hk h1 h2.weaken;exact hQ T a w h3 (hs'.weaken h4)
 have hd:∀o,o∈ops.toList->∀d,o.dst=some d->d∈dstsOf ops.toList:=λo ho d hd=>RV ho hd;unfold jW at h;split at h;exact wpIn_region_list (Fo dm hY hQ _ _ _ _ h hs);obtain⟨φ,h⟩:=h;cases φ with
 |none=>exact wpIn_region_list (Fo dm hY hQ _ _ _ _ h hs)
 |some φ=>obtain⟨h1,h2⟩:=h;exact wpIn_region_list (Wb (keep φ h2) _ _ _ _ (UA _ _ _ hd (Pt _ _) h1) hs)
 obtain⟨how,h⟩:=h;cases how with
 |lex m=>
  obtain⟨hB,h⟩:=h;have hm:m<=ops.size:=by simp only[AT,aR,decide_eq_true_eq]at hB;exact hB.1.1
  exact HW dm hY hQ hB hs h hm
 |keep φ=>obtain⟨hB,h1,h2⟩:=h;refine HW dm hY (m:=ops.size) (keep φ h2) hB hs ?_ (av _);have h3:=UA (ds:=dstsOf ops.toList) _ _ _ hd (Pt _ _) h1;have e1:ops.toList.take ops.size=ops.toList:=fe (by simp);have e2:ops.toList.drop ops.size=[]:=Cf (by simp);rw[e1,e2];exact h3
 |plan c p T=>
  obtain⟨hB,h⟩:=h;cases T with
  |none=>exact Ia dm hY hQ hB hs h
  |some T=>exact Ia dm hY (K:=λS'=>cq S' T) (λS a w hw hs=>hQ T a w h.2 (hs.weaken hw)) hB hs h.1
 |sea c J=>obtain⟨h0,h1,h2⟩:=h;exact wpIn_region_any E.C.mixed (HZ dm hY (c:=c) hQ _ _ _ _ _ (let⟨G,hs⟩:=hs;⟨G,hs.drew⟩) (acE h1 h2 ops.size _ _ (bL (jo _ _) (by simp)) h0))
end
section
variable {E:Env}{G:aZ}{S:ag}{a:Act}{w:World}
def pF (tmps:Array Value):ResultVar->Sem Value|.tmp t=>pure (tmps.getD t undef)|.cell a t=>do loadVar t (<-asAddr (tmps.getD a undef))
def UC:List Value->Value|[v]=>v|vs=>.tuple vs.toArray
theorem kS (fn:Func)(tmps:Array Value)(P:Program)(w:World){vs:List Value}(h:(fn.results.toList.mapM (pF tmps)).run P w=.ok vs w):(results fn tmps).run P w=.ok (UC vs) w:=by
 have h2:(fn.results.mapM (pF tmps)).run P w=.ok vs.toArray w:=by rw[Array.mapM_eq_mapM_toList];simp only[Sem.run_map,h,Result.andThen_ok]
 have h3:results fn tmps=(do let vs<-fn.results.mapM (pF tmps);pure (if h:vs.size=1 then vs[0]else .tuple vs)):=by unfold results;congr 1
 rw[h3];simp only[Sem.run_bind,h2,Result.andThen_ok,Sem.run_pure];congr 1;match vs with
  |[]=>rfl
  |[v]=>rfl
  |v::u::r=>rfl
theorem yp (hs:bp E G S a w){ad:Nat}{t:TypeId}{K:FV->Prop}(h:mI E.C S.aD t (S.get ad) K):∃v x,(pF a.tmps (.cell ad t)).run E.C.P w=.ok v w/\K x/\aO G w v x:=by obtain⟨p,v,x,h1,h2,h3,h4⟩:=KG hs (aO.get hs ad) h;exact⟨v,x,by simp only[pF,Sem.run_bind,h1,asAddr,Sem.run_pure,Result.andThen_ok,h2],h3,h4⟩
theorem xm (hs:bp E G S a w):∀(rs:List ResultVar)(K:List AV->Prop),mq E.C S rs K->∃vs xs,(rs.mapM (pF a.tmps)).run E.C.P w=.ok vs w/\K xs/\vs.length=rs.length/\vs.length=xs.length/\∀(i:Nat)(c:Value)(x:AV),vs[i]?=some c->xs[i]?=some x->dh G.bh w c x:=by
 intro rs;induction rs with
 |nil=>intro K h;exact⟨[],[],by simp,h,rfl,rfl,by simp⟩
 |cons r rs ih=>
  have fin:∀(K:List AV->Prop){v:Value}{y:AV},(pF a.tmps r).run E.C.P w=.ok v w->dh G.bh w v y->mq E.C S rs (λxs=>K (y::xs))->∃vs xs,((r::rs).mapM (pF a.tmps)).run E.C.P w=.ok vs w/\K xs/\vs.length=(r::rs).length/\vs.length=xs.length/\∀(i:Nat)(c:Value)(x:AV),vs[i]?=some c->xs[i]?=some x->dh G.bh w c x:=λK {v y} h1 h2 h3=>by obtain⟨vs,xs,g1,g2,g3,g4,g5⟩:=ih _ h3;refine⟨v::vs,y::xs,by simp_all,g2,by grind,by grind,λi c x hc hx=>?_⟩;grind
  intro K h;cases r with
  |tmp t=>simp only[mq]at h;split at h;rename_i y hy;exact fin K (v:=a.tmps.getD t undef) rfl ((aO.get hs t).eW hy) h;simp_all
  |cell ad t=>simp only[mq]at h;obtain⟨v,x,h1,h2,h3⟩:=yp hs h;split at h2;rename_i y hy;exact fin K h1 (h3.eW hy) h2;simp_all
theorem sn (hs:bp E G S a w){v:Value}{x:AV}(h:dh G.bh w v x):dh (lq E.Ec E.w0.heap.size) w v x:=h.keep (λb o hi=>hs.mX b o hi) (λ_ _ _ _ h=>h) (.refl _ _)
theorem nv (hs:bp E G S a w):∀(rs:List ResultVar)(K:List FV->Prop),qk E.C S rs K->∃vs xs,(rs.mapM (pF a.tmps)).run E.C.P w=.ok vs w/\K xs/\vs.length=rs.length/\vs.length=xs.length/\∀(i:Nat)(c:Value)(x:FV),vs[i]?=some c->xs[i]?=some x->aO G w c x:=by
 intro rs;induction rs with
 |nil=>intro K h;exact⟨[],[],by simp,h,rfl,rfl,by simp⟩
 |cons r rs ih=>
  have fin:∀(K:List FV->Prop){v:Value}{y:FV},(pF a.tmps r).run E.C.P w=.ok v w->aO G w v y->qk E.C S rs (λxs=>K (y::xs))->∃vs xs,((r::rs).mapM (pF a.tmps)).run E.C.P w=.ok vs w/\K xs/\vs.length=(r::rs).length/\vs.length=xs.length/\∀(i:Nat)(c:Value)(x:FV),vs[i]?=some c->xs[i]?=some x->aO G w c x:=λK {v y} h1 h2 h3=>by obtain⟨vs,xs,g1,g2,g3,g4,g5⟩:=ih _ h3;refine⟨v::vs,y::xs,by simp_all,g2,by grind,by grind,λi c x hc hx=>?_⟩;grind
  intro K h;cases r with
  |tmp t=>exact fin K (v:=a.tmps.getD t undef) rfl (aO.get hs t) h
  |cell ad t=>simp only[qk]at h;obtain⟨v,x,h1,h2,h3⟩:=yp hs h;exact fin K h1 h3 h2
theorem zF {vs:List Value}{xs:List FV}(hl:vs.length=xs.length)(h:∀(i:Nat)(c:Value)(x:FV),vs[i]?=some c->xs[i]?=some x->aO G w c x):aO G w (UC vs) (JH xs):=by
 match vs,xs,hl with
  |[v],[x],_=>exact h 0 v x rfl rfl
  |[],[],_=>exact .eS [] [] rfl (by simp)
  |v::u::vs,x::y::xs,hl=>exact .eS (v::u::vs) (x::y::xs) hl h
  |[],_::_,hl=>simp_all
  |[_],[],hl=>simp_all
  |[_],_::_::_,hl=>simp_all
  |_::_::_,[],hl=>simp_all
  |_::_::_,[_],hl=>simp_all
theorem aO.bare {G:aZ}{w:World}{v:Value}{x:FV}(h:aO G w v x){bh:Nat->Nat->Prop}(hi:∀b o,G.bh b o->bh b o):x.safe []=true->aO (bare bh) w v x:=by
 have key:∀{xs:List FV},FV.tS [] xs=true->∀x,x∈xs->x.safe []=true:=by
  intro xs;induction xs with
  |nil=>simp_all
  |cons y ys ih=>intro h x hx;simp only[FV.tS]at h;grind
 induction h with
 |p v x h=>intro _;exact .p v x (h.keep hi (λ_ _ _ _ h=>h) (.refl _ _))
 |agg cs xs hn _ ih=>intro hs;simp only[FV.safe]at hs;exact .agg cs xs hn λi c x h1 h2=>ih i c x h1 h2 (key hs x (bP h2))
 |eS cs xs hn _ ih=>intro hs;simp only[FV.safe]at hs;exact .eS cs xs hn λi c x h1 h2=>ih i c x h1 h2 (key hs x (bP h2))
 |ptr o off b h=>intro hs;simp[FV.safe,gv]at hs
 |gi t T bI xs a c h1 h2=>intro hs;simp[FV.safe,gv]at hs
 |full xs a h=>intro _;exact .full xs a (h.keep hi (λ_ _ _ _ h=>h) (.refl _ _))
 |fn f fs cs first captured hn hn' _ _ ih Gr=>intro hs;simp only[FV.safe]at hs;split at hs;rename_i h1;exact .fn f fs cs first captured hn hn' (λi c x h2 h3=>ih i c x h2 h3 (key h1 x (bP h3))) (λi c x h2 h3=>Gr i c x h2 h3 (key hs x (bP h3)));simp_all
 |lM l k h=>intro hs;simp[FV.safe,gv]at hs
 |fT o T bI n c b h1 h2 h3 h4=>intro hs;simp[FV.safe,gv]at hs
 |sY o x T bI n c b off h1 h2 h0 h3 h4=>intro hs;simp[FV.safe,gv]at hs
 |gB o base off b h=>intro hs;simp[FV.safe,gv]at hs
 |fu o b h=>intro hs;simp[FV.safe,gv]at hs
 |zo o b h=>intro hs;simp[FV.safe,gv]at hs
 |dy v=>intro _;exact .dy v
theorem Wo {xs:List FV}(h:FV.tS [] xs=true):(JH xs).safe []=true:=by
 match xs,h with
  |[],_=>rfl
  |[x],h=>simp only[FV.tS]at h;split at h;assumption;simp_all
  |_::_::_,h=>exact h
theorem UD (hs:bp E G S a w){v:Value}{o bI:Nat}{T:TypeId}(hr:aO G w v (.fT o T bI)){R:fN->Prop}{rest:Option (List AV)}{us:List Value}(h:Yx S o bI λxss=>R (.own rest T bI xss))(hu:∀r,rest=some r->us.length=r.length/\∀(i:Nat)(u:Value)(x:AV),us[i]?=some u->r[i]?=some x->dh G.bh w u x):∃xss,R (.own rest T bI xss)/\nH E.Ec E.w0.heap.size w (ae9 rest v us) (.own rest T bI xss):=by obtain⟨n,c,b,rfl,h1,h2,h3,h4⟩:=hr.Gy;obtain⟨xss,g1,g2,g3⟩:=h;split at g2;rename_i cells hc;obtain⟨hon,hc⟩:=iW hc;obtain⟨t1,t2,⟨cs,fr,tt,-⟩,t3⟩:=hs.fS _ _ _ _ _ h2;obtain⟨-,-,l3⟩:=hs.gD o b h1;have hlen:=(hs.ck o o b _ h1 h2).2.2 cells hc;obtain⟨b',k1,k2⟩:=hs.aD o cells hc;rw[h1]at k1;obtain rfl:=ak k1;obtain⟨k3,k4⟩:=FV.iV g2;have hfl:xss.flatten.length=xss.length*bI:=gG λzs hz=>(g1 zs hz).1;obtain rfl:n=xss.length:=gx h4 oO;have hI:∀{u:Value}{x:AV},dh G.bh w u x->dh (Yk E.Ec E.w0.heap.size b) w u x:=λh=>h.keep (λb' o' hi=>(hs.mX b' o' hi).imp id λh=>⟨h,λe=>(l3 o').1 (e▸hi)⟩) (λ_ _ _ _ h=>h) (.refl _ _);refine⟨xss,g3,b,c,cs,fr,us,rfl,t2,t1,h4,h3,g1,tt,λi=>(l3 i).2,λi hi=>?_,λi x hx=>?_,λr hr=>⟨(hu r hr).1,λi u x q1 q2=>hI ((hu r hr).2 i u x q1 q2)⟩⟩;by_cases hin:i<cells.length;obtain⟨u,q1,-⟩:=k2 i _ (an hin);simp_all;simp_all;obtain⟨y,q1,q2⟩:=k4 i x hx;obtain⟨u,q3,q4⟩:=k2 i y q1;exact⟨u,q3,hI (q4.eW q2)⟩;simp_all
theorem eS (hs:bp E G S a w){fn:Func}{R:fN->Prop}{rs:List ResultVar}(hrs:fn.results.toList=rs)(hn:rs.length≠1)(h:mq E.C S rs λxs=>R (.val (.eS xs))):∃v r,(results fn a.tmps).run E.C.P w=.ok v w/\R r/\nH E.Ec E.w0.heap.size w v r:=by
 obtain⟨vs,xs,g1,g2,g3,g4,g5⟩:=xm hs _ _ h;refine⟨_,_,kS fn a.tmps E.C.P w (hrs▸g1),g2,?_⟩;have :UC vs=Value.tuple vs.toArray:=by
  match vs,g3 with
   |[],_=>rfl
   |[v],g3=>simp_all
   |v::u::r,_=>rfl
 rw[this];exact sn hs (.eS vs xs g4 g5)
theorem Ib (hs:bp E G S a w){fn:Func}{R:fN->Prop}(h:xP E.C fn.results.toList R S):∃v r,(results fn a.tmps).run E.C.P w=.ok v w/\R r/\nH E.Ec E.w0.heap.size w v r:=by
 unfold xP at h;split at h;obtain⟨vs,xs,g1,g2,g3,g4,g5⟩:=nv hs _ _ h;split at g2;rename_i ahD;exact⟨_,_,kS fn a.tmps E.C.P w g1,g2,(zF g4 g5).bare (λb o hi=>hs.mX b o hi) (Wo ahD)⟩;simp_all;split at h;rename_i t hrs;have hrun:(results fn a.tmps).run E.C.P w=.ok (a.tmps.getD t undef) w:=by have :=kS fn a.tmps E.C.P w (vs:=[a.tmps.getD t undef]) (by rw[hrs];rfl);exact this
 have hr:=aO.get hs t;generalize a.tmps.getD t undef=v at hrun hr;split at h;rename_i k T bI xs hg;rw[hg]at hr;rcases h with h|h;refine⟨v,_,hrun,h,?_⟩;cases hr with
 |gi _ _ _ _ ad c h1 h2=>refine⟨ad,c,rfl,?_⟩;rcases h2 with⟨rfl,rfl⟩|⟨b,off,rfl,h3,h4⟩;exact .inl ⟨rfl,rfl,sn hs h1⟩;obtain⟨t1,t2,⟨cs,fr,tt,-⟩,t3⟩:=hs.fS _ _ _ _ _ h4;refine .inr ⟨b,off,cs,fr,rfl,t2,t1,h3,tt,λi hi hi'=>⟨(t3 i hi hi').1,(t3 i hi hi').2.1⟩,?_⟩;refine h1.keep (λb' o hi=>?_) (λ_ _ _ _ h=>h) (.refl _ _);rcases hs.mX b' o hi with h5|h5;simp_all;grind
 exact⟨v,_,hrun,h,sn hs (hr.eW rfl)⟩;rename_i hg;rw[hg]at hr;rcases h with⟨T,bI,h⟩|h;refine⟨v,_,hrun,h,?_⟩;cases hr with
 |full _ ad h1=>exact⟨ad,0,rfl,.inl ⟨rfl,rfl,sn hs h1⟩⟩
 exact⟨v,_,hrun,h,sn hs (hr.eW rfl)⟩;rename_i o hg;rw[hg]at hr;obtain⟨ks,vs,hf,h⟩:=h;obtain⟨G',hs',up⟩:=hs.RS hf;have hu:=up v _ hr;rw[show(FV.fu o).fm o (.mp ks vs)=.p (.mp ks vs)from by simp[FV.fm]]at hu;exact⟨v,_,hrun,h,sn hs' (hu.eW rfl)⟩;rename_i o T bI hg;rw[hg]at hr;obtain⟨xss,g1,g2⟩:=UD hs hr h (rest:=none) (us:=[]) (λr h=>by grind);exact⟨v,_,hrun,g1,g2⟩;split at h;rename_i y hy;exact⟨v,_,hrun,h,sn hs (hr.eW hy)⟩;simp_all;rename_i ad t hrs;obtain⟨v,x,h1,h2,h3⟩:=yp hs h;split at h2;rename_i y hy;exact⟨v,_,kS fn a.tmps E.C.P w (vs:=[v]) (by simp_all),h2,sn hs (h3.eW hy)⟩;simp_all;rename_i t r1 rest hrs;split at h;rename_i o T bI hg;have hr:=aO.get hs t;rw[hg]at hr;obtain⟨vs,xs,g1,g2,g3,g4,g5⟩:=xm hs _ _ h;have h0:(pF a.tmps (.tmp t)).run E.C.P w=.ok (a.tmps.getD t undef) w:=rfl;have key:∀rr:List ResultVar,(rr.mapM (pF a.tmps)).run E.C.P w=.ok vs w->((ResultVar.tmp t::rr).mapM (pF a.tmps)).run E.C.P w=.ok (a.tmps.getD t undef::vs) w:=by simp_all
 have hrun:=kS fn a.tmps E.C.P w (vs:=a.tmps.getD t undef::vs) (by grind);have ht:UC (a.tmps.getD t undef::vs)=ae9 (some xs) (a.tmps.getD t undef) vs:=by match vs,g3 with|u::r,_=>rfl
 rw[ht]at hrun;obtain⟨xss,k1,k2⟩:=UD hs hr g2 (rest:=some xs) (us:=vs) λr h=>by grind
 grind;exact eS hs (rs:=.tmp t::r1::rest) hrs (by simp) h;rename_i VX hn2 hn3;refine eS hs rfl ?_ h;generalize hrr:fn.results.toList=rr at VX hn2 hn3;match rr with
  |[]=>simp
  |[.tmp t]=>simp_all
  |[.cell ad t]=>simp_all
  |_::_::_=>simp
end
section
variable {E:Env}{G:aZ}{S:ag}{a:Act}{w:World}
theorem bp.enter (hs:bp E G S a w){n:Nat}{tmps:Nat->FV}{vals:Array Value}(hn:vals.size=n)(ht:∀i,i<n->aO G w (vals.getD i undef) (tmps i)){lX:Option Nat}(hr:∀l,lX=some l->∃(i:Nat) (r:Loop),E.loops[i]?=some (l,r)):bp {E with lX:=lX,bD:=a.tmps::E.bD,fixed:=marksOf a.defers++E.fixed} G (S.enter n tmps) {tmps:=vals,defers:=[]} w:=by
 refine⟨hs.kept,hn,⟨hs.ext'.mps.env rfl rfl rfl,by simp[ag.enter,hs.ext'.kX],λi vs fr h1 h2=>?_,hs.ext'.jX,hs.ext'.loops,hs.ext'.kZ,hs.ext'.yl,hr,?_,hs.ext'.Af⟩,⟨hs.iY.at_,hs.iY.row,hs.iY.cM⟩,hs.mX,hs.fo,ht,hs.aD,hs.gD,hs.eU,hs.ck,hs.fS,hs.dR⟩;cases i with
 |zero=>simp[ag.enter]at h1 h2;subst h1;subst h2;exact⟨hs.size,hs.tmps⟩
 |succ i=>simp[ag.enter]at h1 h2;exact hs.ext'.bD i vs fr h1 h2
 obtain⟨ms,h1,h2,h3⟩:=hs.ext'.marks;refine⟨[],rfl,?_,?_⟩;simpa[h1,lT]using h2;simpa[h1,lT]using h3
theorem bp.leave {E:Env}{lX:Option Nat}{a':Act}{w':World}{f:Fr}{r:List Fr}{ms:List Nat}(hs:bp {E with lX:=lX,bD:=a.tmps::E.bD,fixed:=marksOf a.defers++E.fixed} G S a' w')(hf:S.bD=f::r)(hd:a.defers=ms.map mark)(hr:∀l,E.lX=some l->∃(i:Nat) (r:Loop),E.loops[i]?=some (l,r)):bp E G {n:=f.n,off:=f.off,tmps:=f.tmps,aD:=S.aD,bD:=r,cm:=S.cm,cz:=S.cz,maps:=S.maps,jg:=S.jg} a w':=by
 obtain⟨h1,h2⟩:=hs.ext'.bD 0 a.tmps f rfl (by simp_all);refine⟨hs.kept,h1,⟨hs.ext'.mps.env rfl rfl rfl,?_,λi vs fr h3 h4=>?_,hs.ext'.jX,hs.ext'.loops,hs.ext'.kZ,hs.ext'.yl,hr,⟨ms,hd,?_,?_⟩,hs.ext'.Af⟩,⟨hs.iY.at_,hs.iY.row,hs.iY.cM⟩,hs.mX,hs.fo,h2,hs.aD,hs.gD,hs.eU,hs.ck,hs.fS,hs.dR⟩;have :=hs.ext'.kX;simp_all;exact hs.ext'.bD (i+1) vs fr (by simp_all) (by simp_all);obtain⟨ms',-,h4,-⟩:=hs.ext'.marks;have h5:(marksOf a.defers++E.fixed).Nodup:=by grind
 rwa[hd,lT]at h5;obtain⟨ms',-,-,h4⟩:=hs.ext'.marks;intro q hq;refine h4 q (sq _ ?_);show q∈marksOf a.defers++E.fixed;rw[hd,lT];omega
theorem Et {K:ag->Prop}(h:S.leave K):∃f r,S.bD=f::r/\K {n:=f.n,off:=f.off,tmps:=f.tmps,aD:=S.aD,bD:=r,cm:=S.cm,cz:=S.cz,maps:=S.maps,jg:=S.jg}:=by unfold ag.leave at h;grind
theorem zG {P:Program}{fn:Func}{tmps:Array Value}{R:Ending->World->Prop}:∀(ms:List Nat){E:Env}{G:aZ}{S:ag}{a:Act}{w:World},E.C.P=P->bp E G S a w->a.tmps=tmps->a.defers=ms.map mark->(∀G a' w',bp E G S a' w'->a'.tmps=tmps->a'.defers=[]->∃v,(results fn tmps).run P w'=.ok v w'/\R (.returned v) w')->LeavesInM Fence.wide 0 P fn tmps R (ms.map mark) .returning w:=by
 intro ms;induction ms with
 |nil=>intro E G S a w hP hs ht hd h;exact h G a w hs ht hd
 |cons m ms ih=>
  intro E G S a w hP hs ht hd h;obtain⟨ms',h1,h2,h3⟩:=hs.ext'.marks;have xo:ms'=m::ms:=by have e1:=aV marksOf h1;rw[hd,lT,lT]at e1;exact e1.symm
  subst xo;obtain⟨h4,h5⟩:=h3 m (by simp);refine⟨by simp,.inl ⟨m,w.putObj m (.deferred none),rfl,run_takeDeferred h5,?_⟩⟩;have JP:=h2;rw[cr,kA]at JP;have hs':bp {E with lX:=E.lX,bD:=E.bD,loops:=E.loops,fixed:=E.fixed} G {S with cm:=S.cm} {a with defers:=ms.map mark} (w.putObj m (.deferred none)):=hs.putObj (o':=.deferred none) (maps:=S.maps) (jg:=S.jg) h5 rfl rfl (.inl h4) (λ⟨es,k,h⟩=>by grind) (λkeep rD hsame=>by refine⟨hs.ext'.mps.yd h5 ⟨λ_ _ h=>(by grind),λ_ _ _ _ h=>(by grind)⟩ keep rD rfl rfl rfl,hs.ext'.kX,λi vs fr q1 q2=>?_,hs.ext'.jX,λi k r st q1 q2=>?_,hs.ext'.kZ,hs.ext'.yl,hs.ext'.lX,⟨ms,rfl,JP.2,λr hr=>?_⟩,hs.ext'.Af.of keep⟩;obtain⟨q3,q4⟩:=hs.ext'.bD i vs fr q1 q2;simp_all;obtain⟨q3,q4⟩:=hs.ext'.loops i k r st q1 q2;grind;grind);grind
end
section
variable {E:Env}{G:aZ}{S:ag}{a:Act}{w:World}
theorem UE:∀(l:List zq)(n:Nat),Hs l n=l[n]?
 |[],n=>by rfl
 |p::l,0=>rfl
 |p::l,n+1=>by simp[Hs,UE l n]
theorem UF:∀(l:List Fr)(n:Nat),ab9 l n=l[n]?
 |[],n=>by rfl
 |p::l,0=>rfl
 |p::l,n+1=>by simp[ab9,UF l n]
theorem MS:∀(l:List zq)(n:Nat)(q:zq),VM l n q=l.set n q
 |[],n,q=>by rfl
 |p::l,0,q=>rfl
 |p::l,n+1,q=>by simp[VM,MS l n q]
theorem Pu (r:Loop)(h1:r.state=.ready)(h2:r.pending=none):zq.ready.of r=r:=by cases r;simp only at h1 h2;subst h1;subst h2;rfl
theorem KR:∀(ps:List Nat)(vals:List Value)(args:List FV)(t:Array Value)(f:Nat->FV)(n:Nat),vals.length=args.length->vals.length=ps.length->t.size=n->(∀i,i<n->aO G w (t.getD i undef) (f i))->(∀(i:Nat)(v:Value)(x:FV),vals[i]?=some v->args[i]?=some x->aO G w v x)->((ps.zip vals).foldl (λt (p,v)=>t.setIfInBounds p v) t).size=n/\∀i,i<n->aO G w (((ps.zip vals).foldl (λt (p,v)=>t.setIfInBounds p v) t).getD i undef) (Oq f ps args i)
 |[],vals,args,t,f,n,h1,h2,h3,h4,h5=>by
  cases args with
  |nil=>exact⟨by simp_all,by simpa[Oq]using h4⟩
  |cons x args=>simp_all
 |p::ps,[],args,t,f,n,h1,h2,h3,h4,h5=>by grind
 |p::ps,v::vals,[],t,f,n,h1,h2,h3,h4,h5=>by simp_all
 |p::ps,v::vals,x::args,t,f,n,h1,h2,h3,h4,h5=>by
  simp only[List.zip_cons_cons,fc,Oq];refine KR ps vals args (t.setIfInBounds p v) _ n (by simp_all) (by simp_all) (by simp_all) (λi hi=>?_) (λi u y hu hy=>h5 (i+1) u y (by simp_all) (by simp_all));have hi':i<t.size:=oO
  by_cases hd:i=p;subst hd;have :Nat.beq i i=true:=by simp
  rw[this];have hv:=h5 0 v x rfl rfl;simp_all;have :Nat.beq i p=false:=by cases hb:Nat.beq i p;rfl;simp_all
  rw[this];have :=h4 i hi;simpa[Array.getD,hi',BY,cU hd]using this
theorem bp.Eu (hs:bp E G S a w){i k:Nat}{r:Loop}{st:zq}(h1:E.loops[i]?=some (k,r))(h2:Hs S.cm i=some st):E.w0.heap.size<=k/\w.heap[k]?=some (.loop (st.of r)):=hs.ext'.loops i k r st h1 (by rw[<-UE];omega)
theorem bp.ahE (hs:bp E G S a w){i k:Nat}{r:Loop}{st st':zq}(h1:E.loops[i]?=some (k,r))(h2:Hs S.cm i=some st):bp E G {S with cm:=VM S.cm i st'} a (w.putObj k (.loop (st'.of r))):=by obtain⟨h3,h4⟩:=hs.Eu h1 h2;refine hs.putObj (o:=.loop (st.of r)) (o':=.loop (st'.of r)) h4 rfl rfl (.inl h3) (λ⟨es,k,h⟩=>by grind) (maps:=S.maps) (jg:=S.jg) (lX:=E.lX) (bD:=E.bD) (loops:=E.loops) (fixed:=E.fixed) (defers:=a.defers) (λkeep rD hsame=>?_);refine⟨hs.ext'.mps.yd h4 ⟨λ_ _ h=>(by grind),λ_ _ _ _ h=>(by grind)⟩ keep rD rfl rfl rfl,hs.ext'.kX,λj vs fr q1 q2=>?_,by simp only[MS,CE];exact hs.ext'.jX,λj k' r' st2 q1 q2=>?_,hs.ext'.kZ,hs.ext'.yl,hs.ext'.lX,?_,hs.ext'.Af.of keep⟩;obtain⟨q3,q4⟩:=hs.ext'.bD j vs fr q1 q2;simp_all;simp only[MS]at q2;by_cases hj:j=i;grind;rw[vP (cU hj)]at q2;obtain⟨q3,q4⟩:=hs.ext'.loops j k' r' st2 q1 q2;refine⟨q3,rD _ _ (λe=>?_) q4⟩;subst e;exact hj (hs.ext'.kZ j i k' r' r q1 h1);obtain⟨ms,q1,q2,q3⟩:=hs.ext'.marks;grind
theorem bp.Zk (hs:bp E G S a w){l:Nat}{rec:Loop}{ms:List Nat}(hl:w.heap[l]?=some (.loop (zq.ready.of rec)))(hw0:E.w0.heap.size<=l)(hnew:∀(i k:Nat)(r:Loop),E.loops[i]?=some (k,r)->k≠l)(xo:∀m,m∈ms->E.w0.heap.size<=m/\w.heap[m]?=some (.deferred (some [])))(JP:(ms++(marksOf a.defers++E.fixed)).Nodup):∃G',bp {E with loops:=E.loops++[(l,rec)]} G' {S.kill (1000000+S.cm.length)with cm:=S.cm++[.ready]} {a with defers:=ms.map mark++a.defers} w/\G'.yl (1000000+S.cm.length)=some l/\∀v x,aO G w v x->aO G' w v (x.kill (1000000+S.cm.length)):=by
 generalize hlv:S.cm.length=lvl;have anc:lvl=E.loops.length:=hlv▸hs.ext'.jX;let G':aZ:={G.free (1000000+lvl)with yl:=λn=>if n=1000000+lvl then some l else G.yl n};have up:∀v x,aO G w v x->aO G' w v (x.kill (1000000+lvl)):=λv x h=>h.kill _ rfl (λo b h h'=>by simp only[G',aZ.free];simp_all) (λt r h h'=>by simp only[G',aZ.free];simp_all) (λn k h h'=>by grind) (hmp:=aZ.om.1) (hit:=aZ.om.2.2.1);have Hv:lN (FV.kill (1000000+lvl)) G G' S (S.kill (1000000+lvl)) w:=.kill _ rfl aZ.om.1 aZ.om.2.1 aZ.om.2.2.1 aZ.om.2.2.2 (λo b h=>by simp only[G',aZ.free]at h;simp_all);have h1:=hs.kill (1000000+lvl);have up2:∀v x,aO (G.free (1000000+lvl)) w v x->(∀k,x≠.lM k)->True:=by simp
 refine⟨G',⟨h1.kept,h1.size,⟨(hs.ext'.mps.move _ up (.refl _) Hv).env rfl rfl rfl,?_,λi vs fr q1 q2=>?_,?_,λi k r st q1 q2=>?_,λi j k r r' q1 q2=>?_,λi k r q1 k' q2=>?_,λq hq=>?_,?_,hs.ext'.Af⟩,⟨h1.iY.at_,h1.iY.row,h1.iY.cM⟩,h1.mX,h1.fo,λi hi=>up _ _ (hs.tmps i hi),λo cells ho=>?_,h1.gD,h1.eU,h1.ck,h1.fS,h1.dR⟩,by grind,up⟩;exact h1.ext'.kX;have q2':(xH (FV.kill (1000000+lvl)) S.bD)[i]?=some fr:=q2;rw[He,aJ]at q2';cases hx:S.bD[i]?with
 |none=>simp_all
 |some fr0=>simp[hx]at q2';subst q2';obtain⟨q3,q4⟩:=hs.ext'.bD i vs fr0 q1 hx;exact⟨q3,λj hj=>up _ _ (q4 j hj)⟩
 simp_all;by_cases hi:i<E.loops.length;rw[cV hi]at q1;rw[cV oO]at q2;exact hs.ext'.loops i k r st q1 q2;grind;have uc:∀(i k:Nat)(r:Loop),(E.loops++[(l,rec)])[i]?=some (k,r)->(i<E.loops.length/\E.loops[i]?=some (k,r))\/(i=E.loops.length/\k=l):=λi k r q=>by grind
 rcases uc i k r q1 with⟨-,e1⟩|⟨e1,e2⟩<;>rcases uc j k r' q2 with⟨-,e3⟩|⟨e3,e4⟩;exact hs.ext'.kZ i j k r r' e1 e3;grind;grind;omega;simp only[G']at q2;by_cases hi:i<E.loops.length;rw[cV hi]at q1;rw[aa oO]at q2;exact hs.ext'.yl i k r q1 k' q2;grind;obtain⟨i,r,q1⟩:=hs.ext'.lX q hq;exact⟨i,r,by grind⟩;obtain⟨ms',q1,q2,q3⟩:=hs.ext'.marks;rw[q1,lT]at JP;grind;obtain⟨hne,cs,q2,rfl⟩:=kQ ho;obtain⟨b,q3,q4⟩:=hs.aD o cs q2;refine⟨b,by simp only[G',aZ.free];simp_all,λi x hx=>?_⟩;rw[FV.fE,aJ]at hx;grind
theorem bp.acF {l:Nat}{rec:Loop}{st:zq}(hs:bp {E with loops:=E.loops++[(l,rec)]} G S a w)(hst:Hs S.cm E.loops.length=some st)(hr:∀q,E.lX=some q->∃(i:Nat) (r:Loop),E.loops[i]?=some (q,r)){o':Loop}:bp E G {S with cm:=S.cm.take E.loops.length} a (w.putObj l (.loop o')):=by
 have h0:(E.loops++[(l,rec)])[E.loops.length]?=some (l,rec):=by rw[eu (av _)];simp
 obtain⟨h3,h4⟩:=hs.Eu h0 hst;refine hs.putObj (o:=.loop (st.of rec)) (o':=.loop o') h4 rfl rfl (.inl h3) (λ⟨es,k,h⟩=>by grind) (maps:=S.maps) (jg:=S.jg) (lX:=E.lX) (bD:=E.bD) (loops:=E.loops) (fixed:=E.fixed) (defers:=a.defers) (λkeep rD hsame=>?_);have hlen:S.cm.length=E.loops.length+1:=by have :=hs.ext'.jX;simpa using this
 have hin:∀(i k:Nat)(r:Loop),E.loops[i]?=some (k,r)->(E.loops++[(l,rec)])[i]?=some (k,r):=λi k r q=>by grind
 refine⟨hs.ext'.mps.yd h4 ⟨λ_ _ h=>(by grind),λ_ _ _ _ h=>(by grind)⟩ keep rD rfl rfl rfl,hs.ext'.kX,λj vs fr q1 q2=>?_,by simp_all,λj k' r' st2 q1 q2=>?_,λi j k r r' q1 q2=>hs.ext'.kZ i j k r r' (hin _ _ _ q1) (hin _ _ _ q2),λi k r q1=>hs.ext'.yl i k r (hin _ _ _ q1),hr,?_,hs.ext'.Af.of keep⟩;obtain⟨q3,q4⟩:=hs.ext'.bD j vs fr q1 q2;simp_all;have hj:=(aG.1 q1).1;rw[Cn hj]at q2;obtain⟨q3,q4⟩:=hs.ext'.loops j k' r' st2 (hin _ _ _ q1) q2;refine⟨q3,rD _ _ (λe=>?_) q4⟩;subst e;exact absurd (hs.ext'.kZ j E.loops.length k' r' rec (hin _ _ _ q1) h0) (Nat.ne_of_lt hj);obtain⟨ms,q1,q2,q3⟩:=hs.ext'.marks;grind
def Ic (c:Code):Prop:=∀{E:Env}{call:iG}{Y:ov},mC E.C call->eA E Y->∀{Q:Exit->ag->Prop}{S:ag}{a:Act}{w:World},xD E.C call Y c Q S->mY E S a w->c.wpIn E.je 0 E.C.P (λe a' w'=>∃S',Q e S'/\mY E S' a' w') a w
theorem Pv {E:Env}{call:iG}{Y:ov}(dm:mC E.C call)(hY:eA E Y){assign body:Code}(ha:Ic assign)(hb:Ic body){a1:Act}{l:Nat}{rec:Loop}{Zl:List Nat}(hrt:rec.tmps=a1.tmps)(hra:rec.assign=assign)(hrb:rec.body=body)(hr1:rec.state=.ready)(Zm:rec.pending=none):eA {E with lX:=none,bD:=a1.tmps::E.bD,loops:=E.loops++[(l,rec)],fixed:=Zl} (vG Y (xD E.C call Y assign) (xD E.C call Y body) rec.params.toList E.loops.length E.bD.length):=by
 intro lX xs ls fixed G S a w ln k args K vals hs hk h hlen nO;have e1:xs++a1.tmps::E.bD=(xs++[a1.tmps])++E.bD:=by simp
 have e2:(E.loops++[(l,rec)])++ls=E.loops++([(l,rec)]++ls):=by simp
 unfold vG at h;split at h;have hY':=hY lX (xs++[a1.tmps]) ([(l,rec)]++ls) fixed G S a w ln k args K vals;grind;rename_i hln;obtain rfl:=aK hln;split at h;rename_i fr hp hfr;obtain⟨hargs,h⟩:=h;have hargs:=aK hargs;have hidx:((E.loops++[(l,rec)])++ls)[E.loops.length]?=some (l,rec):=by rw[cV (by simp),eu (av _)];simp
 obtain rfl:=hs.ext'.yl E.loops.length l rec hidx k hk;obtain⟨Sg,hk2⟩:=hs.Eu hidx hp;rw[Pu rec hr1 Zm]at hk2;have akn:S.bD[xs.length]?=some fr:=by
  unfold Yv at hfr;rw[UF,hs.ext'.kX]at hfr;have :(xs++a1.tmps::E.bD).length-E.bD.length-1=xs.length:=by simp;omega
  rw[this]at hfr;exact hfr
 obtain⟨hsz,htm⟩:=hs.ext'.bD xs.length a1.tmps fr (by simp) akn;have hy:=run_yield (P:=E.C.P) (args:=vals.toArray) hk2 (by simp_all);refine⟨_,_,_,_,hy,?_⟩;have VV:vals.length=rec.params.toList.length:=by rw[hlen,hargs]
 have hts:=KR (G:=G) (w:=w) rec.params.toList vals args a1.tmps fr.tmps fr.n hlen VV hsz htm nO;have ahG:(rec.params.zip vals.toArray).foldl (λtmps x=>match x with|(t,a)=>tmps.setIfInBounds t a) rec.tmps=(rec.params.toList.zip vals).foldl (λt (p,v)=>t.setIfInBounds p v) a1.tmps:=by rw[<-Array.foldl_toList,hrt];simp
 rw[ahG,hra,hrb];have hrnd:∀q,(some k:Option Nat)=some q->∃(i:Nat) (r:Loop),((E.loops++[(k,rec)])++ls)[i]?=some (q,r):=λq hq=>by grind
 have hs1:=hs.enter (n:=fr.n) (vals:=(rec.params.toList.zip vals).foldl (λt (p,v)=>t.setIfInBounds p v) a1.tmps) hts.1 hts.2 (lX:=some k) hrnd;have hYr:eA {E with lX:=some k,bD:=a.tmps::(xs++a1.tmps::E.bD),loops:=(E.loops++[(k,rec)])++ls,fixed:=marksOf a.defers++fixed} Y:=by
  have :=hY.later (some k) (a.tmps::(xs++[a1.tmps])) ([(k,rec)]++ls) (marksOf a.defers++fixed);rw[<-e2]at this;have e3:(a.tmps::(xs++[a1.tmps]))++E.bD=a.tmps::(xs++a1.tmps::E.bD):=by simp
  rw[e3]at this;exact this
 have hA:=ha (E:={E with lX:=some k,bD:=a.tmps::(xs++a1.tmps::E.bD),loops:=(E.loops++[(k,rec)])++ls,fixed:=marksOf a.defers++fixed}) dm hYr h ⟨_,hs1⟩;refine roundIn_of_wpIn (F:=Fence.wide) trivial (wpIn_mono hA ?_);rintro e a2 w2 ⟨S2,hq,G2,hs2⟩;cases e with
 |normal=>
  simp only[tR,Up]at hq;split at hq;rename_i hp2;obtain⟨-,hk3⟩:=hs2.Eu hidx hp2;refine⟨_,run_beginRound hk3 rfl,?_⟩;have hs3:=hs2.ahE (st':=.busy) hidx hp2;have hB:=hb (E:={E with lX:=some k,bD:=a.tmps::(xs++a1.tmps::E.bD),loops:=(E.loops++[(k,rec)])++ls,fixed:=marksOf a.defers++fixed}) dm hYr hq ⟨_,hs3⟩;refine wpIn_mono hB ?_;obtain⟨ms,xo,-,-⟩:=hs.ext'.marks;have fin:∀{st:zq}{b:Bool}{jump:Option Code}{S4:ag}{a4:Act}{w4:World},xO E.loops.length st (K (.p (.bool b))) S4->mY {E with lX:=some k,bD:=a.tmps::(xs++a1.tmps::E.bD),loops:=(E.loops++[(k,rec)])++ls,fixed:=marksOf a.defers++fixed} S4 a4 w4->jump.isNone=b->(Loop.mk (if jump.isNone then LoopState.ready else .done) jump rec.fn rec.tmps rec.params rec.assign rec.body rec.defers)=st.of rec->∃v w',(Instr.endRound k jump).run E.C.P w4=.ok v w'/\∃v_1 x G' S',Ending.returned v=.returned v_1/\K x S'/\bp {E with lX:=lX,bD:=xs++a1.tmps::E.bD,loops:=(E.loops++[(k,rec)])++ls,fixed:=fixed} G' S' a w'/\aO G' w' v_1 x:=λ{st b jump S4 a4 w4} hq4 ⟨G4,hs4⟩ hj ako=>by unfold xO at hq4;split at hq4;rename_i hp4;obtain⟨-,hk4⟩:=hs4.Eu hidx hp4;obtain⟨f,r,hf,hK⟩:=Et hq4;have hs5:=hs4.ahE (st':=st) hidx hp4;have hs6:=bp.leave (E:={E with lX:=lX,bD:=xs++a1.tmps::E.bD,loops:=(E.loops++[(k,rec)])++ls,fixed:=fixed}) (a:=a) (lX:=some k) (ms:=ms) hs5 hf xo hs.ext'.lX;have hend:=run_endRound (P:=E.C.P) jump hk4;refine⟨_,_,hend,.bool jump.isNone,_,G4,_,rfl,hK,?_,.p _ _ (hj▸.bool _)⟩;have :({zq.of rec .busy with state:=if jump.isNone then LoopState.ready else .done,pending:=jump}:Loop)=st.of rec:=ako;simp_all;simp_all
  rintro e a4 w4 ⟨S4,hq4,hs4⟩;cases e with
  |normal=>exact fin (jump:=none) hq4 hs4 rfl rfl
  |ret=>exact fin (jump:=some .ret) hq4 hs4 rfl rfl
  |exit id=>exact fin (jump:=some (.exit id)) hq4 hs4 rfl rfl
  |_=>exact hq4.elim
  simp_all
 |_=>exact hq.elim
 grind
end
section
variable {E:Env}{G:aZ}{S:ag}{a:Act}{w:World}{C:Ctx}{ops:Array Oper}
def ahJ (m:Nat)(l:Array Bool):Prop:=∀j,j<m->l.getD j true=true
def Zn (C:Ctx)(ops:Array Oper)(m:Nat)(T:Array Bool->ag->Prop):Nat->Array Bool->ag->Prop|0,l,S=>ahJ m l/\T l S|f+1,l,S=>Region.ready .any ops l≠[]/\∀i,i∈Region.ready .any ops l->i<m/\∃o,ops[i]?=some o/\lC C ops o (Zn C ops m T f (l.setIfInBounds i true)) S
theorem Sh {m:Nat}{T:Array Bool->ag->Prop}{Q:Exit->Act->World->Prop}(hT:∀l S a w,T l S->mY E S a w->wpAnyIn E.je 0 E.C.P .any ops Q 5 l a w):∀(f:Nat)(l:Array Bool)(S:ag)(a:Act)(w:World),mY E S a w->Zn E.C ops m T f l S->wpAnyIn E.je 0 E.C.P .any ops Q (f+5) l a w:=by
 intro f;induction f with
 |zero=>intro l S a w hs h;exact hT _ _ _ _ h.2 hs
 |succ f ih=>intro l S a w hs h;rw[show f+1+5=(f+5)+1 by omega];refine⟨λh0=>absurd h0 h.1,λi hi=>?_⟩;obtain⟨-,o,ho,hq⟩:=h.2 i hi;unfold wpOpIn;simp only[ho];exact ua hs hq λS a w hk hs'=>ih _ _ _ _ hs' hk
theorem Si {m:Nat}{T:Array Bool->ag->Prop}{i:Nat}{oi:Oper}{x:FV}(hi:ops[i]?=some oi)(him:i<m):∀(f:Nat)(listed:Array Bool)(S:ag),qw ops listed->(∀j oj,ops[j]?=some oj->j≠i->listed.getD j true=false->td ops ops.size j i=true\/(decide (j<m)=true/\oi.apart ops oj=true))->i∈Region.ready .any ops listed->jM C ops oi x S->Zn C ops m T f (listed.setIfInBounds i true) (S.put oi.dst x)->Zn C ops m T (f+1) listed S:=by
 intro f;induction f with
 |zero=>
  intro listed S mG hfree hr hy H;refine⟨λh=>(by grind),λj hj=>?_⟩;by_cases hji:j=i;subst hji;exact⟨him,oi,hi,hy.lC H⟩;exfalso;obtain⟨MO,oj,Wg,hall⟩:=mem_ready.1 hj;rcases hfree j oj Wg hji MO with hre|⟨hjm,hap⟩;have h2:=mG.reach _ _ _ hre λo ho=>by grind
  rw[CA (mem_ready.1 hr).1]at h2;cases h2;have :=H.1 j (by grind);rw[getD_set_ne true (cU hji)]at this;grind
 |succ f ih=>
  intro listed S mG hfree hr hy H;refine⟨λh=>(by grind),λj hj=>?_⟩;by_cases hji:j=i;subst hji;exact⟨him,oi,hi,hy.lC H⟩;obtain⟨akp,oj,Wg,h1⟩:=H.2 j (ready_mono hj hji);obtain⟨MO,oj',ani,hall⟩:=mem_ready.1 hj;rcases hfree j oj Wg hji MO with hre|⟨hjm,hap⟩;have h2:=mG.reach _ _ _ hre λo ho=>by grind
  rw[CA (mem_ready.1 hr).1]at h2;cases h2;have h2:=KP hap hy h1;have HV:∀k ok,ops[k]?=some ok->k≠i->(listed.setIfInBounds j true).getD k true=false->td ops ops.size k i=true\/(decide (k<m)=true/\oi.apart ops ok=true):=λk ok hk hki hun=>by refine hfree k ok hk hki ?_;by_cases hjk:j=k;grind;rw[getD_set_ne true hjk]at hun;exact hun
  obtain⟨y,hy2,h3⟩:=iO h2;refine⟨akp,oj,Wg,hy2.lC (ih (listed.setIfInBounds j true) _ (mG.set hj) HV (ready_mono hr (cU hji)) h3.1 ?_)⟩;rw[CB _ _ hji];exact h3.2
theorem Zo {K:ag->Prop}:∀(l:List Oper)(k:Nat)(listed:Array Bool)(S:ag),qw ops listed->(∀j,j<l.length->l[j]?=ops[k+j]?)->BR ops l.length k listed=true->Gw C ops l K S->Zn C ops (k+l.length) (λl' S'=>xN ops (k+l.length) l'=true/\K S') l.length listed S:=by
 intro l;induction l with
 |nil=>intro k listed S _ _ hB h;simp only[bA,BR,aR,br,fA]at hB;exact⟨λj hj=>hB.2 j hj,hB.1,h⟩
 |cons o l ih=>
  intro k listed S mG hl hB h;have h0:ops[k]?=some o:=by simpa using(hl 0 (by simp)).symm
  simp only[aS,BR,aR]at hB;obtain⟨⟨hr,hf⟩,hB'⟩:=hB;have hr':k∈Region.ready .any ops listed:=by simpa using hr
  obtain⟨x,hy,hK⟩:=iO (HT h);have e:k+(o::l).length=k+1+l.length:=by simp only[aS];omega
  rw[e];refine Si h0 oO l.length listed S mG (λj oj hj hne hun=>?_) hr' hy ?_;have :=Bf h0 hf j oj hj hne hun;rw[show k+(l.length+1)=k+1+l.length by omega]at this;exact this;exact ih (k+1) _ _ (mG.set hr') (λj hj=>by have :=hl (j+1) (by simpa using hj);simpa[fK,nc 1 j]using this) hB' hK
theorem wpOp_step {Q:Exit->Act->World->Prop}{i:Nat}{o:Oper}{a':Act}{w':World}{K:Act->World->Prop}(ho:ops[i]?=some o)(hg:o.guard=none)(hs:Az E Q o a w a' w')(h:K a' w'):wpOpIn E.je 0 E.C.P ops Q i K a w:=by unfold wpOpIn;simp only[ho];rw[af (by simp[Region.wanted,hg])];exact hs _ h
theorem Zp {m:Nat}{K:ag->Prop}{Q:Exit->Act->World->Prop}(hQ:∀S' a' w',K S'->mY E S' a' w'->Q .normal a' w')(hm:∀j,(ops.toList.drop m)[j]?=ops[m+j]?){l:Array Bool}(ht:xN ops m l=true)(h:uu E.C (ops.toList.drop m) K S)(hs:mY E S a w):wpAnyIn E.je 0 E.C.P .any ops Q 5 l a w:=by
 obtain⟨G,hs⟩:=hs;obtain⟨o1,o2,o3,o4,o5,a1,a2,a3,a4,a5,b3,c2,w1,w2,w3,hl,⟨g1,g2,g3,g4,g5⟩,s1,s2,s3,s4,s5,q,s6,s7,s8,s9⟩:=HO hQ h hs;have i1:ops[m]?=some o1:=by have :=hm 0;rw[hl]at this;simpa using this.symm
 have i2:ops[m+1]?=some o2:=by have :=hm 1;rw[hl]at this;simpa using this.symm
 have i3:ops[m+2]?=some o3:=by have :=hm 2;rw[hl]at this;simpa using this.symm
 have i4:ops[m+3]?=some o4:=by have :=hm 3;rw[hl]at this;simpa using this.symm
 have i5:ops[m+4]?=some o5:=by have :=hm 4;rw[hl]at this;simpa using this.symm
 simp only[xN,aR,beq_iff_eq]at ht;obtain⟨⟨⟨⟨⟨⟨⟨⟨⟨⟨⟨⟨r0,ra⟩,rb⟩,rb2⟩,rb3⟩,rb4⟩,rc⟩,rc2⟩,rc3⟩,rd⟩,rd1⟩,rd2⟩,rd3⟩:=ht;refine wpAnyIn_all r0 (by simp) λi hi=>?_;obtain rfl:=aL.1 hi;refine wpOp_step i1 g1 s1 (wpAnyIn_all ra (by simp) λi hi=>?_);rcases aC.1 hi with rfl|hi;refine wpOp_step i2 g2 s2 (wpAnyIn_all rb (by simp) λi hi=>?_);rcases aC.1 hi with rfl|hi;refine wpOp_step i3 g3 s3 (wpAnyIn_all rb2 (by simp) λi hi=>?_);obtain rfl:=aL.1 hi;refine wpOp_step i4 g4 s4 (wpAnyIn_all rb3 (by simp) λi hi=>?_);obtain rfl:=aL.1 hi;exact wpOp_step i5 g5 s5 (wpAnyIn_done rb4 q _);obtain rfl:=aL.1 hi;refine wpOp_step i4 g4 s6 (wpAnyIn_all rc (by simp) λi hi=>?_);obtain rfl:=aL.1 hi;refine wpOp_step i3 g3 s7 (wpAnyIn_all rc2 (by simp) λi hi=>?_);obtain rfl:=aL.1 hi;exact wpOp_step i5 g5 s5 (wpAnyIn_done rc3 q _);obtain rfl:=aL.1 hi;refine wpOp_step i4 g4 s8 (wpAnyIn_all rd (by simp) λi hi=>?_);obtain rfl:=aL.1 hi;refine wpOp_step i2 g2 s9 (wpAnyIn_all rd1 (by simp) λi hi=>?_);obtain rfl:=aL.1 hi;refine wpOp_step i3 g3 s7 (wpAnyIn_all rd2 (by simp) λi hi=>?_);obtain rfl:=aL.1 hi;exact wpOp_step i5 g5 s5 (wpAnyIn_done rd3 q _)
theorem JR {call:iG}{Y:ov}(dm:mC E.C call)(hY:eA E Y){id:Nat}{ops:Array Oper}{draw:Bool}{K:ag->Prop}{Q:Exit->Act->World->Prop}(hQ:∀S a w,K S->mY E S a w->Q .normal a w)(hs:mY E S a w)(h:Gx E.C call Y ops draw K S):(Code.region id ops draw).wpIn E.je 0 E.C.P Q a w:=by
 cases draw with
 |false=>exact HQ dm hY hQ hs rfl h
 |true=>
  obtain⟨hd,h⟩:=h;simp only[BS,aR]at hd;have h5:=gW hd.1;obtain⟨m,hm⟩:∃m,m=ops.size-5:=⟨_,rfl⟩;rw[<-hm]at h hd;have hl:(ops.toList.take m).length=m:=by simp;omega
  have :=Zo (C:=E.C) (ops:=ops) (K:=uu E.C (ops.toList.drop m) K) (ops.toList.take m) 0 (Array.replicate ops.size false) S ⟨by simp,λp o hp hl=>by have :p<ops.size:=(bq.1 hp).1;simp[this]at hl⟩ (λj hj=>by rw[hl]at hj;simp[wm,hj]) (by rw[hl];exact hd.2) h;rw[hl,dn]at this;refine wpIn_region_any E.C.mixed ?_;rw[show ops.size=m+5 by omega];refine Sh (m:=m) (ops:=ops) (T:=λl' S'=>xN ops m l'=true/\uu E.C (ops.toList.drop m) K S') (λl S a w ht hs=>Zp (m:=m) (ops:=ops) hQ (λj=>by simp[jV]) ht.1 ht.2 hs) m (Array.replicate (m+5) false) S _ _ (let⟨G,hs⟩:=hs;⟨G,hs.drew⟩) ?_;rw[show m+5=ops.size by omega];exact this
end
end Qv
