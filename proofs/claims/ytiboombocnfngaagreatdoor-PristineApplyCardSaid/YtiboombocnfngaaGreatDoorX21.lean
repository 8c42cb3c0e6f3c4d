/- Part 27 of the proof: its lemmas. No condition. -/
import Derived.Test.YtiboombocnfngaaGreatDoorX1
import Derived.Test.YtiboombocnfngaaGreatDoorX3
import Derived.Test.YtiboombocnfngaaGreatDoorX4
import Derived.Test.YtiboombocnfngaaGreatDoorX7
import Derived.Test.YtiboombocnfngaaGreatDoorX8
import Derived.Test.YtiboombocnfngaaGreatDoorX9
import Derived.Test.YtiboombocnfngaaGreatDoorX12
import Derived.Test.YtiboombocnfngaaGreatDoorX18
set_option maxRecDepth 10000
set_option maxHeartbeats 80000000
set_option linter.all false
open Go Go.Proofs Go.RowKit
namespace Qv
def sY (l:List yb):List (Dg×AV):=l.map λk=>(k.id,.sl (pe k.cS))
def sZ (l:List bR):List (bQ×AV):=l.map λa=>(a.id,.agg (cA a))
def GZ (x:jj):List AV:=[kMp wD (sY x.pats),kMp wI (sZ x.atoms)]
structure Uz (x:jj):Prop where
 pats:(x.pats.map λk=>k.id).Nodup
 atoms:(x.atoms.map λa=>a.id).Nodup
 lp:x.pats.length<=2^20
 la:x.atoms.length<=2^28
theorem Sb {α κ:Type}{g:α->κ}{l:List α}(h:(l.map g).Nodup){k:Nat}(hk:k<l.length):g l[k]∉(l.take k).map g:=by intro hm;obtain⟨y,hy,e⟩:=aJ.1 hm;obtain⟨i,hi,rfl⟩:=fS hy;rw[aR]at hi;rw[Eg]at e;have :=(iH.1 h) i k (by rw[aj];omega) (by rw[aj];exact hk) oO;rw[qA,qA]at this;exact this e
theorem UA {x:jj}(h:Uz x):av C 42 [.agg (ij x)] (λr=>r=.val (.agg (GZ x))):=by
 obtain⟨hp,ha,hlp,hla⟩:=h;obtain⟨ps,ats⟩:=x;simp only at hp ha hlp hla;unfold ij GZ;refine qO {qZ with frm:=[7,12]} [] Tryz.func42 rfl rfl rfl ?_;refine yE 39 0 (λk:Nat=>[(1,.ptr 1 0),(2,.ptr 2 0),(3,.ptr 3 0),(12,.p (.sl (ps.map gi))),(13,.p (.int .i64 ((ps.map gi).length:Int))),(14,.p (.int .i64 (k:Int)))]) (λ_=>[(1,[.p (.sl (ps.map gi)),.p (.sl (gI ats))]),(3,[.gw 8,.gw 9]),(2,[.p .wM,.p .wM])]) (λ_=>[]) [] (λ_=>[]) (λk=>[(8,kE wD (sY (ps.take k))),(9,[])]) (λ_=>[]) (λk=>k<=ps.length) (λk=>ps.length-k) 0 zL kK wS oS trivial trivial ⟨iM rfl rfl,iM rfl rfl,trivial⟩ trivial ?_;intro k hk;refine cq (λhlt=>?_) (λhge=>?_);have hnot:=Sb hp hlt;have hts:sY (ps.take (k+1))=uN (sY (ps.take k)) ps[k].id (.sl (pe ps[k].cS)):=by rw[Wg (by unfold sY;rw[fP];exact hnot)];unfold sY;rw[cV hlt]
 refine ix hlt ?_;generalize ps[k]=p at hts;refine⟨sC,ct,wD.fits p.id,(by simp only[bL];exact je wD _),kE wD (sY (ps.take (k+1))),(by simp only[bL];rw[hts];exact ye wD _ p.id _),?_⟩;exact nx (k+1) (rF (k+1) hlt oO kK wS oS trivial trivial ⟨iM rfl (by simp only[bL]),iM rfl rfl,trivial⟩ trivial);obtain rfl:k=ps.length:=oO
 rw[aV];refine .inl ⟨8,kY wD (sY ps),kV (sY ps),⟨kE wD (sY ps),rfl,HB wD _,HC wD _⟩,?_⟩;refine yE 39 0 (λk:Nat=>[(1,.ptr 1 0),(2,.ptr 2 0),(3,.ptr 3 0),(26,.p (.sl (ats.map cA))),(27,.p (.int .i64 ((ats.map cA).length:Int))),(28,.p (.int .i64 (k:Int)))]) (λ_=>[(3,[.p (kMp wD (sY ps)),.gw 9]),(2,[.p .wM,.p .wM])]) (λ_=>[]) [] (λ_=>[]) (λk=>[(9,kE wI (sZ (ats.take k)))]) (λ_=>[]) (λk=>k<=ats.length) (λk=>ats.length-k) 0 zL kK wS oS trivial trivial ⟨iM rfl rfl,trivial⟩ trivial ?_;intro k hk;refine cq (λhlt=>?_) (λhge=>?_);have hnot:=Sb ha hlt;have hts:kE wI (sZ (ats.take (k+1)))=kE wI (sZ (ats.take k))++[(.agg (cI ats[k].id),.p (.agg (cA ats[k])))]:=by unfold sZ kE;rw[cV hlt,aD];rfl
 have hnot:ats[k].id∉(sZ (ats.take k)).map (·.1):=by unfold sZ;rw[fP];exact hnot
 refine ix hlt ?_;generalize ats[k]=p at hts hnot;refine⟨Po,lz,wI.fits p.id,(by simp only[bL];exact je wI _),kE wI (sZ (ats.take k))++[(.agg (cI p.id),.agg (aH (cA p)))],(by simp only[bL];exact ack wI hnot),?_⟩;exact nx (k+1) (rF (k+1) hlt oO kK wS oS trivial trivial ⟨Yk rfl hts (λG w v h=>.p _ _ (h.fA kK)),trivial⟩ trivial);obtain rfl:k=ats.length:=oO
 rw[aV];exact .inl ⟨9,kY wI (sZ ats),kV (sZ ats),⟨kE wI (sZ ats),rfl,HB wI _,HC wI _⟩,rfl⟩
theorem JU (x:jj)(d:Dg):av C 43 [.agg (cD d),.imp (GZ x)] (λr=>r=.val (.bool (!decide (d∈lN x)))):=by
 unfold GZ kMp;refine qO qZ [] Tryz.func43 rfl rfl rfl ?_;have hf:jC (sY x.pats) d=(x.pats.find? λk=>decide (k.id=d)).map λk=>.sl (pe k.cS):=CB x.pats d;cases hx:x.pats.find? λk=>decide (k.id=d)with
 |some k=>rw[hx]at hf;have hm:d∈lN x:=aJ.2 ⟨k,lD hx,by have :=jN hx;simpa using this⟩;refine⟨sC,ct,wD.fits d,(by rw[show rY _ _=_ from nQ wD (sY x.pats)];exact je wD _),some (.p (.sl (pe k.cS))),(by rw[show rY _ _=_ from nQ wD (sY x.pats)];exact(rV wD _ d).trans (by rw[hf];rfl)),?_⟩;refine bF ?_;rw[ah hm];exact rfl
 |none=>
  rw[hx]at hf;have hm:d∉lN x:=λhm=>by obtain⟨k,hk,e⟩:=aJ.1 hm;have :=ow.1 hx k hk;simp[e]at this
  refine⟨sC,ct,wD.fits d,(by rw[show rY _ _=_ from nQ wD (sY x.pats)];exact je wD _),none,(by rw[show rY _ _=_ from nQ wD (sY x.pats)];exact(rV wD _ d).trans (by rw[hf];rfl)),.slice none 0 0,kK,?_⟩;refine bF ?_;rw[ai hm];exact rfl
theorem Uy {p:gr}(h:nI p=false):(di p).1.length<=80020:=by
 have hc:p.changes.length<=20:=by unfold nI at h;simp only[mO,decide_eq_false_iff_not]at h;omega
 have hb:=(Ac p.changes [] λa h=>by cases h).1;rw[bt]at hb;unfold di;repeat' split
 all_goals first|exact zL|omega
theorem uf {α:Type}{P:α->Bool}{a:α}:∀{l:List α},a∈l->P a=true->(∀b,b∈l->P b=true->b=a)->l.find? P=some a
 |b::l,hm,hp,hu=>by
  rw[qK];cases hb:P b with
  |true=>rw[hu b (.head _) hb]
  |false=>
   have hm:a∈l:=(aL.1 hm).resolve_left λe=>by rw[<-e,hp]at hb;cases hb
   exact uf hm hp λc hc=>hu c (.tail _ hc)
theorem ach {s D:List fD}(h:HA s)(hD:∀y,y∈D->y∈s){i:bQ}(hi:i.p∈D.map λy=>y.id):gJ (sM D) i=mA s i:=by
 obtain⟨y,hy,hyi⟩:=aJ.1 hi;have hys:=hD y hy;have hg:wC s i.p=(y.pat,true):=by rw[<-hyi];exact sw h.ok.Hy hys
 have only:∀b,b∈(D.flatMap λx=>iB x.pat)->b.id=i->∃k,∃hk:k<(iB y.pat).length,b=(iB y.pat)[k]/\(k:Int)=i.n:=λb hb e=>by obtain⟨z,hz,hb⟩:=jc.1 hb;obtain⟨k,hk,rfl⟩:=fS hb;rw[Cw h (hD z hz) k hk]at e;obtain rfl:z=y:=OO h.ok.Hy (hD z hz) hys (by rw[hyi,<-e]);exact⟨k,hk,rfl,by rw[<-e]⟩
 have qS:iT s i=if i.n<0\/((iB y.pat).length:Int)<=i.n then(dK,false)else((iB y.pat).getD i.n.toNat dK,true):=by unfold iT;rw[hg];rfl
 unfold mA gJ;rw[qS];show(D.flatMap λx=>iB x.pat).find? _=_;by_cases hn:i.n<0\/((iB y.pat).length:Int)<=i.n;rw[ag hn,af dD];refine ow.2 λb hb g=>?_;obtain⟨k,hk,-,e⟩:=only b hb (by simpa using g);omega;rw[af hn,ag rfl];have hk:i.n.toNat<(iB y.pat).length:=oO
 have e1:(iB y.pat).getD i.n.toNat dK=(iB y.pat)[i.n.toNat]:=by rw[dr,ay hk];rfl
 rw[e1];refine uf (jc.2 ⟨y,hy,aQ hk⟩) ?_ λb hb g=>?_;rw[Cw h hys _ hk];refine ah ?_;rw[hyi];cases i;simp only[bQ.mk.injEq,true_and]at*;omega;obtain⟨k,hk2,rfl,e⟩:=only b hb (by simpa using g);congr 1;omega
theorem MH:∀(l:List dw)(own:List bR),(iG l own).2=0->∀c,c∈l->cG c=0/\∃own,jA c own=0|c::l,own,h,x,hx=>by rw[iQ]at h;by_cases h1:cG c≠0;rw[ag h1]at h;exact absurd h h1;rw[af h1]at h;by_cases h2:jA c own≠0;rw[ag h2]at h;exact absurd h h2;rw[af h2]at h;rcases aL.1 hx with rfl|hx;exact⟨cK.1 h1,own,cK.1 h2⟩;exact MH l _ h x hx
theorem one_pos {x:bQ}{n:Nat}{b:Bool}(h:pY x n b=0)(hp:x.p=aZ):0<=x.n:=by unfold pY at h;by_cases g:sI x n=true;unfold sI at g;rw[ag hp,bn,decide_eq_true_eq]at g;exact g.1;rw[af g]at h;exact absurd h dD
theorem nh {p:gr}(hq:sV p){d:Dg}(hd:d∉bC p){c:dw}(hc:c∈p.changes){L:bQ->Option bR}(hL:∀i b,L i=some b->b.id=i):RX L c d:=by
 have hc0:(iG p.changes []).2=0:=by rw[<-hq.SI.all];exact hq.YQ
 obtain⟨hf,own,hr⟩:=MH _ _ hc0 c hc;have mF:=RW hf;unfold jA vr at hr;have hr:=fE.1 hr;have zn:(aP:bQ).n=0:=rfl;refine⟨hL,λi hi hz e=>?_,λi hi hp=>?_,λhp=>?_,mF,λh5 e=>?_⟩;have :=wH hq.ok hc hi hz;rw[e]at this;exact hd this;have h7:=mF.lo;have h8:=mF.hi;rcases aL.1 hi with rfl|hi;by_cases g:2<=c.kind/\c.kind<=6;have :=hr _ (.head _);rw[ag g]at this;exact one_pos this hp;rw[mF.file oO];decide;rcases aL.1 hi with rfl|hi;by_cases g:fC c.kind=true;have :=hr _ (.tail _ (.tail _ (.head _)));rw[ag g]at this;exact one_pos this hp;rw[(mF.ends (λq=>g (by unfold fC;rcases q with q|q<;>simp[q]))).1];decide;rcases aL.1 hi with rfl|hi;by_cases g:fC c.kind=true;have :=hr _ (.tail _ (.tail _ (.tail _ (.head _))));rw[ag g]at this;exact one_pos this hp;rw[(mF.ends (λq=>g (by unfold fC;rcases q with q|q<;>simp[q]))).2];decide;have :=hr (pY i own.length (dR c.kind c.file (lM own i))) (by simp only[aL,bk,aJ];exact .inr (.inr (.inr (.inr (.inl ⟨i,hi,rfl⟩)))));exact one_pos this hp;by_cases g:c.kind=2/\c.parent≠iS;have :=hr _ (.tail _ (.head _));rw[ag g]at this;exact .inr (one_pos this hp);by_cases k:c.kind=2;exact .inl (cK.1 λq=>g ⟨k,q⟩);right;rw[mF.par k];decide;have :=Ag hf h5;rw[e]at this;exact absurd this dD
theorem aci {s:List fD}(h:HA s){x:fD}(hx:x∈s){c:dw}(hc:c∈x.pat.changes){L:bQ->Option bR}(hL:∀i b,L i=some b->b.id=i):RX L c x.id:=nh (h.q x hx) (Wb h.ok hx) hc hL
theorem Sa {α:Type}{g:α->List Int}{l:List α}(h:∀x,x∈l->bf (g x)=0):bf (l.flatMap g)=0:=by rw[fE];intro e he;obtain⟨x,hx,he⟩:=jc.1 he;exact fE.1 (h x hx) e he
theorem Yj {s D:List fD}(h:HA s)(hD:∀y,y∈D->y∈s){x:fD}(hx:x∈s)(hn:∀d,d∈bC x.pat->d∈D.map λy=>y.id):Lh (sM D) x=0:=by
 unfold Lh;have hq:=h.q x hx;refine Sa λi hi=>?_;have hi:i<x.pat.changes.length:=by simpa using hi
 have hc:x.pat.changes[i]∈x.pat.changes:=aQ hi;have hr:=h.ok.refs x hx;unfold qE at hr;rw[bh,fE]at hr;rw[RZ hq hi x.id (by rw[h.idE hx]),ahs (aci h hx hc (λi b e=>by have :=jN e;simpa using this)),Ye (L':=mA s) (λj hj hz=>ach h hD (hn _ (wH hq.ok hc hj hz))),<-acd];exact hr _ (aJ.2 ⟨_,hc,rfl⟩)
theorem Sc (D:List fD):lN (sM D)=D.map λy=>y.id:=by unfold lN sM knF;rw[fP];rfl
theorem UB {s D:List fD}(h:HA s)(hD:∀y,y∈D->y∈s)(hl:D.length<400){x:fD}(hx:x∈s)(hn:x.id∉D.map λy=>y.id):qN (sM D) x=if mV (D.map λy=>y.id) (bC x.pat)=true then(lE (sM D) x,0)else(iU,19):=by have hid:=h.idE hx;unfold qN;rw[Sc,af (by rw[hid];simp),af (by rw[hid];simp),af hn];by_cases ha:mV (D.map λy=>y.id) (bC x.pat)=true;rw[af (by rw[ha];decide),ag ha];have h0:=Yj h hD hx (λd hd=>by have :=bD.1 ha d hd;simpa using this);rw[af (λg=>g h0),af (by show¬400<=(D.map knF).length;rw[aj];omega)];rw[af ha,ag (by simpa using ha)]
theorem Ym {s D:List fD}(h:HA s)(ha:rN D)(hD:∀y,y∈D->y∈s)(hl:D.length<=400):Uz (sM D):=by
 have hlen:∀D:List fD,(∀y,y∈D->y∈s)->(D.flatMap λx=>iB x.pat).length<=100000*D.length:=λD=>by
  induction D with
  |nil=>intro _;exact aB _
  |cons y D ih=>
   intro hD;rw[mQ,aA,aW];have h1:=ih λz hz=>hD z (.tail _ hz);have hq:=h.q y (hD y (.head _));have h2:(iB y.pat).length<=100000:=by rw[sL hq,aj];exact hq.few
   omega
 refine⟨?_,?_,by show(D.map knF).length<=_;rw[aj];omega,by have :=hlen D hD;show(D.flatMap λx=>iB x.pat).length<=_;omega⟩;have :(sM D).pats.map (λk=>k.id)=D.map λy=>y.id:=Sc D;rw[this];exact Wa ha;have hpw:(D.flatMap λx=>iB x.pat).Pairwise λa b=>gb a.id b.id<0:=by rw[List.pairwise_flatMap];refine⟨λx hx=>?_,List.Pairwise.imp_of_mem (λ{x y} hx hy hxy=>?_) ha⟩;rw[iH];intro i j hi hj hij;rw[Cw h (hD x hx) i hi,Cw h (hD x hx) j hj];exact XY oO;intro a ha b hb;obtain⟨i,hi,rfl⟩:=fS ha;obtain⟨j,hj,rfl⟩:=fS hb;rw[Cw h (hD x hx) i hi,Cw h (hD y hy) j hj];exact XZ hxy
 show((D.flatMap λx=>iB x.pat).map λa=>a.id).Nodup;rw[List.nodup_iff_pairwise_ne,xY];exact hpw.imp λ{a b} hab e=>by rw[e]at hab;have :=ov b.id b.id;omega
def UY (s:List fD)(d:Dg):Nat:=(s.filter λx=>decide (dy x.id d<0)).length
theorem afk {s:List fD}{d:Dg}{k:Nat}(hk:k<=s.length)(h1:∀j (h:j<s.length),j<k->dy s[j].id d<0)(h2:∀j (h:j<s.length),k<=j->¬dy s[j].id d<0):UY s d=k:=by
 unfold UY;have e:s.filter (λx=>decide (dy x.id d<0))=s.take k:=by
  conv=>lhs;rw[<-fH k s]
  rw[qI,List.filter_eq_self.2 (λx hx=>?_),List.filter_eq_nil_iff.2 (λx hx=>?_),bh];obtain⟨j,hj,rfl⟩:=fS hx;rw[List.getElem_drop];rw[dL]at hj;simpa using h2 (k+j) oO oO;obtain⟨j,hj,rfl⟩:=fS hx;rw[Eg];rw[aR]at hj;exact ah (h1 j oO oO)
 rw[e,aR];omega
theorem ajK {n:Nat}(h:n<=9223372036854775807):IntKind.u64.wrap ((n:Nat):Int)=(n:Int):=by
 have h1:(0:Int)<=(n:Int):=oO
 have h2:((n:Nat):Int)<=9223372036854775807:=oO
 generalize((n:Nat):Int)=m at h1 h2;unfold IntKind.wrap;simp[IntKind.bits,IntKind.signed];omega
theorem acQ (n:Nat):((n:Nat):Int).fdiv (2^(min (1:Int).toNat IntKind.u64.bits))=((n/2:Nat):Int):=by show((n:Nat):Int).fdiv 2=_;rw[DM _ dD];omega
theorem Nd (x:fD)(d:Dg):av C 157 [.agg (mT x),.agg (cD d)] (λr=>r=.val (.int .i64 (dy x.id d))):=by exact ak Tryz.func157 rfl rfl rfl (cl (IT x.id d) rfl)
theorem acR {s:List fD}(hA:rN s)(hl:s.length<=2^40)(d:Dg):av C 156 [.sl (kG s),.agg (cD d),.fn (.func 157) [] []] (λr=>r=.val (.eN [.int .i64 (UY s d:Int),.bool (decide (d∈iz s))])):=by
 unfold kG;refine bu qZ [] Tryz.func156 rfl rfl rfl ?_;refine bJ 49 (λx:Nat×Nat=>[(0,.p (.sl (s.map mT))),(2,.p (.fn (.func 157) [] [])),(4,.ptr 4 0),(8,.p (.int .i64 ((s.map mT).length:Int))),(9,.p (.int .i64 (x.1:Int))),(10,.p (.int .i64 (x.2:Int)))]) (λ_=>[(4,aH (cD d))]) (λx=>x.1<=x.2/\x.2<=s.length/\(∀j (h:j<s.length),j<x.1->dy s[j].id d<0)/\(∀j (h:j<s.length),x.2<=j->¬dy s[j].id d<0)) (λx=>x.2-x.1) (0,s.length) ⟨zL,aB _,λj h g=>absurd g (jL _),λj h g=>absurd h (by have g:s.length<=j:=g;omega)⟩ kK (by rw[show(s.length:Int)=((s.map mT).length:Int)by rw[aj]];exact wS) oS ?_;rintro⟨a,b⟩ ⟨h1,h2,h3,h4⟩;have h1:a<=b:=h1;have h2:b<=s.length:=h2;refine aF (λhlt=>?_) (λhge=>?_);have hlt:a<b:=by have hlt:(a:Int)<(b:Int):=hlt;omega
 refine nx (a+b) ⟨((a+b:Nat):Int),ajK oO,?_⟩;refine⟨dD,(((a+b)/2:Nat):Int),acQ _,?_⟩;refine⟨_,wrap64 oO oO,?_⟩;obtain⟨m,hm⟩:∃m,(a+b)/2=m:=⟨_,rfl⟩;have hma:a<=m/\m<b:=oO
 rw[hm];have yC:m<s.length:=oO
 have fW:(s.map mT)[((m:Nat):Int).toNat]?=some (mT s[m]):=eC rfl yC;refine bZ 7 kK ⟨oO,_,fW,rfl,?_⟩;refine⟨_,(Nd s[m] d).eG,?_⟩;have hlo:∀j (h:j<s.length),j<=m->dy s[j].id s[m].id<=0:=λj h g=>by by_cases e:j=m;subst e;rw[rK];exact Int.le_refl _;exact Int.le_of_lt (iH.1 hA j m h yC oO)
 refine aF (λhc=>?_) (λhc=>?_);have hc:dy s[m].id d<0:=hc;refine nx (m+1) (aT (m+1,b) ⟨hma.2,h2,λj h g=>?_,h4⟩ (by show b-(m+1)<b-a;omega) kK wS oS);by_cases e:j=m;subst e;exact hc;exact gF (iH.1 hA j m h yC (by have g:j<m+1:=g;omega)) hc;have hc:¬dy s[m].id d<0:=hc;refine aT (a,m) ⟨hma.1,by show m<=s.length;omega,h3,λj h g q=>?_⟩ (by show m-a<b-a;omega) kK wS oS;by_cases e:j=m;subst e;exact hc q;exact hc (gF (iH.1 hA m j yC h (by have g:m<=j:=g;omega)) q);obtain rfl:a=b:=by have hge:¬(a:Int)<(b:Int):=hge;omega
 have ama:=afk h2 h3 h4;rw[ama];refine bZ 15 kK (aF (λhlt=>?_) (λhge=>?_));have hlt:a<s.length:=by have hlt:(a:Int)<((s.map mT).length:Int):=hlt;rw[aj]at hlt;omega
 have fW:(s.map mT)[((a:Nat):Int).toNat]?=some (mT s[a]):=eC rfl hlt;refine⟨oO,_,fW,rfl,?_⟩;refine⟨_,(Nd s[a] d).eG,aC (λe=>?_) (λe=>?_)⟩;have e:dy s[a].id d=0:=e;rw[ah (show d∈iz s from aJ.2 ⟨s[a],aQ _,jo e⟩)];exact rfl;have e:¬dy s[a].id d=0:=e;rw[ai (show d∉iz s fromλhm=>?_)];exact rfl;obtain⟨x,hx,rfl⟩:=aJ.1 hm;obtain⟨j,hj,rfl⟩:=fS hx;rcases Ey j a with g|g|g;have :=h3 j hj g;rw[rK]at this;exact absurd this dD;subst g;exact e (rK _);exact h4 a hlt (aB _) (iH.1 hA a j hlt hj g);have hge:s.length<=a:=by have hge:¬(a:Int)<((s.map mT).length:Int):=hge;rw[aj]at hge;omega
 rw[ai (show d∉iz s fromλhm=>?_)];exact rfl;obtain⟨x,hx,rfl⟩:=aJ.1 hm;obtain⟨j,hj,rfl⟩:=fS hx;have :=h3 j hj oO;rw[rK]at this;exact absurd this dD
theorem Av {s:List fD}(hA:rN s)(hl:s.length<=2^40)(d:Dg):av C 82 [.sl (kG s),.agg (cD d)] (λr=>r=.val (.eN [.int .i64 (UY s d:Int),.bool (decide (d∈iz s))])):=by exact ak Tryz.func82 rfl rfl rfl (cl (acR hA hl d) rfl)
theorem Sv {s:List fD}(hA:rN s)(hl:s.length<=2^40)(d:Dg):av C 147 [.agg (cD d),.imp [.sl (kG s)]] (λr=>r=.val (.bool (!decide (d∈iz s)))):=by exact ak Tryz.func147 rfl rfl rfl (cl (Av hA hl d) (bF rfl))
theorem Ki {s:List fD}(hA:rN s)(hl:s.length<=2^40){p:gr}(h:sV p):av C 76 [.sl (kG s),.agg (cP p)] (λr=>r=.val (.bool (!mV (iz s) (bC p)))):=by
 have hn:av C 45 [.agg (cP p)] (λr=>r=.val (.sl (pe (bC p)))):=by have :=Am h;rwa[JI h]at this
 have hnl:=xO p;refine ak Tryz.func76 rfl rfl rfl (cl hn ⟨[2],dA (cells:=[.p (.sl (kG s))]) (ys:=[.sl (kG s)]) rfl rfl rfl (cl (RO (bC p) 147 (.imp [.sl (kG s)]) (λd=>!decide (d∈iz s)) (λd _=>Sv hA hl d) oO) ?_)⟩);rw[show((bC p).any λd=>!decide (d∈iz s))=!mV (iz s) (bC p)from by unfold mV;rw[List.not_all_eq_any_not]];exact rfl
def Zc (x:jj)(d:Dg):List Dg×Bool:=match x.pats.find? λk=>decide (k.id=d)with|some k=>(k.cS,true)|none=>([],false)
def Eo (x:jj)(i:bQ):bR×Bool:=match gJ x i with|some a=>(a,true)|none=>(dK,false)
def vz (x:jj)(a:bR)(i:bQ):Bool:=(Eo x i).2&&((decide (i.p=a.id.p)&&decide (i.n<a.id.n))||(decide (i.p≠a.id.p)&&decide (i.p∈(Zc x a.id.p).1)))
def jq (x:jj)(a:bR)(i:bQ)(f:bR->Bool):Int:=if vz x a i=false then 7 else if f (Eo x i).1=true then 0 else 8
def wJ (g i:bQ)(b:bR):Bool:=decide (i=g)||fk g b
def sN (x:jj)(a:bR):Int:=if a.kind=1 then(if a.file≠a.id then 8 else 0)else bf ((if a.kind<7 then[jq x a a.file (bg a.kind)]else[])++((if a.kind=2/\a.parent≠iS then[jq x a a.parent jg]else[])++((if a.kind=6 then[jq x a a.fr (wJ a.file a.fr),jq x a a.to (wJ a.file a.to)]else[])++((a.over.map λi=>jq x a i (fF a.kind a.file))++[if a.kind=2/\a.parent=a.file then 20 else 0,if a.kind=6/\a.fr=a.to then 1 else 0]))))
theorem MD {α:Type}{f:α->Bool}{l:List α}{k:Nat}(h:k<l.length):(l.drop k).find? f=if f l[k]=true then some l[k]else(l.drop (k+1)).find? f:=by rw[bY h,qK];cases f l[k]<;>rfl
theorem GA (x:jj)(d:Dg)(hl:x.pats.length<=2^47):av C 125 [.agg (ij x),.agg (cD d)] (λr=>r=.val (.eN [.sl (pe (Zc x d).1),.bool (Zc x d).2])):=by obtain⟨ps,ats⟩:=x;simp only at hl;unfold ij;refine ak Tryz.func125 rfl rfl rfl ?_;refine bJ 28 (λk:Nat=>[(2,.ptr 2 0),(3,.ptr 3 0),(6,.p (.int .i64 (k:Int)))]) (λ_=>[(2,[.p (.sl (ps.map gi)),.p (.sl (gI ats))]),(3,aH (cD d))]) (λk=>k<=ps.length/\(ps.drop k).find? (λq=>decide (q.id=d))=ps.find? λq=>decide (q.id=d)) (λk=>ps.length-k) 0 ⟨zL,rfl⟩ kK wS oS ?_;rintro k ⟨hk,hE⟩;refine cq (λhlt=>?_) (λhge=>?_);rw[MD hlt]at hE;have fW:=λK (hK:K (gi ps[k]))=>ix (f:=gi) (l:=ps) (m:=33) (K:=K) hlt hK;generalize ps[k]=q at hE fW;refine bZ 7 kK (fW _ ⟨sC,ct,rfl,rfl,rfl,zN (a:=q.id) (b:=d) ?_⟩);by_cases h:q.id=d;rw[ah h];rw[ag (ah h)]at hE;refine fW _ ?_;unfold Zc;rw[<-hE];exact rfl;rw[ai h];rw[af (by rw[ai h];decide)]at hE;exact nx (k+1) (aT (k+1) ⟨hlt,hE⟩ mM kK wS oS);rw[cZ (jd hge)]at hE;unfold Zc;rw[<-hE];exact rfl
theorem ahu (x:jj)(d:Dg):(Zc x d).2=decide (d∈lN x):=by
 unfold Zc;cases h:x.pats.find? λk=>decide (k.id=d)with
 |some k=>have h1:=jN h;exact(ah (aJ.2 ⟨k,lD h,dn h1⟩)).symm
 |none=>refine(ai λhm=>?_).symm;obtain⟨k,hk,rfl⟩:=aJ.1 hm;have :=ow.1 h k hk;simp at this
theorem Ep (x:jj)(d:Dg)(hl:x.pats.length<=2^47):av C 52 [.agg (ij x),.agg (cD d)] (λr=>r=.val (.bool (decide (d∈lN x)))):=by rw[<-ahu];exact ak Tryz.func52 rfl rfl rfl (cl (GA x d hl) rfl)
theorem JQ (x:jj)(i:bQ)(hl:x.atoms.length<=2^47):av C 58 [.agg (ij x),.agg (cI i)] (λr=>r=.val (.eN [.agg (cA (Eo x i).1),.bool (Eo x i).2])):=by obtain⟨ps,ats⟩:=x;simp only at hl;unfold ij;refine ak Tryz.func58 rfl rfl rfl ?_;refine bJ 28 (λk:Nat=>[(2,.ptr 2 0),(3,.ptr 3 0),(4,.ptr 4 0),(6,.p (.int .i64 (k:Int)))]) (λ_=>[(2,[.p (.sl (ps.map gi)),.p (.sl (ats.map cA))]),(3,aH (cI i)),(4,aH ((cA dK).take 171)++[.full []])]) (λk=>k<=ats.length/\(ats.drop k).find? (λq=>decide (q.id=i))=ats.find? λq=>decide (q.id=i)) (λk=>ats.length-k) 0 ⟨zL,rfl⟩ kK wS oS ?_;rintro k ⟨hk,hE⟩;refine cq (λhlt=>?_) (λhge=>?_);rw[MD hlt]at hE;have fW:=λK (hK:K (cA ats[k]))=>ix (f:=cA) (l:=ats) (m:=172) (K:=K) hlt hK;generalize ats[k]=q at hE fW;refine bZ 7 kK (fW _ (pW (jw (a:=q.id) (b:=i) ?_)));by_cases h:q.id=i;rw[ah h];rw[ag (ah h)]at hE;refine fW _ ?_;unfold Eo gJ;rw[<-hE];exact rfl;rw[ai h];rw[af (by rw[ai h];decide)]at hE;exact nx (k+1) (aT (k+1) ⟨hlt,hE⟩ mM kK wS oS);rw[cZ (jd hge)]at hE;unfold Eo gJ;rw[<-hE];exact rfl
structure SzQ (x:jj):Prop where
 pats:x.pats.length<=2^47
 cS:∀k,k∈x.pats->k.cS.length<=2^47
 atoms:x.atoms.length<=2^47
theorem ahv {x:jj}(h:SzQ x)(d:Dg):(Zc x d).1.length<=2^47:=by
 unfold Zc;cases hf:x.pats.find? λk=>decide (k.id=d)with
 |some k=>exact h.cS k (lD hf)
 |none=>exact zL
theorem yd {x:jj}(h:SzQ x)(a:bR)(i:bQ):av C 133 [.agg (ij x),.agg (cA a),.agg (cI i)] (λr=>r=.val (.eN [.agg (cA (Eo x i).1),.bool (vz x a i)])):=by
 have hnl:=ahv h a.id.p;have hn:=GA x a.id.p h.pats;have hf:=JQ x i h.atoms;obtain⟨B,hB⟩:∃B,vz x a i=B:=⟨_,rfl⟩;rw[hB];unfold vz at hB;generalize Zc x a.id.p=N at hn hnl hB;generalize Eo x i=F at hf hB⊢;obtain⟨N,nb⟩:=N;obtain⟨f,fb⟩:=F;simp only at hnl hB;refine ak Tryz.func133 rfl rfl rfl (cl hf (cl hn ⟨.plan ⟨[29,30,31],[32],[],[3,4,5,8]⟩ (.one 0 (.one 1 (.one 2 (.one 3 (.one 4 (.one 5 (.one 6 (.one 7 (.one 8 (.one 9 (.one 10 (.one 11 (.one 12 (.one 13 (.one 14 (.one 15 (.one 16 (.one 17 (.one 18 (.one 19 (.one 20 (.one 21 (.one 22 (.one 23 (.one 24 (.one 25 (.one 26 (.one 27 (.one 28 (.one 29 (.one 30 (.one 31 (.alt 32 (.one 33 (.fin)) (.stop)))))))))))))))))))))))))))))))))) none,kK,?_⟩));refine⟨_,rfl,_,rfl,_,rfl,?_⟩;cases fb with
 |false=>rw[tO]at hB;subst hB;exact⟨_,rfl,rfl,rfl,_,rfl,rfl⟩
 |true=>
  rw[gO]at hB;refine⟨_,rfl,_,rfl,_,rfl,_,rfl,_,rfl,.p (.bool (decide (i.p=a.id.p))),⟨sC,ct,rfl,rfl,rfl,zN rfl⟩,?_⟩;by_cases hp:i.p=a.id.p;rw[ah hp];have hB:decide (i.n<a.id.n)=B:=by rw[<-hB];simp[hp]
  refine⟨_,rfl,_,rfl,_,rfl,_,rfl,_,rfl,_,rfl,.p (.bool (decide (i.n<a.id.n))),⟨λt ht=>by rw[ht]⟩,?_⟩;rw[hB];cases B with
  |true=>exact⟨_,rfl,_,rfl,_,rfl,rfl,_,rfl,rfl,rfl,_,rfl,rfl⟩
  |false=>refine⟨_,rfl,_,rfl,_,rfl,_,rfl,_,rfl,_,rfl,_,rfl,.p (.bool (!decide (i.p=a.id.p))),⟨sC,ct,rfl,rfl,rfl,mw rfl⟩,?_⟩;rw[ah hp];exact⟨_,rfl,_,rfl,rfl,_,rfl,rfl,_,rfl,rfl,rfl,_,rfl,rfl⟩
  rw[ai hp];have hB:decide (i.p∈N)=B:=by rw[<-hB];simp[hp]
  refine⟨_,rfl,_,rfl,_,rfl,_,rfl,_,rfl,_,rfl,_,rfl,_,rfl,.p (.bool (!decide (i.p=a.id.p))),⟨sC,ct,rfl,rfl,rfl,mw rfl⟩,?_⟩;rw[ai hp];refine⟨_,rfl,_,rfl,_,rfl,_,rfl,?_⟩;refine⟨.p (.bool B),⟨_,Oq N i.p hnl,λr hr=>by subst hr;rw[hB];rfl⟩,?_⟩;exact⟨_,rfl,rfl,_,rfl,rfl,_,rfl,rfl,rfl,_,rfl,rfl⟩
theorem Uq (k:Int)(f:bR):av C 134 [.int .i64 k,.agg (cA f)] (λr=>r=.val (.bool (bg k f))):=by
 refine ak Tryz.func134 rfl rfl rfl ?_;unfold bg fC;refine cm (λh=>?_) (λh=>?_);have h:¬f.kind=1:=h;rw[ai h];exact rfl;have h:f.kind=1:=h;rw[ah h,gO];refine⟨none,aC (λh5=>?_) (λh5=>?_)⟩;have h5:k=5:=h5;subst h5;refine aC (λh1=>?_) (λh1=>?_);have h1:f.type=1:=h1;simp only[h1];exact rfl;have h1:¬f.type=1:=h1;simp only[h1];exact rfl;have h5:¬k=5:=h5;refine aC (λh6=>?_) (λh6=>?_);have h6:k=6:=h6;subst h6;refine aC (λh1=>?_) (λh1=>?_);have h1:f.type=1:=h1;simp only[h1];exact rfl;have h1:¬f.type=1:=h1;simp only[h1];exact rfl;have h6:¬k=6:=h6;have e56:(decide (k=5)||decide (k=6))=false:=by simp[h5,h6]
 rw[e56,af (show¬false=true by decide)];refine⟨none,cm (λh4=>?_) (λh4=>?_)⟩;have h4:k≠4:=h4;have :decide (k≠4)=true:=ah h4;rw[this];exact rfl;have h4:k=4:=h4;subst h4;refine aC (λh2=>?_) (λh2=>?_);have h2:f.type=2:=h2;simp only[h2];exact rfl;have h2:¬f.type=2:=h2;refine aC (λh3=>?_) (λh3=>?_);have h3:f.type=3:=h3;simp only[h3];exact rfl;have h3:¬f.type=3:=h3;simp only[h2,h3];exact rfl
def sy:List Dg->Bool|a::b::r=>decide (dy a b<0)&&sy (b::r)|_=>true
theorem FC:∀l:List Dg,sy l=true↔∀(i:Nat)(a b:Dg),l[i]?=some a->l[i+1]?=some b->dy a b<0
 |[]=>by simp[sy]
 |[x]=>by simp[sy]
 |x::y::r=>by
  rw[sy,bn,decide_eq_true_eq,FC (y::r)];constructor;rintro⟨h1,h2⟩ i a b ha hb;cases i with
  |zero=>simp only[List.getElem?_cons_zero,mI,bN]at ha hb;subst ha;subst hb;exact h1
  |succ i=>exact h2 i a b ha hb
  intro h;exact⟨h 0 x y rfl rfl,λi a b ha hb=>h (i+1) a b ha hb⟩
theorem ace {l:List Dg}{k:Nat}(h1:0<k)(hk:k<l.length)(h:¬dy l[k-1] l[k]<0):sy l=false:=by
 cases hq:sy l with
 |false=>rfl
 |true=>refine absurd ((FC l).1 hq (k-1) l[k-1] l[k] (ay oO) ?_) h;rw[show k-1+1=k from oO];exact ay hk
theorem Yg (l:List Dg)(hl:l.length<=2^47):av C 194 [.sl (pe l)] (λr=>r=.val (.bool (sy l))):=by
 unfold pe;refine ak Tryz.func194 rfl rfl rfl (bJ 21 (λk:Nat=>[(0,.p (.sl (l.map cD))),(3,.p (.int .i64 k))]) (λ_=>[]) (λk=>1<=k/\k<=l.length+1/\∀(i:Nat)(a b:Dg),i+1<k->l[i]?=some a->l[i+1]?=some b->dy a b<0) (λk=>l.length+1-k) 1 ⟨aB _,oO,λi a b h=>oO⟩ rfl wS trivial ?_);rintro k ⟨h1,hk,hn⟩;refine cq (λhlt=>?_) (λhge=>?_);have hlt':k-1<l.length:=oO
 refine bZ 9 kK (nx (k-1) (ix hlt' (ix hlt (cl (nH l[k-1] l[k]) (aF (λh=>?_) (λh=>?_))))));rw[ace h1 hlt oO];exact rfl;refine nx (k+1) (aT (k+1) ⟨oO,oO,λi a b hi ha hb=>?_⟩ oO rfl wS trivial);by_cases hik:i+1=k;have e:i=k-1:=oO
 subst e;rw[ay hlt']at ha;rw[show k-1+1=k from oO,ay hlt]at hb;obtain rfl:=aq ha;obtain rfl:=aq hb;omega;exact hn i a b oO ha hb;rw[(FC l).2 λi a b ha hb=>hn i a b (by have :=(aI.1 hb).1;omega) ha hb];exact rfl
def Ap (out:List Dg)(k:yb):Bool:=!decide (k.id∈out)&&k.cS.all λd=>decide (d∈out)
def yL (out:List Dg)(ps:List yb):List Dg:=ps.foldl (λout k=>if Ap out k=true then out++[k.id]else out) out
def Yh (ps:List yb):Nat->List Dg->List Dg|0,out=>out|n+1,out=>Yh ps n (yL out ps)
def Aq (x:jj):List Dg:=Yh x.pats x.pats.length []
theorem RY {x:jj}(h:SzQ x)(hl:x.pats.length<=400):av C 145 [.agg (ij x)] (λr=>r=.val (.sl (pe (Aq x)))):=by
 have hnl:=h.cS;obtain⟨ps,ats⟩:=x;simp only at hl hnl;obtain⟨E,hE⟩:∃E,Aq ⟨ps,ats⟩=E:=⟨_,rfl⟩;rw[hE];unfold Aq at hE;simp only at hE;unfold ij;refine ak Tryz.func145 rfl rfl rfl ?_;refine bJ 58 (λp:Nat×List Dg=>[(1,.ptr 1 0),(3,.gd 9 33 32 (p.2.map cD)),(4,.p (.int .i64 (p.1:Int)))]) (λ_=>[(1,[.p (.sl (ps.map gi)),.p (.sl (gI ats))])]) (λp=>p.1<=ps.length/\p.2.length<=p.1*400/\Yh ps (ps.length-p.1) p.2=E) (λp=>ps.length-p.1) (0,[]) ⟨zL,zL,hE⟩ kK wS oS ?_;rintro⟨n,out⟩ ⟨hn,hol,hE⟩;simp only at hn hol hE;refine cq (λhlt=>?_) (λhge=>?_);rotate_left;rw[show ps.length-n=0 by omega]at hE;obtain rfl:out=E:=hE;exact .inr rfl;rw[show ps.length-n=(ps.length-(n+1))+1 by omega]at hE;have hE:Yh ps (ps.length-(n+1)) (yL out ps)=E:=hE;refine bJ 58 (λp:Nat×List Dg=>[(1,.ptr 1 0),(3,.gd 9 33 32 (p.2.map cD)),(4,.p (.int .i64 (n:Int))),(5,.p (.int .i64 (p.1:Int)))]) (λ_=>[(1,[.p (.sl (ps.map gi)),.p (.sl (gI ats))])]) (λp=>p.1<=ps.length/\p.2.length<=n*400+p.1/\yL p.2 (ps.drop p.1)=yL out ps) (λp=>ps.length-p.1) (0,out) ⟨zL,hol,rfl⟩ kK wS oS ?_;rintro⟨i,o⟩ ⟨hi,al1,hP⟩;simp only at hi al1 hP;refine cq (λeM=>?_) (λsn=>?_);rotate_left;rw[cZ (jd sn)]at hP;obtain rfl:o=yL out ps:=hP;exact nx (n+1) (aT (n+1,yL out ps) ⟨hlt,by simp only;omega,hE⟩ mM kK wS oS);rw[bY eM]at hP;have hql:=hnl ps[i] (aQ _);have fW:=λK (hK:K (gi ps[i]))=>ix (f:=gi) (l:=ps) (m:=33) (K:=K) eM hK;generalize ps[i]=q at hP hql fW;have hP:yL (if Ap o q=true then o++[q.id]else o) (ps.drop (i+1))=yL out ps:=hP;refine fW _ (cl (Oq o q.id oO) ?_);refine bF ?_;refine bJ 58 (λp:Nat×Bool=>[(1,.ptr 1 0),(3,.gd 9 33 32 (o.map cD)),(4,.p (.int .i64 (n:Int))),(5,.p (.int .i64 (i:Int))),(6,.ptr 6 0),(7,.p (.bool p.2)),(8,.p (.int .i64 (p.1:Int)))]) (λ_=>[(1,[.p (.sl (ps.map gi)),.p (.sl (gI ats))]),(6,aH (gi q))]) (λp=>p.1<=q.cS.length/\(p.2&&(q.cS.drop p.1).all λd=>decide (d∈o))=Ap o q) (λp=>q.cS.length-p.1) (0,!decide (q.id∈o)) ⟨zL,rfl⟩ kK wS oS ?_;rintro⟨k,r⟩ ⟨hk,hr⟩;simp only at hk hr;refine cq (λhlt3=>?_) (λal2=>?_);rw[bY hlt3,tg]at hr;have pZ:=λK (hK:K (cD q.cS[k]))=>ix (f:=cD) (l:=q.cS) (m:=32) (K:=K) hlt3 hK;generalize q.cS[k]=d at hr pZ;refine⟨none,?_⟩;cases r with
 |false=>exact nx (k+1) (aT (k+1,false) ⟨hlt3,by simp only;rw[<-hr];simp⟩ mM kK wS oS)
 |true=>refine pZ _ (cl (Oq o d oO) ?_);exact nx (k+1) (aT (k+1,decide (d∈o)) ⟨hlt3,by simp only;rw[<-hr];simp⟩ mM kK wS oS)
 rw[cZ (jd al2),List.all_nil,Bool.and_true]at hr;subst hr;cases hr:Ap o q with
 |false=>rw[hr,af dD]at hP;exact nx (i+1) (aT (i+1,o) ⟨eM,by simp only;omega,hP⟩ mM kK wS oS)
 |true=>rw[hr,ag rfl]at hP;refine⟨oE,oE (l:=[q.id]),by show((o.map cD).length+1)*32<=_;rw[aj];omega,(o++[q.id]).map cD,by rw[aD];rfl,?_⟩;exact nx (i+1) (aT (i+1,o++[q.id]) ⟨eM,by simp only;rw[aA,fc];omega,hP⟩ mM kK wS oS)
def acf (k:Int):bR:=⟨aP,k,aP,0,aP,[],0,[],[],aP,aP,[]⟩
def JR (a:bR):bR:=if a.kind=1 then⟨aP,a.kind,aP,0,a.parent,a.name,a.mode,a.data,a.text,a.fr,a.to,a.over⟩else if a.kind=2 then⟨aP,a.kind,aP,a.type,aP,[],a.mode,a.data,a.text,a.fr,a.to,[]⟩else if a.kind=3 then⟨aP,a.kind,aP,a.type,a.parent,a.name,0,a.data,a.text,a.fr,a.to,[]⟩else if a.kind=4 then⟨aP,a.kind,aP,a.type,a.parent,a.name,a.mode,[],a.text,a.fr,a.to,[]⟩else if a.kind=5 then⟨aP,a.kind,aP,a.type,a.parent,a.name,a.mode,a.data,[],a.fr,a.to,a.over⟩else if a.kind=6 then⟨aP,a.kind,aP,a.type,a.parent,a.name,a.mode,a.data,a.text,aP,aP,[]⟩else if a.kind=7 then⟨aP,a.kind,a.file,a.type,a.parent,a.name,a.mode,a.data,a.text,a.fr,a.to,[]⟩else⟨aP,a.kind,aP,a.type,a.parent,a.name,a.mode,a.data,a.text,a.fr,a.to,a.over⟩
theorem Ur (a:bR):(JR a).over.length<=a.over.length:=by
 unfold JR;repeat' split
 all_goals first|exact aB _|exact nR _
theorem Us (a:bR):av C 195 [.agg (cA a)] (λr=>r=.val (.agg (cA (JR a)))):=by obtain⟨R,hR⟩:∃R,JR a=R:=⟨_,rfl⟩;rw[hR];unfold JR at hR;refine ak Tryz.func195 rfl rfl rfl ?_;by_cases h7:a.kind=7;rw[af oO,af oO,af oO,af oO,af oO,af oO,ag h7]at hR;refine cm (λg=>absurd h7 g) (λ_=>aC (λg=>absurd (show a.kind=1 from g) oO) (λ_=>?_));refine aC (λg=>absurd (show a.kind=2 from g) oO) (λ_=>?_);refine aC (λg=>absurd (show a.kind=3 from g) oO) (λ_=>?_);refine aC (λg=>absurd (show a.kind=4 from g) oO) (λ_=>?_);refine aC (λg=>absurd (show a.kind=5 from g) oO) (λ_=>?_);refine aC (λg=>absurd (show a.kind=6 from g) oO) (λ_=>?_);refine aC (λ_=>?_) (λg=>absurd h7 g);rw[<-hR];exact rfl;refine cm (λ_=>?_) (λg=>absurd (show a.kind=7 from g) h7);refine aC (λh=>?_) (λh=>?_);rw[ag (show a.kind=1 from h)]at hR;rw[<-hR];exact rfl;rw[af (show¬a.kind=1 from h)]at hR;refine aC (λh=>?_) (λh=>?_);rw[ag (show a.kind=2 from h)]at hR;rw[<-hR];exact rfl;rw[af (show¬a.kind=2 from h)]at hR;refine aC (λh=>?_) (λh=>?_);rw[ag (show a.kind=3 from h)]at hR;rw[<-hR];exact rfl;rw[af (show¬a.kind=3 from h)]at hR;refine aC (λh=>?_) (λh=>?_);rw[ag (show a.kind=4 from h)]at hR;rw[<-hR];exact rfl;rw[af (show¬a.kind=4 from h)]at hR;refine aC (λh=>?_) (λh=>?_);rw[ag (show a.kind=5 from h)]at hR;rw[<-hR];exact rfl;rw[af (show¬a.kind=5 from h)]at hR;refine aC (λh=>?_) (λh=>?_);rw[ag (show a.kind=6 from h)]at hR;rw[<-hR];exact rfl;rw[af (show¬a.kind=6 from h),af h7]at hR;refine aC (λh=>absurd (show a.kind=7 from h) h7) (λ_=>?_);rw[<-hR];exact rfl
theorem eU {e:Int}{l:List Int}(h:e≠0):bf (e::l)=e:=by unfold bf;rw[ag h]
theorem gm {e:Int}{l:List Int}(h:e=0):bf (e::l)=bf l:=by conv=>lhs;unfold bf;rw[af (λg=>g h)]
theorem ME {x:jj}(h:SzQ x)(a:bR)(ho:a.over.length<=2^47):av C 59 [.agg (ij x),.agg (cA a)] (λr=>r=.val (.int .i64 (sN x a))):=by
 obtain⟨E,hE⟩:∃E,sN x a=E:=⟨_,rfl⟩;rw[hE];unfold sN at hE;refine dY [11,17,26] Tryz.func59 rfl rfl rfl (aC (λh1=>?_) (λh1=>?_));have h1:a.kind=1:=h1;rw[ag h1]at hE;refine pW (zO (a:=a.file) (b:=a.id) ?_);by_cases hf:a.file=a.id;rw[ah hf];rw[af (λg=>g hf)]at hE;rw[<-hE];exact rfl;rw[ai hf];rw[ag hf]at hE;rw[<-hE];exact rfl;have h1:¬a.kind=1:=h1;rw[af h1]at hE;refine share (T:=?T1) (λH1=>?m1) ?r1;case m1=>
  refine aF (λh7=>?_) (λh7=>?_);rotate_left;have h7:¬a.kind<7:=h7;rw[af h7,dM]at hE;refine de 166 [(2,.ptr 2 0),(3,.ptr 3 0)] [(2,aH (ij x)),(3,aH (cA a))] kK wS oS ?_;revert hE;exact H1.out;have h7:a.kind<7:=h7;rw[ag h7]at hE;have hl:=yd h a a.file;rw[cr,dM]at hE;unfold jq at hE;generalize Eo x a.file=F at hl hE;obtain⟨b,fb⟩:=F;refine cl hl.cut ?_;cases hb:vz x a a.file with
  |false=>rw[hb,ag rfl,eU dD]at hE;refine bF ?_;rw[<-hE];exact rfl
  |true=>
   rw[hb,af dD]at hE;refine bF (cl (Uq a.kind b).cut ?_);cases hq:bg a.kind b with
   |false=>rw[show(if bg a.kind (b,fb).fst=true then(0:Int)else 8)=8 from by rw[show bg a.kind (b,fb).fst=false from hq];rfl,eU dD]at hE;refine bF ?_;rw[<-hE];exact rfl
   |true=>rw[show(if bg a.kind (b,fb).fst=true then(0:Int)else 8)=0 from ag hq,gm rfl]at hE;refine bF (de 166 [(2,.ptr 2 0),(3,.ptr 3 0)] [(2,aH (ij x)),(3,aH (cA a))] kK wS oS ?_);revert hE;exact H1.out
 case r1=>
  intro hE;refine share (T:=?T2) (λH2=>?m2) ?r2;case m2=>
   refine bZ 7 kK ?_;have agd:¬(a.kind=2/\a.parent≠iS)->bf ((if a.kind=6 then[jq x a a.fr (wJ a.file a.fr),jq x a a.to (wJ a.file a.to)]else[])++((a.over.map λi=>jq x a i (fF a.kind a.file))++[if a.kind=2/\a.parent=a.file then 20 else 0,if a.kind=6/\a.fr=a.to then 1 else 0]))=E:=λg=>by rw[af g,dM]at hE;exact hE
   refine aC (λh2=>?_) (λh2=>?_);rotate_left;have h2:¬a.kind=2:=h2;have hE:=agd λg=>h2 g.1;refine de 166 [(2,.ptr 2 0),(3,.ptr 3 0)] [(2,aH (ij x)),(3,aH (cA a))] kK wS oS ?_;revert hE;exact H2.out;have h2:a.kind=2:=h2;refine⟨_,DT.cut,pW (zO (a:=a.parent) (b:=iS) ?_)⟩;by_cases hr:a.parent=iS;rw[ah hr];have hE:=agd λg=>g.2 hr;refine de 166 [(2,.ptr 2 0),(3,.ptr 3 0)] [(2,aH (ij x)),(3,aH (cA a))] kK wS oS ?_;revert hE;exact H2.out;rw[ai hr];rw[ag ⟨h2,hr⟩,cr,dM]at hE;have hl:=yd h a a.parent;unfold jq at hE;generalize hF:Eo x a.parent=F at hl hE;obtain⟨b,fb⟩:=F;refine cl hl.cut ?_;cases hb:vz x a a.parent with
   |false=>rw[hb,ag rfl,eU dD]at hE;refine bF ?_;rw[<-hE];exact rfl
   |true=>
    rw[hb,af dD]at hE;refine bF ⟨none,?_⟩;have bad:jg b=false->E=8:=λg=>by rw[show(if jg (b,fb).fst=true then(0:Int)else 8)=8 from by rw[show jg (b,fb).fst=false from g];rfl,eU dD]at hE;exact hE.symm
    refine cm (λhk=>?_) (λhk=>?_);have hk:b.kind≠1:=hk;rw[bad (by unfold jg;rw[ai hk];rfl)];exact rfl;have hk:b.kind=1:=hk;refine cm (λht=>?_) (λht=>?_);have ht:b.type≠4:=ht;rw[bad (by unfold jg;rw[ai ht,Bool.and_false])];exact rfl;have ht:b.type=4:=ht;rw[show(if jg (b,fb).fst=true then(0:Int)else 8)=0 from ag (by show jg b=true;unfold jg;rw[ah hk,ah ht];rfl),gm rfl]at hE;refine de 166 [(2,.ptr 2 0),(3,.ptr 3 0)] [(2,aH (ij x)),(3,aH (cA a))] kK wS oS ?_;revert hE;exact H2.out
  case r2=>
   intro hE;obtain⟨R,hR⟩:∃R,((a.over.map λi=>jq x a i (fF a.kind a.file))++[if a.kind=2/\a.parent=a.file then 20 else 0,if a.kind=6/\a.fr=a.to then 1 else 0])=R:=⟨_,rfl⟩;rw[hR]at hE;refine share (T:=?T3) (λH3=>?m3) ?r3;case m3=>
    refine bJ 166 (λk:Nat=>[(2,.ptr 2 0),(3,.ptr 3 0),(9,.p (.sl ([a.fr,a.to].map cI))),(10,.p (.int .i64 (k:Int)))]) (λ_=>[(2,aH (ij x)),(3,aH (cA a))]) (λk=>k<=2/\(a.kind≠6->k=0)/\bf ((if a.kind=6 then([a.fr,a.to].drop k).map (λi=>jq x a i (wJ a.file i))else[])++R)=E) (λk=>2-k) 0 ⟨dD,λ_=>rfl,hE⟩ kK ⟨bw.refl _,bw.refl _,bw.LL _ _ _ _,bw.refl _,trivial⟩ oS ?_;rintro k ⟨hk,hk6,hE⟩;refine⟨none,aF (λhlt=>?_) (λhge=>?_)⟩;rotate_left;have hge:k=2:=by have hge:¬(k:Int)<2:=hge;omega
    subst hge;have hE:bf R=E:=by by_cases g:a.kind=6;rw[ag g]at hE;exact hE;rw[af g]at hE;exact hE
    refine de 166 [(2,.ptr 2 0),(3,.ptr 3 0)] [(2,aH (ij x)),(3,aH (cA a))] kK wS oS ?_;revert hE;exact H3.out;have hlt:k<2:=by have hlt:(k:Int)<2:=hlt;omega
    refine aC (λh6=>?_) (λh6=>?_);rotate_left;have h6:¬a.kind=6:=h6;rw[af h6,dM]at hE;refine de 166 [(2,.ptr 2 0),(3,.ptr 3 0)] [(2,aH (ij x)),(3,aH (cA a))] kK wS oS ?_;revert hE;exact H3.out;have h6:a.kind=6:=h6;have eM:k<[a.fr,a.to].length:=hlt;rw[ag h6,bY eM,bB,cr]at hE;have fW:([a.fr,a.to].map cI)[((k:Nat):Int).toNat]?=some (cI [a.fr,a.to][k]):=eC rfl eM;generalize[a.fr,a.to][k]=i at hE fW;have hl:=yd h a i;obtain⟨e,he⟩:∃e,jq x a i (wJ a.file i)=e:=⟨_,rfl⟩;rw[he]at hE;unfold jq at he;generalize hF:Eo x i=F at hl he;obtain⟨b,fb⟩:=F;refine⟨.plan ⟨[0,1,2,3,4,5,6,7,8,9],[10,11],[],[2,3]⟩ (.one 0 (.one 1 (.one 2 (.one 3 (.one 4 (.one 5 (.one 6 (.one 7 (.one 8 (.one 9 (.alt 10 (.alt 11 (.one 12 (.fin)) (.stop)) (.stop)))))))))))) none,kK,?_⟩;refine⟨_,rfl,rfl,_,rfl,rfl,_,rfl,rfl,_,rfl,rfl,.p (.imp (cI i)),⟨oO,_,fW,rfl,rfl⟩,rfl,?_⟩;refine⟨_,rfl,rfl,?_⟩;refine⟨.p (.eN [.agg (cA b),.bool (vz x a i)]),⟨_,hl.cut,λr hr=>by subst hr;rfl⟩,rfl,?_⟩;refine⟨_,rfl,rfl,_,rfl,rfl,_,rfl,rfl,rfl,rfl,_,rfl,?_⟩;cases hb:vz x a i with
    |false=>rw[hb,ag rfl]at he;subst he;rw[eU dD]at hE;refine bF ?_;rw[<-hE];exact rfl
    |true=>
     rw[hb,af dD]at he;refine bF (bZ 11 kK ⟨oO,_,fW,rfl,?_⟩);refine pW (zO (a:=i) (b:=a.file) ?_);by_cases hf:i=a.file;rw[ah hf];rw[ag (show wJ a.file i (b,fb).fst=true by unfold wJ;rw[ah hf];rfl)]at he;subst he;rw[gm rfl]at hE;exact nx (k+1) (aT (k+1) ⟨hlt,λg=>absurd h6 g,by rw[ag h6];exact hE⟩ mM kK wS oS);rw[ai hf];refine cl (IX a.file b).cut ?_;cases hq:fk a.file b with
     |false=>rw[af (show¬wJ a.file i (b,fb).fst=true by unfold wJ;rw[ai hf,gA];show¬fk a.file b=true;rw[hq];decide)]at he;subst he;rw[eU dD]at hE;refine bF ?_;rw[<-hE];exact rfl
     |true=>rw[ag (show wJ a.file i (b,fb).fst=true by unfold wJ;rw[ai hf,gA];exact hq)]at he;subst he;rw[gm rfl]at hE;exact bF (nx (k+1) (aT (k+1) ⟨hlt,λg=>absurd h6 g,by rw[ag h6];exact hE⟩ mM kK wS oS))
   case r3=>
    intro hE;subst hR;obtain⟨L,hL⟩:∃L,[if a.kind=2/\a.parent=a.file then(20:Int)else 0,if a.kind=6/\a.fr=a.to then 1 else 0]=L:=⟨_,rfl⟩;rw[hL]at hE;refine bJ 166 (λk:Nat=>[(2,.ptr 2 0),(3,.ptr 3 0),(13,.p (.int .i64 (k:Int)))]) (λ_=>[(2,aH (ij x)),(3,aH (cA a))]) (λk=>k<=a.over.length/\bf (((a.over.drop k).map λi=>jq x a i (fF a.kind a.file))++L)=E) (λk=>a.over.length-k) 0 ⟨zL,hE⟩ kK wS oS ?_;rintro k ⟨hk,hE⟩;refine cq (l:=a.over) (f:=cI) (λhlt=>?_) (λhge=>?_);rotate_left;rw[cZ (jd hge),fM,dM,<-hL]at hE;refine⟨none,aC (λh2=>?_) (λh2=>?_)⟩;have h2:a.kind=2:=h2;refine pW (jw (a:=a.parent) (b:=a.file) ?_);by_cases hp:a.parent=a.file;rw[ah hp];rw[ag ⟨h2,hp⟩,eU dD]at hE;rw[<-hE];exact rfl;rw[ai hp];rw[af (λg=>hp g.2),gm rfl]at hE;refine⟨none,aC (λh6=>absurd (show a.kind=6 from h6) oO) (λh6=>?_)⟩;rw[af (λg=>oO)]at hE;rw[<-hE];exact rfl;have h2:¬a.kind=2:=h2;rw[af (λg=>h2 g.1),gm rfl]at hE;refine⟨none,aC (λh6=>?_) (λh6=>?_)⟩;have h6:a.kind=6:=h6;refine pW (jw (a:=a.fr) (b:=a.to) ?_);by_cases hp:a.fr=a.to;rw[ah hp];rw[ag ⟨h6,hp⟩]at hE;rw[<-hE];exact rfl;rw[ai hp];rw[af (λg=>hp g.2)]at hE;rw[<-hE];exact rfl;have h6:¬a.kind=6:=h6;rw[af (λg=>h6 g.1)]at hE;rw[<-hE];exact rfl;have fW:(a.over.map cI)[((k:Nat):Int).toNat]?=some (cI a.over[k]):=eC rfl hlt;rw[bY hlt,bB,cr]at hE;generalize a.over[k]=i at hE fW;have hl:=yd h a i;obtain⟨e,he⟩:∃e,jq x a i (fF a.kind a.file)=e:=⟨_,rfl⟩;rw[he]at hE;unfold jq at he;generalize hF:Eo x i=F at hl he;obtain⟨b,fb⟩:=F;refine⟨.plan ⟨[0,1,2,3,4,5,6,7,8,9,10],[11,12],[],[2,3]⟩ (.one 0 (.one 1 (.one 2 (.one 3 (.one 4 (.one 5 (.one 6 (.one 7 (.one 8 (.one 9 (.one 10 (.alt 11 (.alt 12 (.one 13 (.fin)) (.stop)) (.stop))))))))))))) none,kK,?_⟩;refine⟨_,rfl,rfl,_,rfl,rfl,_,rfl,rfl,_,rfl,rfl,_,rfl,rfl,.p (.imp (cI i)),⟨oO,_,fW,rfl,rfl⟩,rfl,?_⟩;refine⟨_,rfl,rfl,?_⟩;refine⟨.p (.eN [.agg (cA b),.bool (vz x a i)]),⟨_,hl.cut,λr hr=>by subst hr;rfl⟩,rfl,?_⟩;refine⟨_,rfl,rfl,_,rfl,rfl,_,rfl,rfl,rfl,rfl,_,rfl,?_⟩;cases hb:vz x a i with
    |false=>rw[hb,ag rfl]at he;subst he;rw[eU dD]at hE;refine bF ?_;rw[<-hE];exact rfl
    |true=>
     rw[hb,af dD]at he;refine bF ⟨none,?_⟩;have good:fF a.kind a.file b=true->bf (((a.over.drop (k+1)).map λi=>jq x a i (fF a.kind a.file))++L)=E:=λg=>by rw[ag g]at he;subst he;rw[gm rfl]at hE;exact hE
     have bad:¬fF a.kind a.file b=true->E=8:=λg=>by rw[af g]at he;subst he;rw[eU dD]at hE;exact hE.symm
     refine cm (λh7=>?_) (λh7=>?_);have h7:a.kind≠7:=h7;refine cm (λhk2=>?_) (λhk2=>?_);have hk2:b.kind≠a.kind:=hk2;rw[bad (by unfold fF;simp[h7,hk2])];exact rfl;have hk2:b.kind=a.kind:=hk2;refine pW (zO (a:=b.file) (b:=a.file) ?_);by_cases hf:b.file=a.file;rw[ah hf];have hE:=good (by unfold fF;simp[hk2,hf]);exact nx (k+1) (aT (k+1) ⟨hlt,hE⟩ mM kK wS oS);rw[ai hf];rw[bad (by unfold fF;simp[h7,hf])];exact rfl;have h7:a.kind=7:=h7;have hE:=good (by unfold fF;simp[h7]);exact nx (k+1) (aT (k+1) ⟨hlt,hE⟩ mM kK wS oS)
def vC (x:jj)(d:Dg):jj×Int:=if d∉lN x then(iU,7)else if x.pats.any (λk=>decide (d∈k.cS))=true then(iU,19)else(⟨x.pats.filter λk=>!decide (k.id=d),x.atoms.filter λa=>!decide (a.id.p=d)⟩,0)
def wK {α:Type}(gt:α->Bool)(new:List α)(r:List α×Bool)(y:α):List α×Bool:=if !r.2&&gt y then(r.1++new++[y],true)else(r.1++[y],r.2)
def gG {α:Type}(gt:α->Bool)(new:List α)(l:List α)(k:Nat):List α×Bool:=(l.take k).foldl (wK gt new) ([],false)
def pI {α:Type}(gt:α->Bool)(new:List α)(l:List α):List α:=if(gG gt new l l.length).2 then(gG gt new l l.length).1 else(gG gt new l l.length).1++new
theorem yg {α:Type}{gt:α->Bool}{new:List α}{l:List α}{k:Nat}(h:k<l.length):gG gt new l (k+1)=wK gt new (gG gt new l k) l[k]:=by unfold gG;rw[cR h,mN];rfl
theorem FE {α:Type}(gt:α->Bool)(new l:List α):∀k,k<=l.length->(gG gt new l k).1.length<=k+if(gG gt new l k).2 then new.length else 0:=by
 intro k;induction k with
 |zero=>intro _;exact zL
 |succ k ih=>
  intro hk;have ih:=ih oO;rw[yg oO];unfold wK;cases hp:(gG gt new l k).2 with
  |true=>rw[hp]at ih;simp only[xD,tO,af (show¬false=true by decide),if_true,aA,fc]at ih⊢;omega
  |false=>rw[hp]at ih;simp only[Bool.not_false,gO,af (show¬false=true by decide)]at ih⊢;split;simp only[aA,fc,if_true];omega;simp only[aA,fc,af (show¬false=true by decide)];omega
def MI (d:Dg)(k:yb):Bool:=decide (dy k.id d>0)
def OY (d:Dg)(a:bR):Bool:=decide (dy a.id.p d>0)
def GF (x:jj)(k:yb)(l:List bR):jj:=⟨pI (MI k.id) [k] x.pats,pI (OY k.id) l x.atoms⟩
theorem aco (x:jj)(q:yb)(new:List bR)(h1:x.pats.length<=2^20)(h2:x.atoms.length<=2^28)(h3:new.length<=2^28):av C 55 [.agg (ij x),.agg (gi q),.sl (gI new)] (λr=>r=.val (.agg (ij (GF x q new)))):=by
 obtain⟨ps,ats⟩:=x;simp only at h1 h2;unfold ij;refine dY [12] Tryz.func55 rfl rfl rfl ?_;refine bJ 102 (λk:Nat=>[(2,.p (.sl (gI new))),(3,.ptr 3 0),(4,.ptr 4 0),(6,.ptr 6 0),(7,.ptr 7 0),(8,.p (.bool (gG (MI q.id) [q] ps k).2)),(9,.p (.int .i64 (k:Int)))]) (λk=>[(3,[.p (.sl (ps.map gi)),.p (.sl (ats.map cA))]),(4,aH (gi q)),(6,[.full [],.full []]),(7,[.gd 47 99 33 ((gG (MI q.id) [q] ps k).1.map gi),.full []])]) (λk=>k<=ps.length) (λk=>ps.length-k) 0 zL kK wS ⟨aG kK,aG kK,aG kK,uI kK (bw.lu _ _ _) (bw.refl _),trivial⟩ ?_;intro k hk;have EC:=FE (MI q.id) [q] ps k hk;have EC:(gG (MI q.id) [q] ps k).1.length<=2^21:=by refine cg EC ?_;split;rw[fc];omega;omega
 refine cq (λhlt=>?_) (λhge=>?_);have oG:=yg (gt:=MI q.id) (new:=[q]) hlt;have fW:=λK (hK:K (gi ps[k]))=>ix (f:=gi) (l:=ps) (m:=33) (K:=K) hlt hK;generalize ps[k]=y at oG fW;generalize gG (MI q.id) [q] ps k=R at oG EC;obtain⟨O,P⟩:=R;simp only at EC;have fin:=λ(Z:List yb) (h:Z.length<=2^21+1)=>show((Z.map gi).length+1)*56<=2^47 by rw[aj];omega
 refine bZ 11 kK (bF ?_);cases hP:P with
 |true=>rw[hP]at oG;have oG:gG (MI q.id) [q] ps (k+1)=(O++[y],true):=oG;refine bZ 8 kK (fW _ ⟨_,rfl,?_⟩);refine⟨iu,iu (l:=[y]),fin O oO,(O++[y]).map gi,by rw[aD];rfl,?_⟩;exact nx (k+1) (aT (k+1) hlt mM kK (by rw[oG];exact wS) (by rw[oG];exact oS))
 |false=>
  rw[hP]at oG;refine fW _ (cl (nH y.id q.id).cut (aF (λg=>?_) (λg=>?_)));have oG:gG (MI q.id) [q] ps (k+1)=(O++[q]++[y],true):=by rw[oG];exact ag (ah g)
  refine⟨iu,iu (l:=[q]),fin O oO,(O++[q]).map gi,by rw[aD];rfl,?_⟩;refine bZ 8 kK (fW _ ⟨_,rfl,?_⟩);refine⟨iu,iu (l:=[y]),fin (O++[q]) (by rw[aA,fc];omega),(O++[q]++[y]).map gi,by rw[aD (l₁:=O++[q])];rfl,?_⟩;exact nx (k+1) (aT (k+1) hlt mM kK (by rw[oG];exact wS) (by rw[oG];exact oS));have oG:gG (MI q.id) [q] ps (k+1)=(O++[y],false):=by rw[oG];exact af (show¬(!false&&MI q.id y)=true by unfold MI;rw[ai g];decide)
  refine bZ 8 kK (fW _ ⟨_,rfl,?_⟩);refine⟨iu,iu (l:=[y]),fin O oO,(O++[y]).map gi,by rw[aD];rfl,?_⟩;exact nx (k+1) (aT (k+1) hlt mM kK (by rw[oG];exact wS) (by rw[oG];exact oS))
 obtain rfl:k=ps.length:=oO
 have hF:pI (MI q.id) [q] ps=if(gG (MI q.id) [q] ps ps.length).2 then(gG (MI q.id) [q] ps ps.length).1 else(gG (MI q.id) [q] ps ps.length).1++[q]:=rfl;generalize gG (MI q.id) [q] ps ps.length=R at hF EC;obtain⟨O,P⟩:=R;simp only at EC hF;refine share (T:=?T2) (λH2=>?m2) ?r2;case m2=>
  refine bF ?_;cases hP:P with
  |true=>
   rw[hP,ag rfl]at hF;obtain⟨Z,hZ⟩:∃Z,Z=O:=⟨_,rfl⟩;have hF2:pI (MI q.id) [q] ps=Z:=by rw[hF,hZ]
   refine de 102 [(2,.p (.sl (gI new))),(3,.ptr 3 0),(4,.ptr 4 0),(6,.ptr 6 0),(7,.ptr 7 0)] [(3,[.p (.sl (ps.map gi)),.p (.sl (ats.map cA))]),(4,aH (gi q)),(6,[.full [],.full []]),(7,[.gd 47 99 33 (Z.map gi),.full []])] kK wS (by rw[hZ];exact oS) ?_;clear hZ;revert Z;exact H2.out
  |false=>
   rw[hP,af dD]at hF;refine⟨iu,iu (l:=[q]),by show((O.map gi).length+1)*56<=_;rw[aj];omega,(O++[q]).map gi,by rw[aD];rfl,?_⟩;obtain⟨Z,hZ⟩:∃Z,Z=O++[q]:=⟨_,rfl⟩;have hF2:pI (MI q.id) [q] ps=Z:=by rw[hF,hZ]
   rw[<-hZ];refine de 102 [(2,.p (.sl (gI new))),(3,.ptr 3 0),(4,.ptr 4 0),(6,.ptr 6 0),(7,.ptr 7 0)] [(3,[.p (.sl (ps.map gi)),.p (.sl (ats.map cA))]),(4,aH (gi q)),(6,[.full [],.full []]),(7,[.gd 47 99 33 (Z.map gi),.full []])] kK wS oS ?_;clear hZ;revert Z;exact H2.out
 case r2=>
  intro Z hF2;unfold GF;rw[show pI (MI (q.id)) [q] (⟨ps,ats⟩:jj).pats=Z from hF2];clear hF EC hF2 hge hk O P;refine bJ 102 (λk:Nat=>[(2,.p (.sl (gI new))),(3,.ptr 3 0),(4,.ptr 4 0),(6,.ptr 6 0),(7,.ptr 7 0),(8,.p (.bool (gG (OY q.id) new ats k).2)),(10,.p (.int .i64 (k:Int)))]) (λk=>[(3,[.p (.sl (ps.map gi)),.p (.sl (ats.map cA))]),(4,aH (gi q)),(6,[.full [],.full []]),(7,[.gd 47 99 33 (Z.map gi),.gd 92 109 172 ((gG (OY q.id) new ats k).1.map cA)])]) (λk=>k<=ats.length) (λk=>ats.length-k) 0 zL kK wS ⟨aG kK,aG kK,aG kK,uI kK (bw.refl _) (bw.lu _ _ _),trivial⟩ ?_;intro k hk;have EC:=FE (OY q.id) new ats k hk;have EC:(gG (OY q.id) new ats k).1.length<=2^29:=by refine cg EC ?_;split;omega;omega
  refine cq (λhlt=>?_) (λhge=>?_);have oG:=yg (gt:=OY q.id) (new:=new) hlt;have fW:=λK (hK:K (cA ats[k]))=>ix (f:=cA) (l:=ats) (m:=172) (K:=K) hlt hK;generalize ats[k]=y at oG fW;generalize gG (OY q.id) new ats k=R at oG EC;obtain⟨O,P⟩:=R;simp only at EC;have fin:=λ(Z:List bR) (h:Z.length<=2^30)=>show((Z.map cA).length+1)*296<=2^47 by rw[aj];omega
  have al6:((O.map cA).length+(gI new).length)*296<=2^47:=by unfold gI;rw[aj,aj];omega
  refine bZ 12 kK (bF ?_);cases hP:P with
  |true=>rw[hP]at oG;have oG:gG (OY q.id) new ats (k+1)=(O++[y],true):=oG;refine bZ 8 kK (fW _ ⟨_,rfl,?_⟩);refine⟨fR,fR (l:=[y]),fin O oO,(O++[y]).map cA,by rw[aD];rfl,?_⟩;exact nx (k+1) (aT (k+1) hlt mM kK (by rw[oG];exact wS) (by rw[oG];exact oS))
  |false=>
   rw[hP]at oG;refine fW _ (cl (nH y.id.p q.id).cut (aF (λg=>?_) (λg=>?_)));have oG:gG (OY q.id) new ats (k+1)=(O++new++[y],true):=by rw[oG];exact ag (ah g)
   refine⟨fR,fR,al6,(O++new).map cA,by rw[aD];rfl,?_⟩;refine bZ 8 kK (fW _ ⟨_,rfl,?_⟩);refine⟨fR,fR (l:=[y]),fin (O++new) (by rw[aA];omega),(O++new++[y]).map cA,by rw[aD (l₁:=O++new)];rfl,?_⟩;exact nx (k+1) (aT (k+1) hlt mM kK (by rw[oG];exact wS) (by rw[oG];exact oS));have oG:gG (OY q.id) new ats (k+1)=(O++[y],false):=by rw[oG];exact af (show¬(!false&&OY q.id y)=true by unfold OY;rw[ai g];decide)
   refine bZ 8 kK (fW _ ⟨_,rfl,?_⟩);refine⟨fR,fR (l:=[y]),fin O oO,(O++[y]).map cA,by rw[aD];rfl,?_⟩;exact nx (k+1) (aT (k+1) hlt mM kK (by rw[oG];exact wS) (by rw[oG];exact oS))
  obtain rfl:k=ats.length:=oO
  have hF:pI (OY q.id) new ats=if(gG (OY q.id) new ats ats.length).2 then(gG (OY q.id) new ats ats.length).1 else(gG (OY q.id) new ats ats.length).1++new:=rfl;show _;rw[show pI (OY q.id) new (⟨ps,ats⟩:jj).atoms=pI (OY q.id) new ats from rfl,hF];generalize gG (OY q.id) new ats ats.length=R at EC;obtain⟨O,P⟩:=R;simp only at EC;refine bF ?_;cases hP:P with
  |true=>exact rfl
  |false=>refine⟨fR,fR,by show((O.map cA).length+(gI new).length)*296<=_;unfold gI;rw[aj,aj];omega,(O++new).map cA,by rw[aD];rfl,?_⟩;exact rfl
def He (d:Dg)(k:yb):Bool:=decide (k.id≠d)&&decide (d∈k.cS)
def Eu (x:jj)(d:Dg):jj×Int:=if d∉lN x then(iU,7)else if x.pats.any (He d)=true then(iU,19)else(⟨x.pats.filter λk=>!decide (k.id=d),x.atoms.filter λa=>!decide (a.id.p=d)⟩,0)
theorem Ev {α:Type}{f:α->Bool}{l:List α}{k:Nat}(h:k<l.length):(l.take (k+1)).filter f=(l.take k).filter f++(if f l[k]=true then[l[k]]else[]):=by rw[cR h,qI,mK];split<;>rfl
theorem Sd {x:jj}(h:SzQ x)(h1:x.pats.length<=2^20)(h2:x.atoms.length<=2^28)(d:Dg):av C 21 [.agg (ij x),.agg (cD d)] (λr=>r=.val (Uk (Eu x d))):=by
 obtain⟨R,hR⟩:∃R,Eu x d=R:=⟨_,rfl⟩;rw[hR];have FD:=Ep x d h.pats;have hnl:=h.cS;obtain⟨ps,ats⟩:=x;simp only at h1 h2 hnl;unfold Eu at hR;simp only at hR;unfold ij at FD⊢;refine ak Tryz.func21 rfl rfl rfl (cl FD (bF ?_));by_cases hm:d∈lN ⟨ps,ats⟩;rotate_left;rw[ai hm];rw[ag hm]at hR;rw[<-hR];exact rfl;rw[ah hm];rw[af (λg=>g hm)]at hR;refine bJ 86 (λk:Nat=>[(2,.ptr 2 0),(3,.ptr 3 0),(4,.ptr 4 0),(6,.ptr 6 0),(7,.p (.int .i64 (k:Int)))]) (λk=>[(2,[.p (.sl (ps.map gi)),.p (.sl (ats.map cA))]),(3,aH (cD d)),(4,[.full [],.full []]),(6,[.gd 57 99 33 (((ps.take k).filter λk=>!decide (k.id=d)).map gi),.full []])]) (λk=>k<=ps.length/\(ps.take k).any (He d)=false) (λk=>ps.length-k) 0 ⟨zL,rfl⟩ kK wS ⟨aG kK,aG kK,aG kK,uI kK (bw.lu _ _ _) (bw.refl _),trivial⟩ ?_;rintro k ⟨hk,hn⟩;refine cq (λhlt=>?_) (λhge=>?_);have hf:=Ev (f:=λk:yb=>!decide (k.id=d)) hlt;have hfl:((ps.take k).filter λk=>!decide (k.id=d)).length<=2^20:=cg (lq _ _) (by rw[aR];omega);have Vx:=hnl ps[k] (aQ _);have hall:He d ps[k]=false->(ps.take (k+1)).any (He d)=false:=λg=>by rw[cR hlt,xJ,hn,List.any_cons,g];rfl
 have acp:He d ps[k]=true->ps.any (He d)=true:=λg=>eA.2 ⟨ps[k],aQ _,g⟩;have fW:=λK (hK:K (gi ps[k]))=>ix (f:=gi) (l:=ps) (m:=33) (K:=K) hlt hK;generalize ps[k]=y at hf Vx hall acp fW;refine bZ 16 kK (fW _ ⟨sC,ct,rfl,rfl,rfl,mw (a:=y.id) (b:=d) ?_⟩);by_cases he:y.id=d;rw[ah he];refine bZ 7 kK (fW _ ⟨sC,ct,rfl,rfl,rfl,mw (a:=y.id) (b:=d) ?_⟩);rw[ah he];rw[af (by rw[ah he];decide),bh]at hf;exact nx (k+1) (aT (k+1) ⟨hlt,hall (by unfold He;simp[he])⟩ mM kK wS (by rw[hf];exact oS));rw[ai he];refine fW _ (cl (Oq y.cS d Vx) ?_);by_cases hd:d∈y.cS;rw[ah hd];rw[ag (acp (by unfold He;simp[he,hd]))]at hR;rw[<-hR];exact rfl;rw[ai hd];refine bZ 7 kK (fW _ ⟨sC,ct,rfl,rfl,rfl,mw (a:=y.id) (b:=d) ?_⟩);rw[ai he];rw[ag (by rw[ai he];rfl)]at hf;refine bZ 8 kK (fW _ ⟨_,rfl,?_⟩);refine⟨iu,iu (l:=[y]),by show((((ps.take k).filter λk=>!decide (k.id=d)).map gi).length+1)*56<=_;rw[aj];omega,((ps.take (k+1)).filter λk=>!decide (k.id=d)).map gi,by rw[hf,aD];rfl,?_⟩;exact nx (k+1) (aT (k+1) ⟨hlt,hall (by unfold He;simp[hd])⟩ mM kK wS oS);obtain rfl:k=ps.length:=oO
 rw[aV]at hn⊢;rw[af (by rw[hn];decide)]at hR;generalize ps.filter (λk=>!decide (k.id=d))=P at hR;refine bJ 86 (λk:Nat=>[(2,.ptr 2 0),(3,.ptr 3 0),(4,.ptr 4 0),(6,.ptr 6 0),(8,.p (.int .i64 (k:Int)))]) (λk=>[(2,[.p (.sl (ps.map gi)),.p (.sl (ats.map cA))]),(3,aH (cD d)),(4,[.full [],.full []]),(6,[.gd 57 99 33 (P.map gi),.gd 83 109 172 (((ats.take k).filter λa=>!decide (a.id.p=d)).map cA)])]) (λk=>k<=ats.length) (λk=>ats.length-k) 0 zL kK wS ⟨aG kK,aG kK,aG kK,uI kK (bw.refl _) (bw.lu _ _ _),trivial⟩ ?_;intro k hk;refine cq (λhlt=>?_) (λhge=>?_);have hf:=Ev (f:=λa:bR=>!decide (a.id.p=d)) hlt;have hfl:((ats.take k).filter λa=>!decide (a.id.p=d)).length<=2^28:=cg (lq _ _) (by rw[aR];omega);have fW:=λK (hK:K (cA ats[k]))=>ix (f:=cA) (l:=ats) (m:=172) (K:=K) hlt hK;generalize ats[k]=a at hf fW;refine bZ 8 kK (fW _ ⟨sC,ct,rfl,rfl,rfl,mw (a:=a.id.p) (b:=d) ?_⟩);by_cases he:a.id.p=d;rw[ah he];rw[af (by rw[ah he];decide),bh]at hf;exact nx (k+1) (aT (k+1) hlt mM kK wS (by rw[hf];exact oS));rw[ai he];rw[ag (by rw[ai he];rfl)]at hf;refine bZ 8 kK (fW _ ⟨_,rfl,?_⟩);refine⟨fR,fR (l:=[a]),by show((((ats.take k).filter λa=>!decide (a.id.p=d)).map cA).length+1)*296<=_;rw[aj];omega,((ats.take (k+1)).filter λa=>!decide (a.id.p=d)).map cA,by rw[hf,aD];rfl,?_⟩;exact nx (k+1) (aT (k+1) hlt mM kK wS oS);obtain rfl:k=ats.length:=oO
 rw[aV];rw[<-hR];exact rfl
def cF1:dw:=⟨1,aP,1,aP,[],0,[],aP,aP,[],[]⟩
def cF2:dw:=⟨5,aP,0,aP,[],0,[],aP,aP,[[120]],[]⟩
def pP:gr:=⟨[97,110,110],[],0,[],[cF1,cF2]⟩
def dP:Dg:=⟨[23,180,41,195,250,231,133,240,108,104,101,57,105,245,227,40,114,220,151,71,250,157,134,243,99,120,231,116,28,188,111,232],rfl⟩
def cR1:dw:=⟨7,aP,0,aP,[],0,[],aP,aP,[],[⟨dP,1⟩]⟩
def pQ:gr:=⟨[97,110,110],[],0,[],[cR1]⟩
def dQ:Dg:=⟨[155,127,202,92,215,55,3,234,44,4,128,9,133,60,1,125,99,3,124,77,133,249,216,159,23,223,165,91,1,144,194,85],rfl⟩
def sP:List fD:=[⟨dP,pP⟩]
def sQ:List fD:=[⟨dP,pP⟩,⟨dQ,pQ⟩]
theorem acV {p:gr}{e:Bytes}{d:Dg}(h:mg p=(e,0))(hs:ajP e=d.1):jB p=(d,0):=by unfold jB;rw[h,af (λg=>g rfl)];exact aY (λz:Dg=>(z,(0:Int))) (Subtype.ext ((ajQ e).trans hs))
theorem Ww {p:gr}(h:(mg p).2=0):mg p=((mg p).1,0):=by rw[<-h]
theorem idP:jB pP=(dP,0):=acV (Ww kK) kK
theorem idQ:jB pQ=(dQ,0):=acV (Ww kK) kK
theorem acW:(nL pP).1=(di pP).1.map (cM dP):=by unfold nL;rw[idP,af (λg=>g rfl)]
def lP:List bR:=(di pP).1.map (cM dP)
theorem Wx {s:List fD}{p:gr}{d:Dg}(hi:jB p=(d,0))(hg:(wC s d).2=false)(hn:mV (iz s) (bC p)=true)(hr:qE s p d=0)(hl:s.length<400):KW s p=(nM s ⟨d,p⟩,d,0):=by unfold KW;rw[hi,af (λg=>g rfl),hg,af dD,hn,af dD,hr,af (λg=>g rfl),af oO]
theorem ajS:qE sP pQ dQ=0:=by
 have h1:iT sP ⟨dP,1⟩=(lP.getD 1 dK,true):=by unfold iT;rw[show(wC sP dP).1=pP from kK,acW];exact af dD
 have ho:ovE sP cR1 dQ ⟨dP,1⟩=0:=by unfold ovE;rw[h1];kernel_rfl
 show bf ([chE sP cR1 dQ]++[])=0;have hc:chE sP cR1 dQ=0:=by show bf (0::0::0::0::([ovE sP cR1 dQ ⟨dP,1⟩]++[]))=0;rw[ho];rfl
 rw[hc];rfl
theorem ajT:KW [] pP=(sP,dP,0):=(Wx idP rfl kK kK dD).trans rfl
theorem ajU:KW sP pQ=(sQ,dQ,0):=(Wx idQ kK kK ajS dD).trans (aY (λz:List fD=>(z,dQ,(0:Int))) kK)
theorem Vb (c:dw)(h1:c.name=[])(h2:c.data=[])(h3:SzS c.lines)(h4:c.over.length<=1):SzC c:=⟨by rw[h1];exact zL,by rw[h2];exact zL,h3,oO⟩
theorem ajV:DW pP:=Ox ⟨dD,dD,dD,dD,λc hc=>by rcases aL.1 hc with rfl|hc;exact Vb _ rfl rfl ⟨zL,λx h=>by cases h⟩ dD;obtain rfl:=aO.1 hc;exact Vb _ rfl rfl ⟨dD,λx h=>by rw[aO.1 h];decide⟩ dD⟩ (TR kK)
theorem ajW:DW pQ:=Ox ⟨dD,dD,dD,dD,λc hc=>by obtain rfl:=aO.1 hc;exact Vb _ rfl rfl ⟨zL,λx h=>by cases h⟩ dD⟩ (TR kK)
theorem ahR:HA []:=⟨⟨zL,λx h=>by cases h⟩,aho kK,λx h=>by cases h⟩
theorem Kk:HA sP:=by have :=(Wd ahR ajV (cg (Uy kK) dD) (by rw[ajT])).1;rwa[ajT]at this
theorem afq:HA sQ:=by have :=(Wd Kk ajW (cg (Uy kK) dD) (by rw[ajU])).1;rwa[ajU]at this
end Qv
