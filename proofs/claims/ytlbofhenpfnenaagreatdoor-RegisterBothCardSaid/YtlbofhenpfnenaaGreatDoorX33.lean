/- Part 40 of the proof: its lemmas. No condition. -/
import Derived.Test.YtlbofhenpfnenaaGreatDoorX14
import Derived.Test.YtlbofhenpfnenaaGreatDoorX27
import Derived.Test.YtlbofhenpfnenaaGreatDoorX28
set_option maxRecDepth 10000
set_option maxHeartbeats 80000000
set_option linter.all false
open Go Go.Proofs Go.RowKit
namespace Qv
theorem RT:∀(l:List ew)(own:List bw),(fN l own).2=0->∃r,(fN l own).1=own++r/\∀(i:Nat)(h:i<r.length)(z:bf),z∈(r[i]).over->z.p=bz->0<=z.n/\z.n<((own.length+i:Nat):Int)
 |[],own,_=>⟨[],by simp[fN],λi h=>absurd h (gu _)⟩
 |c::l,own,h=>by
  rw[gB]at h⊢;by_cases h1:cQ c≠0;rw[af h1]at h;exact absurd h h1;rw[aa h1]at h⊢;by_cases h2:lp c own≠0;rw[af h2]at h;exact absurd h h2;rw[aa h2]at h⊢;have h1:=ee.1 h1;have h2:=ee.1 h2;obtain⟨r,e,hr⟩:=RT l _ h;refine⟨eu c own.length++r,by rw[e,br],λi hi z hz hp=>?_⟩;by_cases hlt:i<(eu c own.length).length;rw[sS hlt]at hz;rcases Ga h1 _ _ (aL hlt)with q|⟨q,-⟩;rw[q]at hz;cases hz;rw[q]at hz;have h3:=lR.1 h2 (rP z own.length (fh c.kind c.file (kH own z))) (by unfold FL;simp only[aG,aW,aA];exact .inr (.inr (.inr (.inr (.inl ⟨z,hz,rfl⟩)))));have h4:tM z own.length=true:=by unfold rP at h3;by_cases g:tM z own.length=true;exact g;rw[aa g]at h3;exact absurd h3 dD
  unfold tM at h4;rw[af hp,aY,decide_eq_true_eq,decide_eq_true_eq]at h4;omega;have hi2:i-(eu c own.length).length<r.length:=by rw[au]at hi;omega
  rw[xB oO]at hz;have :=hr _ hi2 z hz hp;rw[au]at this;omega
theorem GP {s:List bK}(h:jM s){x:bK}(hx:x∈s){i:Nat}(hi:i<(pM x.pat).length){z:bf}(hz:z∈((pM x.pat)[i]).over):(z.p=x.id/\z.n<(i:Int))\/(z.p∈cu x.pat/\z.p≠x.id):=by
 have hq:=h.q x hx;have hE:=zO hq;have hid:=h.idE hx;have hi1:i<(cn x.pat).1.length:=by rw[hE,ai]at hi;exact hi
 have hb:(pM x.pat)[i]=fD (mL x.pat).1 ((cn x.pat).1[i]):=xJ hE i hi hi1;rw[hb,IG,hid]at hz;obtain⟨y,hy,rfl⟩:=aA.1 ((vO.1 hz).resolve_right λg=>nomatch g);have hc0:(fN x.pat.changes []).2=0:=by rw[<-hq.Rr.all];exact hq.YV
 obtain⟨r,e,hr⟩:=RT x.pat.changes [] hc0;have KV:(cn x.pat).1=r:=by rw[hq.Rr.all,e,jU]
 have hown:y.p=bz->0<=y.n/\y.n<(i:Int):=λhp=>by
  have hir:i<r.length:=by rw[<-KV];exact hi1
  have :=hr i hir y (by
   have e2:r[i]=(cn x.pat).1[i]:=by congr 1;exact KV.symm
   rw[e2];exact hy) hp;simpa using this
 unfold bW;by_cases hp:y.p=bz;have h2:=hown hp;rw[af ⟨hp,h2.1⟩];exact .inl ⟨rfl,h2.2⟩;rw[aa λg=>hp g.1];refine .inr ?_;have hm:(cn x.pat).1[i]∈(fN x.pat.changes []).1:=by rw[<-hq.Rr.all];exact aL hi1
 rcases EY _ _ hc0 _ hm with q|q|⟨c,hc,q,-⟩;cases q;rw[q]at hy;cases hy;rw[q]at hy;have hn:y.p∈cu x.pat:=Mi hq.ok hc (by unfold refsOf;exact pZ _ hy) hp;exact⟨hn,λg=>Wa h.ok hx (g▸hn)⟩
def RU (b a:bw):Prop:=b.kind=7/\a.id∈b.over
theorem RV {l:List bw}{a:bw}:NS l a=true↔∃b,b∈l/\RU b a:=by unfold NS RU;simp[fS]
theorem Jo {s:List bK}(h:jM s){o:List Dg}(ho:∀d,d∈o->d∈dJ s){a:bw}:a∈fu s o↔∃x,x∈s/\x.id∈o/\a∈pM x.pat:=by unfold fu;simp only[dH];constructor;rintro⟨d,hd,ha⟩;obtain⟨x,hx,rfl⟩:=aA.1 (ho d hd);rw[kz h.ok.AJ hx]at ha;exact⟨x,hx,hd,ha⟩;rintro⟨x,hx,hd,ha⟩;exact⟨x.id,hd,by rw[kz h.ok.AJ hx];exact ha⟩
theorem RW {s:List bK}(h:jM s){x:bK}(hx:x∈s){a:bw}(ha:a∈pM x.pat):∃(i:Nat) (hi:i<(pM x.pat).length),(pM x.pat)[i]=a/\a.id=⟨x.id,(i:Int)⟩:=by obtain⟨i,hi,rfl⟩:=xK.1 ha;exact⟨i,hi,rfl,oV h hx i hi⟩
theorem RX {s:List bK}(h:jM s):∀(o p:List Dg),bB s=p++o->∀(l1 l2:List bw)(a b:bw),fu s o=l1++a::l2->b∈fu s p++(l1++[a])->¬RU b a:=by
 have hsub:∀d,d∈bB s->d∈dJ s:=λd hd=>(jQ h.ok d).1 hd;intro o;induction o with
 |nil=>intro p hp l1 l2 a b he;simp[fu]at he
 |cons e o ih=>
  intro p hp l1 l2 a b he hb hr;have hsp:∀d,d∈p->d∈dJ s:=λd hd=>hsub d (by rw[hp];exact fG _ hd);obtain⟨x,hx,hxe⟩:=aA.1 (hsub e (by rw[hp];simp));have hg:(gh s e).1=x.pat:=by rw[<-hxe,kz h.ok.AJ hx]
  have hoc:fu s (e::o)=pM x.pat++fu s o:=by show(dx (gh s e).1).1++fu s o=_;rw[hg];rfl
  have hpe:fu s (p++[e])=fu s p++pM x.pat:=by unfold fu;rw[mg];congr 1;show(dx (gh s e).1).1++[]=_;rw[hg,bg];rfl
  rw[hoc]at he;rcases List.append_eq_append_iff.1 he with⟨u,h1,h2⟩|⟨u,h1,h2⟩;refine ih (p++[e]) (by rw[hp];simp) u l2 a b h2 ?_ hr;rw[hpe];rw[h1]at hb;simpa[br]using hb;cases u with
  |nil=>simp only[bg]at h1;simp only[jU]at h2;refine ih (p++[e]) (by rw[hp];simp) [] l2 a b h2.symm ?_ hr;rw[hpe,h1];simpa[br]using hb
  |cons a' u=>
   rw[dZ]at h2;injection h2 with h2 h3;subst h2;have ha:a∈pM x.pat:=by rw[h1];simp
   obtain⟨i,hi,hia,hid⟩:=RW h hx ha;have Kf:l1.length=i:=by
    have hlt:l1.length<(pM x.pat).length:=by rw[h1];simp
    have e0:(pM x.pat)[l1.length]?=some a:=by rw[h1,dN (ay _)];simp
    have e1:(pM x.pat)[l1.length]=a:=an ((aq hlt).symm.trans e0);have e2:=oV h hx l1.length hlt;rw[e1,hid]at e2;injection e2 with _ e2;omega
   rcases aW.1 hb with hb|hb;obtain⟨y,hy,hyp,hby⟩:=(Jo h hsp).1 hb;obtain⟨j,hj,hjb,-⟩:=RW h hy hby;have hne:y.id≠x.id:=λg=>by have El:=uD h.ok;rw[hp,gW]at El;exact El.2.2 y.id hyp e (by simp) (by rw[g,hxe])
   have h5:=GP h hy hj (z:=a.id) (by rw[hjb];exact hr.2);rw[hid]at h5;rcases h5 with⟨g,-⟩|⟨g,-⟩;exact hne g.symm;obtain⟨q1,q2,hq⟩:=List.append_of_mem hyp;have :=DN h.ok.AJ q1 (q2++e::o) y.id (by rw[hp,hq];simp) y hy rfl x.id g;have El:=uD h.ok;rw[hp,gW]at El;exact El.2.2 x.id (by rw[hq];exact fG _ this) e (by simp) hxe;obtain⟨k,hk,hkb⟩:=xK.1 hb;have hk2:k<=i:=by rw[au,Kf,fo]at hk;omega
   have hki:k<(pM x.pat).length:=oO
   have vk:(pM x.pat)[k]=b:=by
    have e1:(pM x.pat)[k]?=(l1++[a])[k]?:=by rw[h1,show l1++a::u=(l1++[a])++u by simp,cm hk]
    rw[aq hki,aq hk,hkb]at e1;exact an e1
   have h5:=GP h hx hki (z:=a.id) (by rw[vk];exact hr.2);rw[hid]at h5;rcases h5 with⟨-,g⟩|⟨-,g⟩;have g:(i:Int)<(k:Int):=g;omega;exact g rfl
theorem Mn:∀(l1 l2:List bw),∃r,jr (l1++l2)=r++jr l2/\∀b,b∈r->b∈l1|[],l2=>⟨[],rfl,λb h=>nomatch h⟩|x::l1,l2=>by obtain⟨r,e,hr⟩:=Mn l1 l2;show∃r,oR x (jr (l1++l2))=_/\_;unfold oR;split;exact⟨r,e,λb hb=>bh _ (hr b hb)⟩;exact⟨x::r,by rw[e];rfl,λb hb=>by rcases aG.1 hb with rfl|hb;simp;exact bh _ (hr b hb)⟩
theorem Yx {l:List bw}(hn:l.Nodup)(hl:∀l1 l2 a b,l=l1++a::l2->b∈l1++[a]->¬RU b a){a:bw}(ha:a∈l):a∈jr l↔∀b,b∈jr l->¬RU b a:=by
 obtain⟨l1,l2,rfl⟩:=List.append_of_mem ha;have hnot:a∉l1/\a∉l2:=by rw[gW]at hn;refine⟨λg=>hn.2.2 a g a (by simp) rfl,λg=>?_⟩;exact(jh.1 hn.2.1).1 g
 obtain⟨r,e,hr⟩:=Mn l1 (a::l2);have e2:jr (a::l2)=oR a (jr l2):=rfl;rw[e,e2];have ajv:∀b,b∈r->¬RU b a:=λb hb=>hl l1 l2 a b rfl (fG _ (hr b hb));unfold oR;by_cases hq:NS (jr l2) a=true;rw[af hq];obtain⟨b,hb,hbr⟩:=RV.1 hq;constructor;intro g;exfalso;rcases aW.1 g with g|g;exact hnot.1 (hr a g);exact hnot.2 ((vV _).subset g);intro g;exact absurd hbr (g b (pZ _ hb));rw[aa hq];constructor;intro _ b hb hbr;rcases aW.1 hb with hb|hb;exact ajv b hb hbr;rcases aG.1 hb with rfl|hb;exact hl l1 l2 b b rfl (by simp) hbr;exact hq (RV.2 ⟨b,hb,hbr⟩);intro _;simp
end Qv
