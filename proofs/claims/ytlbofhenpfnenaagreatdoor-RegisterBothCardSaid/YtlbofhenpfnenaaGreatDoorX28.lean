/- Part 35 of the proof: its lemmas. No condition. -/
import Derived.Test.YtlbofhenpfnenaaGreatDoorX14
import Derived.Test.YtlbofhenpfnenaaGreatDoorX26
set_option maxRecDepth 10000
set_option maxHeartbeats 80000000
set_option linter.all false
open Go Go.Proofs Go.RowKit
namespace Qv
theorem lG {s:List bK}{x y:bK}:y∈lI s x↔y=x\/y∈s:=by
 induction s with
 |nil=>simp[lI]
 |cons z l ih=>unfold lI;split;simp only[aG,ih];constructor;rintro(g|g|g);exact .inr (.inl g);exact .inl g;exact .inr (.inr g);rintro(g|g|g);exact .inr (.inl g);exact .inl g;exact .inr (.inr g);simp only[aG]
theorem Jg (x:bK):∀s:List bK,(lI s x).length=s.length+1|[]=>rfl|y::l=>by unfold lI;split;rw[aI,Jg x l,aI];rfl
theorem Jh {x:bK}:∀{s:List bK},qn s->(∀y,y∈s->y.id≠x.id)->qn (lI s x)
 |[],_,_=>sV _ _
 |y::l,h,hn=>by
  have h1:=de.1 h;unfold lI;by_cases e:eZ y.id x.id<0;rw[af e];refine de.2 ⟨λz hz=>?_,Jh h1.2 λz hz=>hn z (bh _ hz)⟩;rcases lG.1 hz with rfl|hz;exact e;exact h1.1 z hz;rw[aa e];have hxy:eZ x.id y.id<0:=by have h2:=nU y.id x.id;have h3:eZ y.id x.id≠0:=λg=>hn y (by simp) (mM g);omega
  refine de.2 ⟨λz hz=>?_,h⟩;rcases aG.1 hz with rfl|hz;exact hxy;exact kD hxy (h1.1 z hz)
theorem DM {s:List bK}{x:bK}{d:Dg}:d∈dJ (lI s x)↔d=x.id\/d∈dJ s:=by unfold dJ;simp only[aA,lG];constructor;rintro⟨y,rfl|hy,rfl⟩;exact .inl rfl;exact .inr ⟨y,hy,rfl⟩;rintro(rfl|⟨y,hy,rfl⟩);exact⟨x,.inl rfl,rfl⟩;exact⟨y,.inr hy,rfl⟩
theorem aci {s:List bK}{x:bK}(hA:qn s)(hn:x.id∉dJ s){d:Dg}(hd:d≠x.id):gh (lI s x) d=gh s d:=by have hA2:qn (lI s x):=Jh hA λy hy e=>hn (e▸aA.2 ⟨y,hy,rfl⟩);by_cases h:d∈dJ s;obtain⟨y,hy,rfl⟩:=aA.1 h;rw[kz hA hy,kz hA2 (lG.2 (.inr hy))];rw[EW h,EW (λg=>(DM.1 g).elim hd h)]
theorem Yq {s:List bK}{x:bK}(hA:qn s)(hn:x.id∉dJ s){i:bf}(hi:i.p≠x.id):ij (lI s x) i=ij s i:=by unfold ij;rw[aci hA hn hi]
theorem Mi {p:fW}(h:(mP p).2=0){c:ew}(hc:c∈p.changes){i:bf}(hi:i∈refsOf c)(hz:i.p≠bz):i.p∈cu p:=by unfold cu;rw[aa (λg=>g h)];exact Au.2 (.inr ⟨hz,i,dH.2 ⟨c,hc,hi⟩,rfl⟩)
theorem afb {s:List bK}{x:bK}(hA:qn s)(hn:x.id∉dJ s){p:fW}(hp:(mP p).2=0)(hne:x.id∉cu p){c:ew}(hc:c∈p.changes)(d:Dg):Zb (lI s x) c d=Zb s c d:=by
 have key:∀i,i∈refsOf c->¬i.p=bz->ij (lI s x) i=ij s i:=λi hi hz=>Yq hA hn λe=>hne (e▸Mi hp hc hi hz);have e1:c.file∈refsOf c:=by unfold refsOf;simp
 have e2:c.parent∈refsOf c:=by unfold refsOf;simp
 have e3:c.dc∈refsOf c:=by unfold refsOf;simp
 have e4:c.dy∈refsOf c:=by unfold refsOf;simp
 have e5:∀i,i∈c.over->i∈refsOf c:=λi hi=>by unfold refsOf;simp[hi]
 have hend:∀i,i∈refsOf c->TJ (lI s x) i c.file d=TJ s i c.file d:=λi hi=>by unfold TJ;by_cases g:i.p=bz\/i=c.file;rw[af g,af g];rw[aa g,aa g,key i hi λq=>g (.inl q)]
 have EC:c.over.map (XF (lI s x) c d)=c.over.map (XF s c d):=fR λi hi=>by unfold XF;by_cases g:i.p=bz;rw[af g,af g];rw[aa g,aa g,key i (e5 i hi) g]
 have hfi:(if c.file.p=bz then(0:Int)else if(ij (lI s x) c.file).2=false then 7 else if ej c.kind (ij (lI s x) c.file).1=false then 8 else 0)=(if c.file.p=bz then 0 else if(ij s c.file).2=false then 7 else if ej c.kind (ij s c.file).1=false then 8 else 0):=by by_cases g:c.file.p=bz;rw[af g,af g];rw[aa g,aa g,key _ e1 g]
 have hpa:(if c.parent.p=bz then(0:Int)else if(ij (lI s x) c.parent).2=false then 7 else if AH (ij (lI s x) c.parent).1=false then 8 else 0)=(if c.parent.p=bz then 0 else if(ij s c.parent).2=false then 7 else if AH (ij s c.parent).1=false then 8 else 0):=by by_cases g:c.parent.p=bz;rw[af g,af g];rw[aa g,aa g,key _ e2 g]
 unfold Zb;rw[hfi,hpa,hend _ e3,hend _ e4,EC]
theorem Mj {s:List bK}{x:bK}(hA:qn s)(hn:x.id∉dJ s){p:fW}(hp:(mP p).2=0)(hne:x.id∉cu p)(d:Dg):ux (lI s x) p d=ux s p d:=by unfold ux;rw[fR λc hc=>afb hA hn hp hne hc d]
def Aw (s:List bK)(o:List Dg):Prop:=∀(a b:List Dg)(e:Dg),o=a++e::b->∀y,y∈s->y.id=e->∀q,q∈cu y.pat->q∈a
theorem Gb {s:List bK}{o:List Dg}(h:Aw s o){e:Dg}(he:∀y,y∈s->y.id=e->∀q,q∈cu y.pat->q∈o):Aw s (o++[e]):=by
 intro a b e' hab y hy Zd q hq;rcases List.eq_nil_or_concat b with rfl|⟨b',z,rfl⟩;have h1:=List.append_inj' hab rfl;obtain⟨rfl,h2⟩:=h1;injection h2 with h2 _;subst h2;exact he y hy Zd q hq;have h1:o++[e]=(a++e'::b')++[z]:=by rw[hab];simp
 have h2:=(List.append_inj' h1 rfl).1;exact h a b' e' h2 y hy Zd q hq
theorem Gc {s:List bK}(hA:qn s):∀(n:Nat)(out:List Dg),Aw s out->Aw s (tP s n out)
 |0,out,h=>h
 |n+1,out,h=>by
  unfold tP;cases hf:s.find? (qE out)with
  |none=>exact h
  |some x=>refine Gc hA n _ (Gb h λy hy Zd q hq=>?_);have hx:=nY hf;obtain rfl:=Jb hA hy hx Zd;have hn:=mq hf;unfold qE at hn;simp only[aY,eP,decide_eq_false_iff_not,sP,bU,decide_eq_true_eq]at hn;exact hn.2 q hq
theorem DN {s:List bK}(hA:qn s):Aw s (bB s):=by unfold bB;rw[<-DI hA];exact Gc hA _ _ λa b e h=>by simp at h
theorem Mk {out:List Dg}{P:Dg->Prop}:∀{o:List Dg}{d:Dg},d∈o->d∉out->P d->∃a e b,o=a++e::b/\e∉out/\P e/\∀q,q∈a->q∈out\/¬P q|x::o,d,hd,hn,hp=>by by_cases hx:x∉out/\P x;exact⟨[],x,o,rfl,hx.1,hx.2,λq hq=>by cases hq⟩;have hdo:d∈o:=(aG.1 hd).resolve_left λe=>hx ⟨e▸hn,e▸hp⟩;obtain⟨a,e,b,h1,h2,h3,h4⟩:=Mk hdo hn hp;refine⟨x::a,e,b,by rw[h1];rfl,h2,h3,λq hq=>?_⟩;rcases aG.1 hq with rfl|hq;by_cases g:q∈out;exact .inl g;exact .inr λgp=>hx ⟨g,gp⟩;exact h4 q hq
theorem Ut {t:List bK}(hA:qn t)(hc:∀x,x∈t->∀d,d∈cu x.pat->d∈dJ t){o:List Dg}(ho:Aw t o)(hall:∀d,d∈dJ t->d∈o):(bB t).length=t.length:=by
 have go:∀(n:Nat)(out:List Dg),out.Nodup->(∀d,d∈out->d∈dJ t)->out.length+n=t.length->(tP t n out).length=t.length:=λn=>by
  induction n with
  |zero=>intro out _ _ h;exact h
  |succ n ih=>
   intro out hn hm hl;have hex:∃d,d∈dJ t/\d∉out:=by refine gR λg=>?_;have :∀d,d∈dJ t->d∈out:=λd hd=>gR λq=>g ⟨d,hd,q⟩;have :=rS (Oh hA) this;unfold dJ at this;rw[ai]at this;omega
   obtain⟨d,hd,hdo⟩:=hex;obtain⟨a,e,b,h1,h2,h3,h4⟩:=Mk (P:=λq=>q∈dJ t) (hall d hd) hdo hd;obtain⟨y,hy,Zd⟩:=aA.1 h3;have hny:qE out y=true:=by unfold qE;simp only[aY,eP,decide_eq_false_iff_not,sP,bU,decide_eq_true_eq];refine⟨by rw[Zd];exact h2,λq hq=>?_⟩;have :=ho a b e h1 y hy Zd q hq;rcases h4 q this with g|g;exact g;exact absurd (hc y hy q hq) g
   unfold tP;cases hf:t.find? (qE out)with
   |none=>rw[nW]at hf;exact absurd hny (hf y hy)
   |some x=>have hx:=nY hf;have Bm:=mq hf;unfold qE at Bm;simp only[aY,eP,decide_eq_false_iff_not]at Bm;refine ih (out++[x.id]) ?_ (λq hq=>?_) (by rw[au,fo];omega);rw[gW];refine⟨hn,by simp,λu hu v hv e=>?_⟩;rw[aO.1 hv]at e;exact Bm.1 (e▸hu);rcases aW.1 hq with hq|hq;exact hm q hq;rw[aO.1 hq];exact aA.2 ⟨x,hx,rfl⟩
 unfold bB;rw[<-DI hA];exact go t.length [] qq (λd h=>by cases h) (by simp)
theorem afc {s:List bK}(h:OkS s){p:fW}{d:Dg}(hl:s.length<400)(hid:mL p=(d,0))(hp:(mP p).2=0)(hnew:(gh s d).2=false)(hn:sP (dJ s) (cu p)=true)(hr:ux s p d=0):OkS (lI s ⟨d,p⟩):=by
 have hdn:d∉dJ s:=λg=>by obtain⟨y,hy,rfl⟩:=aA.1 g;rw[kz h.AJ hy]at hnew;cases hnew
 have Vj:∀q,q∈cu p->q∈dJ s:=λq hq=>by unfold sP at hn;simpa using bU.1 hn q hq
 have hA:qn (lI s ⟨d,p⟩):=Jh h.AJ λy hy e=>hdn (by rw[<-(show y.id=d from e)];exact aA.2 ⟨y,hy,rfl⟩);have hc:∀x,x∈lI s ⟨d,p⟩->∀q,q∈cu x.pat->q∈dJ (lI s ⟨d,p⟩):=λx hx q hq=>by rcases lG.1 hx with rfl|hx;exact DM.2 (.inr (Vj q hq));exact DM.2 (.inr (h.FY x hx q hq))
 have ajt:∀y,y∈s->(mP y.pat).2=0:=λy hy=>by have :=h.id y hy;unfold mL at this;by_cases g:(mP y.pat).2≠0;rw[af g]at this;exact absurd (aS Prod.snd this) g;exact ee.1 g
 refine⟨by rw[Jg];omega,hA,λx hx=>?_,hc,?_,λx hx=>?_⟩;rcases lG.1 hx with rfl|hx;exact hid;exact h.id x hx;refine Ut hA hc (o:=bB s++[d]) (Gb (λa b e hab y hy Zd q hq=>?_) λy hy Zd q hq=>?_) λq hq=>?_;rcases lG.1 hy with rfl|hy;exfalso;have he:e∈bB s:=by rw[hab];simp
 exact hdn (by rw[show d=e from Zd];exact(jQ h e).1 he);exact DN h.AJ a b e hab y hy Zd q hq;rcases lG.1 hy with rfl|hy;exact(jQ h q).2 (Vj q hq);exact absurd (show d∈dJ s from by rw[<-(show y.id=d from Zd)];exact aA.2 ⟨y,hy,rfl⟩) hdn;rcases DM.1 hq with rfl|hq;simp;exact fG _ ((jQ h q).2 hq);rcases lG.1 hx with rfl|hx;rw[Mj h.AJ hdn hp (λg=>hdn (Vj _ g))];exact hr;rw[Mj h.AJ hdn (ajt x hx) (λg=>hdn (h.FY x hx _ g))];exact h.refs x hx
theorem GM {s:List bK}(h:jM s){p:fW}(hf:zy p)(Yc:(cn p).1.length<=100000)(h0:(kJ s p).2.2=0):jM (kJ s p).1/\(kJ s p).1=lI s ⟨(mL p).1,p⟩/\(kJ s p).2.1=(mL p).1/\mL p=((kJ s p).2.1,0)/\(mL p).1∉dJ s:=by
 unfold kJ at h0⊢;by_cases h1:(mL p).2≠0;rw[af h1]at h0;exact absurd h0 h1;rw[aa h1]at h0⊢;by_cases h2:(gh s (mL p).1).2=true;rw[af h2]at h0;exfalso;split at h0;exact absurd h0 dD;exact absurd h0 dD;rw[aa h2]at h0⊢;by_cases h3:sP (dJ s) (cu p)=false;rw[af h3]at h0;exact absurd h0 dD;rw[aa h3]at h0⊢;by_cases h4:ux s p (mL p).1≠0;rw[af h4]at h0;exact absurd h0 h4;rw[aa h4]at h0⊢;by_cases h5:400<=s.length;rw[af h5]at h0;exact absurd h0 dD;rw[aa h5]at h0⊢;have hid:mL p=((mL p).1,0):=Prod.ext rfl (ee.1 h1);have WJ:(mP p).2=0:=by have :=hid;unfold mL at this;by_cases g:(mP p).2≠0;exfalso;rw[af g]at this;exact g (aS Prod.snd this);exact ee.1 g
 have hnew:(gh s (mL p).1).2=false:=by simpa using h2
 have hdn:(mL p).1∉dJ s:=λg=>by obtain⟨y,hy,e⟩:=aA.1 g;rw[<-e,kz h.ok.AJ hy]at hnew;cases hnew
 have hok:=afc h.ok (p:=p) (d:=(mL p).1) oO hid WJ hnew (by simpa using h3) (ee.1 h4);refine⟨⟨⟨by rw[Jg];omega,λx hx=>?_⟩,hok,λx hx=>?_⟩,rfl,rfl,hid,hdn⟩;rcases lG.1 hx with rfl|hx;exact hf;exact h.fit.each x hx;rcases lG.1 hx with rfl|hx;exact⟨hf,WJ,Yc⟩;exact h.q x hx
end Qv
