/- Part 3 of the proof: its lemmas. No condition. -/
import Derived.Test.YtlbofhenpfnenaaGreatDoorW2
import Derived.Laws.Append
import Derived.Laws.Tables
import Derived.Laws.AppendOwn
import Derived.Laws.MakeOwn
import Derived.RangeFuncNested
set_option maxRecDepth 10000
set_option maxHeartbeats 80000000
set_option linter.all false
namespace Qv
open Go Go.RowKit
section
variable {E:Env}{G:aV}{S:ah}{a:Act}{w:World}{o:Oper}
theorem kB {d o:Nat}{cells:List FV}:∀{l:List (Nat×List FV)},Qv.getObj (eo d l) o=some cells->o≠d/\∃cs,Qv.getObj l o=some cs/\cells=FV.eL d cs:=by
 intro l;induction l with
 |nil=>intro h;cases h
 |cons p l ih=>
  obtain⟨u,i⟩:=p;intro h;simp only[eo]at h;split at h;rename_i hb;obtain rfl:=aK hb;obtain⟨h1,cs,h2,h3⟩:=ih h;refine⟨h1,cs,?_,h3⟩;simp only[Qv.getObj];have :Nat.beq u o=false:=by cases hb:Nat.beq u o;rfl;simp_all
  simp_all;rename_i hb;simp only[Qv.getObj]at h⊢;grind
theorem jW {d o:Nat}{bs:List UInt8}:∀{l:List (Nat×List UInt8)},lH (BU d l) o=some bs->o≠d/\lH l o=some bs:=by
 intro l;induction l with
 |nil=>intro h;cases h
 |cons p l ih=>
  obtain⟨u,i⟩:=p;intro h;simp only[BU]at h;split at h;rename_i hb;obtain rfl:=aK hb;obtain⟨h1,h2⟩:=ih h;refine⟨h1,?_⟩;simp only[lH];have :Nat.beq u o=false:=by cases hb:Nat.beq u o;rfl;simp_all
  simp_all;rename_i hb;simp only[lH]at h⊢;grind
theorem oH {d o:Nat}{l:List (Nat×List FV)}(h:Qv.getObj l o=none):Qv.getObj (eo d l) o=none:=by
 cases h':Qv.getObj (eo d l) o with
 |none=>rfl
 |some cs=>obtain⟨-,cs',h2,-⟩:=kB h';simp_all
theorem pS {α:Type}{d o:Nat}{x:α}:∀{l:List (Nat×α)},getM (va d l) o=some x->o≠d/\getM l o=some x:=by
 intro l;induction l with
 |nil=>intro h;cases h
 |cons p l ih=>
  obtain⟨u,i⟩:=p;intro h;simp only[va]at h;split at h;rename_i hb;obtain rfl:=aK hb;obtain⟨h1,h2⟩:=ih h;refine⟨h1,?_⟩;simp only[getM];have :Nat.beq u o=false:=by cases hb:Nat.beq u o;rfl;simp_all
  simp_all;rename_i hb;simp only[getM]at h⊢;grind
theorem lJ.afI {G G':aV}{S S':ah}{w:World}(d:Nat)(h1:S'.maps=(S.kill d).maps)(h2:S'.iF=(S.kill d).iF)(h3:lJ (FV.kill d) G G' S (S.kill d) w):lJ (FV.kill d) G G' S S' w:=⟨h3.p,λo l h=>h3.maps o l (h1▸h),λq x h=>h3.iF q x (h2▸h),h3.mp,h3.it,h3.afF,h3.afG,h3.loc,h3.tail⟩
theorem wF {f:FV->FV}{o:Nat}{l':List (AV×FV)}:∀{ms:List (Nat×List (AV×FV))},getM (xR f ms) o=some l'->∃l,getM ms o=some l/\l'=BV f l:=by
 intro ms;induction ms with
 |nil=>intro h;cases h
 |cons p ms ih=>obtain⟨u,i⟩:=p;intro h;simp only[xR,getM]at h⊢;grind
def aV.free (G:aV)(d:Nat):aV:={G with loc:=λo=>if o=d then none else G.loc o,tail:=λt=>if t=d then none else G.tail t,row:=λo=>if o=d then none else G.row o,mp:=λo=>if o=d then none else G.mp o,it:=λo=>if o=d then none else G.it o}
theorem lJ.afJ {G G':aV}{S:ah}{w:World}(d:Nat)(hi:∀b i es k,w.heap[b]?=some (.map es k)->(∃o,G'.mp o=some b)->G'.aZ b i->G.aZ b i)(hi':∀b,G.aZ b 0->G'.aZ b 0)(hmp:∀o b,o≠d->G.mp o=some b->G'.mp o=some b)(WO:∀o b,G'.mp o=some b->G.mp o=some b)(hit:∀o b,o≠d->G.it o=some b->G'.it o=some b)(WQ:∀o b,G'.it o=some b->G.it o=some b)(hl:∀o b,G'.loc o=some b->G.loc o=some b)(ht:∀q r,G.tail (.inr q)=some r->G'.tail (.inr q)=some r:=by first|exactλ_ _ h=>h|exactλ_ _ h=>(aa (λe=>nomatch e)).trans h):lJ (FV.kill d) G G' S (S.kill d) w:=by refine⟨λ_=>rfl,λo l' h=>?_,λq x h=>?_,WO,WQ,hi,hi',λo b h=>.inl (hl o b h),ht⟩;obtain⟨l,h1,h2⟩:=wF h;obtain⟨h3,h4⟩:=pS h1;simp_all;obtain⟨h1,h2⟩:=pS h;simp_all
theorem lJ.kill {G G':aV}{S:ah}{w:World}(d:Nat)(hi:G'.aZ=G.aZ)(hmp:∀o b,o≠d->G.mp o=some b->G'.mp o=some b)(WO:∀o b,G'.mp o=some b->G.mp o=some b)(hit:∀o b,o≠d->G.it o=some b->G'.it o=some b)(WQ:∀o b,G'.it o=some b->G.it o=some b)(hl:∀o b,G'.loc o=some b->G.loc o=some b)(ht:∀q r,G.tail (.inr q)=some r->G'.tail (.inr q)=some r:=by first|exactλ_ _ h=>h|exactλ_ _ h=>(aa (λe=>nomatch e)).trans h):lJ (FV.kill d) G G' S (S.kill d) w:=.afJ d (λ_ _ _ _ _ _ h=>hi▸h) (λ_ h=>hi▸h) hmp WO hit WQ hl ht
theorem aV.oI {G:aV}{d:Nat}:(∀o b,o≠d->G.mp o=some b->(G.free d).mp o=some b)/\(∀o b,(G.free d).mp o=some b->G.mp o=some b)/\(∀o b,o≠d->G.it o=some b->(G.free d).it o=some b)/\(∀o b,(G.free d).it o=some b->G.it o=some b):=⟨λo b h h'=>by simp only[aV.free];simp_all,λo b h=>by simp only[aV.free]at h;simp_all,λo b h h'=>by simp only[aV.free];simp_all,λo b h=>by simp only[aV.free]at h;simp_all⟩
def kV (S:ah)(o:Nat)(t:Nm)(s:Nat):Prop:=t=o/\lH S.cw o=none/\∀cells,Qv.getObj S.aJ o=some cells->cells.length=s
theorem kV.mono {S S':ah}{o:Nat}{t:Nm}{s:Nat}(h:kV S o t s)(hb:∀bs,lH S'.cw o=some bs->∃bs,lH S.cw o=some bs)(ho:∀cells,Qv.getObj S'.aJ o=some cells->∃cs,Qv.getObj S.aJ o=some cs/\cells.length=cs.length):kV S' o t s:=by
 obtain⟨h1,h2,h3⟩:=h;refine⟨h1,?_,λcells hc=>?_⟩;cases hq:lH S'.cw o with
 |none=>rfl
 |some bs=>simp_all
 grind
theorem kV.kill {S:ah}{o:Nat}{t:Nm}{s:Nat}(h:kV S o t s)(d:Nat):kV (S.kill d) o t s:=h.mono (λbs q=>⟨bs,(jW q).2⟩) λcells q=>by obtain⟨-,cs,h1,rfl⟩:=kB q;exact⟨cs,h1,by rw[FV.fA,ai]⟩
theorem bp.afK (hs:bp E G S a w)(d:Nat){G':aV}(hi:G'.aZ=G.aZ)(hl:∀o b,o≠d->G.loc o=some b->G'.loc o=some b)(ht:∀(t:Nm) r,t≠d->G.tail t=some r->G'.tail t=some r)(hl':∀o b,G'.loc o=some b->G.loc o=some b)(ht':∀t r,G'.tail t=some r->G.tail t=some r)(hrw:∀o,o≠d->G'.row o=G.row o)(aky:∀o r,G'.row o=some r->G.row o=some r)(hy:∀l k,l≠d->G.yl l=some k->G'.yl l=some k:=by intro _ _ _ h;exact h)(hy':∀l k,G'.yl l=some k->G.yl l=some k:=by intro _ _ h;exact h)(hmp:∀o b,o≠d->G.mp o=some b->G'.mp o=some b:=by intro _ _ _ h;exact h)(WO:∀o b,G'.mp o=some b->G.mp o=some b:=by intro _ _ h;exact h)(hit:∀o b,o≠d->G.it o=some b->G'.it o=some b:=by intro _ _ _ h;exact h)(WQ:∀o b,G'.it o=some b->G.it o=some b:=by intro _ _ h;exact h):bp E G' (S.kill d) a w:=by
 refine⟨hs.kept,hs.size,hs.ext'.move (FV.kill d) rfl rfl rfl (λv x h=>h.kill d hi hl (λt r h=>ht t r (UT h)) hy hmp hit) (.refl _) (.kill d hi hmp WO hit WQ hl' λq r h=>ht _ _ (λe=>nomatch e) h) hy',?_,hi▸hs.oh,hi▸hs.fq,λi hi'=>(hs.tmps i hi').kill d hi hl (λt r h=>ht t r (UT h)) hy hmp hit,λo cells ho=>?_,λo b ho=>hi▸hs.iu o b (hl' o b ho),λo o' b h h'=>hs.fk o o' b (hl' _ _ h) (hl' _ _ h'),λo t b r h h'=>kV.kill (hs.ck o t b r (hl' _ _ h) (ht' _ _ h')) d,λt b s e T h=>hi▸hs.fI t b s e T (ht' _ _ h),λt t' b r r' h h'=>hs.en t t' b r r' (ht' _ _ h) (ht' _ _ h')⟩;refine hs.iZ.keep rfl rfl (λo bs q=>?_) (λo _ _ q=>oH q) aky (ay _) (λ_ _ _ _ _ _=>rfl) (λ_ _ _=>rfl) (λ_ _ _ _ q=>hi▸q) (λ_ _ _ _ q=>hl' _ _ q) (λ_ _ t q _ e=>⟨t,q,ht' _ _ e⟩);obtain⟨q1,q2⟩:=jW q;obtain⟨-,b,q3,-⟩:=hs.iZ.at_ o bs q2;simp_all;obtain⟨h1,cs,h2,rfl⟩:=kB ho;obtain⟨b,h3,h4⟩:=hs.aJ o cs h2;refine⟨b,hl o b h1 h3,λi x hx=>?_⟩;rw[FV.fA,aM]at hx;cases hc:cs[i]?with
 |none=>simp_all
 |some y=>simp[hc]at hx;subst hx;obtain⟨c,h5,h6⟩:=h4 i y hc;exact⟨c,h5,h6.kill d hi hl (λt r h=>ht t r (UT h)) hy hmp hit⟩
theorem bp.kill (hs:bp E G S a w)(d:Nat):bp E (G.free d) (S.kill d) a w:=hs.afK d rfl (λo b h h'=>by simp only[aV.free];simp_all) (λt r h h'=>by simp only[aV.free];simp_all) (λo b h=>by simp only[aV.free]at h;simp_all) (λt r h=>by simp only[aV.free]at h;simp_all) (λo h=>by simp only[aV.free];simp_all) (λo r h=>by simp only[aV.free]at h;simp_all) (hmp:=λo b h h'=>by simp only[aV.free];simp_all) (WO:=λo b h=>by simp only[aV.free]at h;simp_all) (hit:=λo b h h'=>by simp only[aV.free];simp_all) (WQ:=λo b h=>by simp only[aV.free]at h;simp_all)
theorem ug (hs:bp E G S a w)(d:Nat)(hdn:d≠999999)(cs:List Value)(xs:List FV)(t:TypeId)(hr:∀(i:Nat)(x:FV),xs[i]?=some x->∃c,cs[i]?=some c/\aQ G w c x):∃G',bp E G' {S.kill d with aJ:=(d,FV.eL d xs)::eo d S.aJ} a (w.alloc (.cells cs.toArray t))/\G'.loc d=some w.heap.size/\G'.row d=none/\G'.tail d=none/\(∀t r,G'.tail t≠some (w.heap.size,r))/\(∀o,o≠d->G'.loc o≠some w.heap.size)/\(∀o,G'.row o≠some w.heap.size)/\(∀i,¬G'.aZ w.heap.size i):=by
 have hb:Below w.heap.size w (w.alloc (.cells cs.toArray t)):=(Below.refl _ _).alloc (ay _) _;have h1:=(hs.MV hb λ_ _=>False).kill d;have keep:∀v x,aQ G w v x->aQ (aV.free {G with aZ:=λb o=>G.aZ b o\/(w.heap.size<=b/\b<(w.alloc (.cells cs.toArray t)).heap.size/\False)} d) (w.alloc (.cells cs.toArray t)) v (x.kill d):=λv x hv=>by refine aQ.kill (G:={G with aZ:=λb o=>G.aZ b o\/(w.heap.size<=b/\b<(w.alloc (.cells cs.toArray t)).heap.size/\False)}) d ?_ rfl (λo b h h'=>by simp only[aV.free];simp_all) (λt r h h'=>by simp only[aV.free];simp_all) (hmp:=λo b h h'=>by simp only[aV.free];simp_all) (hit:=λo b h h'=>by simp only[aV.free];simp_all);exact hv.keep (λb o h=>.inl h) (λb o c hi hc=>by rw[World.cell?_alloc_lt _ _ _ (hs.fq b o hi)];omega) (Ch _ _ _) (λ_ _ h=>h) (λ_ _ h=>h)
 have hlt:∀o b,(if o=d then none else G.loc o)=some b->b<w.heap.size:=λo b h=>by split at h;grind;exact(hs.iu o b h).1
 have JL:∀(t:Nm) b r,(if t=d then none else G.tail t)=some (b,r)->b<w.heap.size:=λt b r h=>by split at h;grind;obtain⟨s,e,T⟩:=r;exact(hs.fI t b s e T h).1
 let G2:aV:={aZ:=λb o=>G.aZ b o\/(w.heap.size<=b/\b<(w.alloc (.cells cs.toArray t)).heap.size/\False),loc:=λo=>if o=d then some w.heap.size else G.loc o,tail:=λt=>if t=d then none else G.tail t,yl:=G.yl,row:=λo=>if o=d then none else G.row o,mp:=λo=>if o=d then none else G.mp o,it:=λo=>if o=d then none else G.it o};have up:∀{W:World}{v:Value}{x:FV},aQ (aV.free {G with aZ:=λb o=>G.aZ b o\/(w.heap.size<=b/\b<(w.alloc (.cells cs.toArray t)).heap.size/\False)} d) W v x->aQ G2 W v x:=λh=>h.keep (λ_ _ h=>h) (λ_ _ _ _ h=>h) (.refl _ _) (λo b h=>by simp only[aV.free]at h;grind) (λ_ _ h=>h);have hnew:∀b i,G.aZ b i\/(w.heap.size<=b/\b<(w.alloc (.cells cs.toArray t)).heap.size/\False)->b≠w.heap.size:=λb i h e=>by rcases h with h|⟨_,_,h⟩;have :=hs.fq b i h;omega;omega
 have hsz:(w.alloc (.cells cs.toArray t)).heap.size=w.heap.size+1:=World.size_alloc w _;have JK:lJ (λx=>x) (aV.free {G with aZ:=λb o=>G.aZ b o\/(w.heap.size<=b/\b<(w.alloc (.cells cs.toArray t)).heap.size/\False)} d) G2 (S.kill d) {S.kill d with aJ:=(d,FV.eL d xs)::eo d S.aJ} (w.alloc (.cells cs.toArray t)):=by refine .more rfl rfl rfl rfl (λb i h=>.inl h) (λb h=>h) λo b h=>?_;simp only[G2]at h;split at h;obtain rfl:=an h;refine .inr λes k e=>?_;rw[World.alloc_heap_new]at e;grind;rename_i hne;refine .inl ?_;simp only[aV.free];simp_all
 have base:bp E G2 {S.kill d with aJ:=(d,FV.eL d xs)::eo d S.aJ} a (w.alloc (.cells cs.toArray t)):=by
  refine⟨h1.kept,h1.size,h1.ext'.keep rfl rfl rfl (λv x h=>up h) (.refl _) (JK:=JK),?_,h1.oh,h1.fq,λi hi=>up (h1.tmps i hi),λo cells ho=>?_,λo b ho=>?_,λo o' b h h'=>?_,λo t b r h h'=>?_,λt b s e T h=>h1.fI t b s e T h,h1.en⟩;refine h1.iZ.keep rfl rfl (λo bs q=>?_) (λo bs q0 q=>?_) (λ_ _ e=>e) (ay _) (λ_ _ _ _ _ _=>rfl) (λ_ _ _=>rfl) (λ_ _ _ _ e=>e) (λo r o' e q=>?_) (λ_ _ t q _ e=>⟨t,q,e⟩);obtain⟨q1,q2⟩:=jW (l:=S.cw) q;refine⟨q,?_,rfl⟩;simp only[G2,aV.free];simp_all;simp only[Qv.getObj];split;rename_i PK;obtain rfl:=aK PK;exact absurd rfl (jW (l:=S.cw) q0).1;exact q;simp only[G2]at q;split at q;have :=(h1.iZ.row o r e).2.1;have hlt:=(hs.iZ.row o r (by simp only[aV.free]at e;simp_all)).2.1;simp_all;rename_i hne;simp only[aV.free];simp_all;simp only[Qv.getObj]at ho;split at ho;rename_i PK;obtain rfl:=aK PK;obtain rfl:=an ho;refine⟨w.heap.size,by grind,λi x hx=>?_⟩;rw[FV.fA,aM]at hx;cases hy:xs[i]?with
  |none=>simp_all
  |some y=>simp[hy]at hx;subst hx;obtain⟨c,hc1,hc2⟩:=hr i y hy;simp_all
  rename_i PK;have hne:o≠d:=λe=>by simp_all
  obtain⟨b,h2,h3⟩:=h1.aJ o cells ho;refine⟨b,?_,λi x hx=>let⟨c,h4,h5⟩:=h3 i x hx;⟨c,h4,up h5⟩⟩;simp only[aV.free]at h2;grind;simp only[G2]at ho;split at ho;obtain rfl:=an ho;refine⟨oO,.inl ⟨hs.kept.size,λe=>oO⟩,λi=>⟨λh=>hnew _ _ h rfl,?_⟩⟩;simp_all;rename_i hne;exact h1.iu o b (by simp only[aV.free];simp_all);simp only[G2]at h h';split at h<;>split at h';omega;grind;grind;rename_i h2 h3;exact h1.fk o o' b (by simp only[aV.free];simp_all) (by simp only[aV.free];simp_all);simp only[G2]at h h';split at h;grind;rename_i hne;exact kV.mono (h1.ck o t b r (by simp only[aV.free];simp_all) h') (λbs q=>⟨bs,q⟩) λcells q=>by simp only[Qv.getObj]at q;split at q;simp_all;exact⟨cells,q,rfl⟩
 refine⟨G2,base,by grind,by grind,by grind,λt r h=>?_,λo hne h=>?_,λo h=>?_,λi h=>hnew _ _ h rfl⟩;grind;grind;simp only[G2]at h;split at h;grind;have :=(hs.iZ.row o _ h).2.1;omega
theorem CC (hs:bp E G S a w)(q:Nat)(hdn:S.off+q≠999999)(cs:List Value)(xs:List FV)(t:TypeId)(hr:yP G w cs xs):∃G',bp E G' (newObj S q xs) (a.put (some q) (.pointer (some ⟨w.heap.size,0,none⟩))) (w.alloc (.cells cs.toArray t))/\G'.loc (S.off+q)=some w.heap.size/\G'.row (S.off+q)=none/\∀t r,G'.tail t≠some (w.heap.size,r):=by
 obtain⟨G',h1,h2,h3,-,h5,-⟩:=ug hs (S.off+q) hdn cs xs t λi x hx=>by
  have hl:i<cs.length:=by rw[hr.1];exact(aC.1 hx).1
  exact⟨cs[i],aq hl,hr.2 i _ x (aq hl) hx⟩
 exact⟨G',h1.put (some q) (v:=.pointer (some ⟨w.heap.size,0,none⟩)) (x:=.ptr (S.off+q) 0) (.ptr _ 0 _ h2),h2,h3,h5⟩
theorem bp.ail {d b:Nat}{cells:List FV}{rest:List (Nat×List FV)}(hs:bp E G S a w)(ho:S.aJ=(d,cells)::eo d rest)(hl:G.loc d=some b)(hr:G.row d=none)(htd:∀t r,G.tail t≠some (b,r))(hw:w.heap[b]?=some (.cells #[.pointer none,.slice none 0 0] E.C.bT (0,0))):bp E G {S with aJ:=eo d rest,cw:=(d,[])::S.cw} a w:=by
 have hout:∀o,o≠d->Qv.getObj S.aJ o=Qv.getObj (eo d rest) o:=λo hne=>by rw[ho];simp only[Qv.getObj];split;simp_all;rfl
 have hd:Qv.getObj (eo d rest) d=none:=by
  cases h':Qv.getObj (eo d rest) d with
  |none=>rfl
  |some cs=>exact absurd rfl (kB h').1
 refine⟨hs.kept,hs.size,hs.ext'.keep rfl rfl rfl (λ_ _ h=>h) (.refl _),⟨λo bs q=>?_,hs.iZ.row,hs.iZ.cM⟩,hs.oh,hs.fq,hs.tmps,λo cs q=>?_,hs.iu,hs.fk,λo t b' r q1 q2=>?_,hs.fI,hs.en⟩;simp only[lH]at q;split at q;rename_i PK;obtain rfl:=aK PK;obtain rfl:=an q;refine⟨hd,b,hl,?_⟩;rw[hr];exact⟨none,.slice none 0 0,.inl rfl,hw,rfl,rfl⟩;rename_i PK;obtain⟨q1,q2⟩:=hs.iZ.at_ o bs q;grind;refine hs.aJ o cs ?_;grind;have hne:o≠d:=λe=>by simp_all
 refine kV.mono (hs.ck o t b' r q1 q2) (λbs q=>?_) λcells q=>⟨cells,by simp_all,rfl⟩;simp only[lH]at q;split at q;simp_all;simp_all
theorem bp.Vh {o b:Nat}{bs:List UInt8}{row':Option Nat}{Vi:List (Nat×List UInt8)}{w':World}(hs:bp E G S a w)(ho:lH S.cw o=some bs)(hl:G.loc o=some b)(hfz:∃p v,w'.heap[b]?=some (.cells #[p,v] E.C.bT (0,0)))(hrow:row'=G.row o\/row'=none\/∃x,row'=some x/\w.heap.size<=x/\x<w'.heap.size)(amb:∀r,row'=some r->∃cs T fr,w'.heap[r]?=some (.cells cs T fr))(hos:w'.os=w.os)(ZF:w'.tape=w.tape)(hout:w'.output=w.output)(hsz:w.heap.size<=w'.heap.size)(hblk:∀k,k<w.heap.size->k≠b->G.row o≠some k->w'.heap[k]?=w.heap[k]?)(YW:∀q bs',lH Vi q=some bs'->(q=o/\yz E.C w' b row' bs')\/(q≠o/\lH S.cw q=some bs')):bp E {G with row:=λq=>if q=o then row' else G.row q} {S with cw:=Vi} a w'/\∀v x,aQ G w v x->aQ {G with row:=λq=>if q=o then row' else G.row q} w' v x:=by
 obtain⟨adD,b0,hl0,uJ⟩:=hs.iZ.at_ o bs ho;rw[hl]at hl0;obtain rfl:=an hl0;obtain⟨l1,l2,l3⟩:=hs.iu o b hl;have Cf:∀k i,G.aZ k i->w'.heap[k]?=w.heap[k]?:=λk i h=>hblk k (hs.fq k i h) (λe=>(l3 i).1 (e▸h)) (λe=>(hs.iZ.row o k e).2.2.1 i h);have gb:∀q k,q≠o->G.loc q=some k->w'.heap[k]?=w.heap[k]?:=λq k hne h=>hblk k (hs.iu q k h).1 (λe=>hne (hs.fk q o k h (e▸hl))) (λe=>(hs.iZ.row o k e).2.2.2.1 q h);have aia:∀t k r,G.tail t=some (k,r)->w'.heap[k]?=w.heap[k]?:=λt k r h=>hblk k (hs.fI t k r.1 r.2.1 r.2.2 h).1 (λe=>by have :=(hs.ck o t b r hl (e▸h)).2.1;simp_all) (λe=>(hs.iZ.row o k e).2.2.2.2.1 t r h);have hrows:∀q k,q≠o->G.row q=some k->w'.heap[k]?=w.heap[k]?:=λq k hne h=>hblk k (hs.iZ.row q k h).2.1 (λe=>(hs.iZ.row q k h).2.2.2.1 o (e▸hl)) (λe=>hne ((hs.iZ.row o k e).2.2.2.2.2 q h));have cell:∀k i,w'.heap[k]?=w.heap[k]?->w'.cell? ⟨k,i,none⟩=w.cell? ⟨k,i,none⟩:=λk i h=>by unfold World.cell?;simp_all
 have ank:∀k i,w'.heap[k]?=w.heap[k]?->w'.frozen? ⟨k,i,none⟩=w.frozen? ⟨k,i,none⟩:=λk i h=>by unfold World.frozen?;simp_all
 have keep:∀v x,aQ G w v x->aQ {G with row:=λq=>if q=o then row' else G.row q} w' v x:=λv x h=>h.keep (λ_ _ h=>h) (λk i c hi hc=>by grind) (λk es n hi hb=>by grind) (λ_ _ h=>h) (λ_ _ h=>h);have others:ga w w':=λk ob hk hc=>by rw[hblk k (bC.1 hk).1 (λe=>?_) (λe=>?_)];omega;subst e;obtain⟨p,v,-,h2,-⟩:=uJ;rw[h2]at hk;obtain rfl:=an hk;simp[Obj.isCells]at hc;obtain⟨p,v,-,-,h3⟩:=uJ;rw[e]at h3;obtain⟨-,cap,cur,-,h4,-⟩:=h3;rw[h4]at hk;obtain rfl:=an hk;simp[Obj.isCells]at hc
 refine⟨⟨⟨hos.trans hs.kept.os,ZF.trans hs.kept.tape,hout.trans hs.kept.output,bH hs.kept.size hsz,λk hk hk'=>?_,λk cs T fr hk q=>?_⟩,hs.size,hs.ext'.keep rfl rfl rfl keep others,⟨λq bs' hq=>?_,λq r hq=>?_,λq r hq=>?_⟩,hs.oh,λk i h=>fO (hs.fq k i h) hsz,λi hi=>keep _ _ (hs.tmps i hi),λq cs hq=>?_,λq k hq=>?_,hs.fk,λq t k r q1 q2=>?_,λt k s e T h=>?_,hs.en⟩,keep⟩;rw[hblk k (fO hk hs.kept.size) (λe=>E.Vd l2 hk hk' e) (λe=>by rcases(hs.iZ.row o k e).1 with h|h;omega;simp_all)];exact hs.kept.block k hk hk';obtain⟨cs',q1,q2⟩:=hs.kept.shape k cs T fr hk q;by_cases hkb:k=b;subst hkb;obtain⟨p,v,-,q3,-⟩:=uJ;grind;have hne:G.row o≠some k:=λe=>by
  have hko:k∈E.own:=by rw[hk];simp
  rcases(hs.iZ.row o k e).1 with h|h;simp_all;rcases l2 with l2|l2;simp_all;simp_all
 grind;rcases YW q bs' hq with⟨rfl,h⟩|⟨hne,h⟩;simp_all;obtain⟨h1,k,h2,h3⟩:=hs.iZ.at_ q bs' h;refine⟨h1,k,h2,?_⟩;simp only[aa hne];exact h3.keep (gb q k hne h2) (λr e=>hrows q r hne e);simp only at hq;have old:∀q r,G.row q=some r->(q=o\/q≠o)->(E.w0.heap.size<=r\/(q=999999/\r∈E.own))/\r<w'.heap.size/\(∀i,¬G.aZ r i)/\(∀o',G.loc o'≠some r)/\(∀t q,G.tail t≠some (r,q)):=λq r h _=>by obtain⟨h1,h2,h3,h4,h5,-⟩:=hs.iZ.row q r h;grind
 by_cases hqo:q=o;subst hqo;rw[af rfl]at hq;rcases hrow with h|h|⟨x,h,hx,hx'⟩;obtain⟨h1,h2,h3,h4,h5⟩:=old q r (h▸hq) (.inl rfl);refine⟨h1,h2,h3,h4,h5,λo' ho'=>?_⟩;simp only at ho';split at ho';omega;exact(hs.iZ.row q r (h▸hq)).2.2.2.2.2 o' ho';simp_all;rw[h]at hq;obtain rfl:=an hq;refine⟨.inl (bH hs.kept.size hx),hx',λi hi=>by grind,λo' e=>by grind,λt q e=>by grind,λo' ho'=>?_⟩;grind;rw[aa hqo]at hq;obtain⟨h1,h2,h3,h4,h5⟩:=old q r hq (.inr hqo);refine⟨h1,h2,h3,h4,h5,λo' ho'=>?_⟩;simp only at ho';split at ho';rename_i e;rcases hrow with h|h|⟨x,h,hx,hx'⟩;rw[e];exact((hs.iZ.row q r hq).2.2.2.2.2 o (h▸ho'));grind;grind;exact(hs.iZ.row q r hq).2.2.2.2.2 o' ho';simp only at hq;split at hq;simp_all;rename_i hne;rw[hrows q r hne hq];exact hs.iZ.cM q r hq;obtain⟨k,h1,h2⟩:=hs.aJ q cs hq;grind;obtain⟨h1,h2,h3⟩:=hs.iu q k hq;refine⟨fO h1 hsz,h2,λi=>⟨(h3 i).1,?_⟩⟩;by_cases hne:q=o;subst hne;rw[hl]at hq;obtain rfl:=an hq;obtain⟨p,v,hb⟩:=hfz;simp[World.frozen?,hb];grind;have hq:=hs.ck q t k r q1 q2;refine kV.mono hq (λbs q3=>?_) λcells q3=>⟨cells,q3,rfl⟩;grind;obtain⟨h1,h2,⟨cs,fr,h3,hu⟩,h4⟩:=hs.fI t k s e T h;grind
theorem ZG {ob o:Nat}{c bs:List UInt8}:∀{l:List (Nat×List UInt8)},lH (Zg l ob c) o=some bs->(o=ob/\bs=c)\/(o≠ob/\lH l o=some bs):=by
 intro l;induction l with
 |nil=>intro h;cases h
 |cons p l ih=>obtain⟨u,i⟩:=p;intro h;simp only[Zg]at h;split at h;rename_i hb;obtain rfl:=aK hb;simp only[lH]at h⊢;split at h;simp_all;grind;rename_i hb;simp only[lH]at h⊢;grind
theorem gO (b:Nat):∀(vs:List Value)(i:Nat)(w:World)(k:Nat),k≠b->(w.setCells b i vs).heap[k]?=w.heap[k]?|[],_,_,_,_=>rfl|v::r,i,w,k,h=>by rw[World.setCells,gO b r _ _ k h];exact Below.heap_setCell _ _ _ _ h
theorem jm (b:Nat):∀(vs:List Value)(i:Nat)(w:World),(w.setCells b i vs).heap.size=w.heap.size|[],_,_=>rfl|v::r,i,w=>by rw[World.setCells,jm b r];simp
theorem AQ (b:Nat):∀(vs:List Value)(i:Nat)(w:World),(w.setCells b i vs).os=w.os/\(w.setCells b i vs).tape=w.tape/\(w.setCells b i vs).output=w.output|[],_,_=>⟨rfl,rfl,rfl⟩|v::r,i,w=>by rw[World.setCells];exact AQ b r _ _
theorem tw (b:Nat):∀(vs:List Value)(i:Nat)(w:World)(k:Nat)(cs:Array Value)(T:TypeId)(fr:Nat×Nat),w.heap[k]?=some (.cells cs T fr)->∃cs',(w.setCells b i vs).heap[k]?=some (.cells cs' T fr)/\cs'.size=cs.size
 |[],_,_,_,cs,_,_,h=>⟨cs,h,rfl⟩
 |v::r,i,w,k,cs,T,fr,h=>by
  rw[World.setCells];by_cases hk:k=b;subst hk;have :∃cs',(w.setCell ⟨k,i,none⟩ v).heap[k]?=some (.cells cs' T fr)/\cs'.size=cs.size:=by simp only[World.setCell,iJ,h];simp
  obtain⟨c1,h1,h2⟩:=this;obtain⟨c2,h3,h4⟩:=tw k r _ _ k c1 T fr h1;exact⟨c2,h3,h4.trans h2⟩;exact tw b r _ _ k cs T fr (by rw[Below.heap_setCell _ _ _ _ hk];omega)
theorem Kept.setCells {own:List Nat}{w0 w:World}(h:Kept own w0 w){b:Nat}(hb:w0.heap.size<=b\/b∈own)(i:Nat)(vs:List Value):Kept own w0 (w.setCells b i vs):=by obtain⟨h1,h2,h3⟩:=AQ b vs i w;refine⟨h1.trans h.os,h2.trans h.tape,h3.trans h.output,by rw[jm];exact h.size,λk hk hk'=>?_,λk cs T fr hk q=>?_⟩;rw[gO b vs i w k (λe=>by grind)];exact h.block k hk hk';obtain⟨cs',q1,q2⟩:=h.shape k cs T fr hk q;obtain⟨cs2,q3,q4⟩:=tw b vs i w k cs' T fr q1;simp_all
theorem ga.setCells (b:Nat):∀(vs:List Value)(i:Nat)(w:World),ga w (w.setCells b i vs)|[],_,w=>.refl w|v::r,i,w=>by rw[World.setCells];refine ga.trans (λk o hk ho=>?_) (ga.setCells b r _ _);exact(KeepsOthers.setCell w _ v).same k o hk ho
theorem jo {p:Nat×Nat->Prop}(b:Nat):∀(vs:List Value)(i:Nat)(w:World)(k:Nat)(T:TypeId),(∃cs fr,w.heap[k]?=some (.cells cs T fr)/\p fr)->∃cs fr,(w.setCells b i vs).heap[k]?=some (.cells cs T fr)/\p fr|[],_,_,_,_,h=>h|v::r,i,w,k,T,h=>by rw[World.setCells];refine jo b r _ _ k T ?_;obtain⟨cs,fr,h,hp⟩:=h;by_cases hk:k=b;subst hk;refine⟨cs.setIfInBounds i v,fr,?_,hp⟩;simp only[World.setCell,iJ,h];simp;exact⟨cs,fr,by rw[Below.heap_setCell _ _ _ _ hk];omega,hp⟩
theorem qL {ob o:Nat}{cs cells:List FV}:∀{l:List (Nat×List FV)},Qv.getObj (setObj l ob cs) o=some cells->(o=ob/\cells=cs)\/(o≠ob/\Qv.getObj l o=some cells):=by
 intro l;induction l with
 |nil=>intro h;cases h
 |cons p l ih=>obtain⟨u,i⟩:=p;intro h;simp only[setObj]at h;split at h;rename_i hb;obtain rfl:=aK hb;simp only[Qv.getObj]at h⊢;split at h;simp_all;grind;rename_i hb;simp only[Qv.getObj]at h⊢;grind
theorem yR (hs:bp E G S a w){ob off b:Nat}{cells zs:List FV}{x:FV}{v:Value}(xX:Qv.getObj S.aJ ob=some cells)(gb:G.loc ob=some b)(hv:aQ G w v x)(h1:iW x.cells=true)(Bj:gC cells off x.cells=some zs):bp E G {S with aJ:=setObj S.aJ ob zs} a (w.setCells b off v.cells.toList)/\(storeCells ⟨b,off,none⟩ v.cells.toList 0).run E.C.P w=.ok () (w.setCells b off v.cells.toList):=by
 obtain⟨KV,hco⟩:=qJ hv h1;obtain⟨g1,g2,g3⟩:=ry Bj;obtain⟨b',hb',hc⟩:=hs.aJ ob cells xX;obtain rfl:b'=b:=by simp_all
 obtain⟨l1,l2,l3⟩:=hs.iu ob b' gb;have hin:∀j,j<v.cells.toList.length->(w.cell? ⟨b',off+j,none⟩).isSome=true:=λj hj=>by
  rw[KV.1]at hj;have hne:x.cells≠[]:=λe=>by simp_all
  have :=g2 hne;have hl:off+j<cells.length:=oO
  obtain⟨c,h2,-⟩:=hc (off+j) _ (aq hl);simp_all
 have hrun:=run_storeCells_cells (P:=E.C.P) b' off v.cells.toList 0 w oO (λj _=>(l3 _).2) hco;simp only[Nat.add_zero]at hrun;refine⟨?_,hrun⟩;have hout:∀b2 i,b2≠b'->(w.setCells b' off v.cells.toList).cell? ⟨b2,i,none⟩=w.cell? ⟨b2,i,none⟩:=λb2 i hne=>World.cell?_setCells_out b' _ off w ⟨b2,i,none⟩ (λe=>absurd e hne);have keep:∀u y,aQ G w u y->aQ G (w.setCells b' off v.cells.toList) u y:=λu y hu=>by refine hu.keep (λ_ _ h=>h) (λb2 i c hi hc=>?_) ((ga.setCells b' _ _ _).qG _) (λ_ _ h=>h) (λ_ _ h=>h);grind
 have hsz:=jm b' v.cells.toList off w;have hfz:∀x,(w.setCells b' off v.cells.toList).frozen? x=w.frozen? x:=λx=>World.frozen?_setCells b' _ off w x;refine⟨hs.kept.setCells (l2.imp (·.1) (λh=>Env.Cc h.2)) _ _,hs.size,hs.ext'.keep rfl rfl rfl keep (.setCells b' _ _ _),?_,hs.oh,λb o h=>by rw[hsz];exact hs.fq b o h,λi hi=>keep _ _ (hs.tmps i hi),λo cs ho=>?_,λo b ho=>?_,hs.fk,λo t b r q1 q2=>?_,λt b s e T h=>?_,hs.en⟩;refine hs.iZ.keep rfl rfl (λo bs q=>⟨q,rfl,rfl⟩) (λo bs _ q=>?_) (λ_ _ e=>e) oO (λo bs b q q2 e=>gO _ _ _ _ _ (λe2=>?_)) (λo r e=>gO _ _ _ _ _ (λe2=>(hs.iZ.row o r e).2.2.2.1 ob (e2▸gb))) (λ_ _ _ _ e=>e) (λ_ _ _ _ e=>e) (λ_ _ t q _ e=>⟨t,q,e⟩);cases h':Qv.getObj (setObj S.aJ ob zs) o with
 |none=>rfl
 |some cs=>rcases qL h' with⟨rfl,-⟩|⟨-,h2⟩;simp_all;simp_all
 have :=hs.fk o ob b e (e2▸gb);simp_all;rcases qL ho with⟨rfl,rfl⟩|⟨hne,ho⟩;refine⟨b',gb,λi y hy=>?_⟩;rw[g3 i]at hy;by_cases hi:off<=i/\i<off+x.cells.length;rw[af hi]at hy;have hj:i-off<v.cells.toList.length:=by rw[KV.1];omega
 have h2:=World.cell?_setCells_in b' v.cells.toList off w hin (i-off) hj;rw[show off+(i-off)=i from oO]at h2;exact⟨_,h2,keep _ _ (KV.2 (i-off) _ y (aq hj) hy)⟩;rw[aa hi]at hy;obtain⟨c,h2,h3⟩:=hc i y hy;refine⟨c,?_,keep _ _ h3⟩;rw[World.cell?_setCells_out b' _ off w ⟨b',i,none⟩ (λ_ _=>by rw[KV.1];grind)];omega;obtain⟨b2,h2,h3⟩:=hs.aJ o cs ho;have vk:b2≠b':=λe=>hne (hs.fk o ob b2 h2 (e▸gb));grind;obtain⟨k1,k2,k3⟩:=hs.iu o b ho;simp_all;refine kV.mono (hs.ck o t b r q1 q2) (λbs q=>⟨bs,q⟩) λcs q=>?_;rcases qL q with⟨rfl,rfl⟩|⟨-,q⟩;simp_all;simp_all;obtain⟨k1,k2,kt,k3⟩:=hs.fI t b s e T h;refine⟨oO,k2,jo _ _ _ _ _ _ kt,λi hi hi'=>?_⟩;obtain⟨⟨c,k4⟩,k5,k6⟩:=k3 i hi hi';refine⟨?_,by simp_all,k6⟩;by_cases vk:b=b'/\off<=i/\i<off+v.cells.toList.length;obtain⟨rfl,h5,h6⟩:=vk;have h7:=World.cell?_setCells_in b v.cells.toList off w hin (i-off) oO;simp_all;refine⟨c,?_⟩;rw[World.cell?_setCells_out b' _ off w ⟨b,i,none⟩ (λe1 e2=>by grind)];omega
end
section
variable {E:Env}{G:aV}{S:ah}{a:Act}{w:World}{o:Oper}
structure Flat (aZ:Nat->Nat->Prop)(w:World)(e:Nat)(ys:List (List AV))(news:List Value):Prop where
 len:news.length=ys.length*e
 one:∀u,u∈news->u.oneCell'=true
 at_:∀(i:Nat)(zs:List AV)(j:Nat)(z:AV),ys[i]?=some zs->zs[j]?=some z->∃u,news[i*e+j]?=some u/\cZ aZ w u z/\z.one=true
theorem wG {P:Program}{aZ:Nat->Nat->Prop}{ys:List (List AV)}{v:Value}{e:Nat}(h:cZ aZ w v (.sl ys))(he:∀zs,zs∈ys->zs.length=e):∃news,Flat aZ w e ys news/\(Builtin.lenOf v).run P w=.ok ys.length w/\∀w',(∀b o,w'.cell? ⟨b,o,none⟩=w.cell? ⟨b,o,none⟩)->(Builtin.firstCells e ys.length v).run P w'=.ok news.toArray w':=by
 obtain⟨ad,c,rfl,hc,hne⟩:=h.kS;by_cases h0:ys=[];subst h0;refine⟨[],⟨by simp,by simp,by simp⟩,by rfl,λw' _=>?_⟩;cases ad<;>simp[Builtin.firstCells,loadCells,loadCellsFrom];obtain⟨b,off,bN,cell,rfl,g1,g2⟩:=hne h0;have hpos:0<ys.length:=je.2 h0;obtain rfl:bN=e:=(g1 0 _ (aq hpos)).symm.trans (he _ (aL hpos));let f:Nat->Value:=λq=>(w.cell? ⟨b,off+q,none⟩).getD undef;have hq:∀q,q<ys.length*bN->∃zs z,ys[q/bN]?=some zs/\zs[q%bN]?=some z/\z.one=true/\w.cell? ⟨b,off+q,none⟩=some (f q)/\cZ aZ w (f q) z:=λq hq=>by
  have hep:0<bN:=by rcases Nat.eq_zero_or_pos bN with h|h;simp_all;omega
  have hi:q/bN<ys.length:=CE (by grind);have hzs:=aq hi;have hl:=g1 _ _ hzs;have hj:q%bN<(ys[q/bN]).length:=by rw[hl];exact jX _ hep
  obtain⟨k1,k2,k3,k4⟩:=g2 _ _ _ _ hzs (aq hj);have hqe:off+q/bN*bN+q%bN=off+q:=by have :=CF q bN;rw[sE]at this;omega
  rw[hqe]at k2;have hf:f q=cell (q/bN) (q%bN):=by simp only[f,k2,wH]
  exact⟨_,_,hzs,aq hj,k1,by simp_all,by simp_all⟩
 refine⟨(List.range (ys.length*bN)).map f,⟨by simp,λu hu=>?_,λi zs j z hi hj=>?_⟩,by rfl,λw' hw=>?_⟩;obtain⟨q,Nc,rfl⟩:=aA.1 hu;obtain⟨zs,z,-,-,k1,-,k2⟩:=hq q (iL.1 Nc);exact k2.Zx k1;have zZ:=(aC.1 hi).1;have hjl:=(aC.1 hj).1;rw[g1 i zs hi]at hjl;have hlt:i*bN+j<ys.length*bN:=by have :(i+1)*bN<=ys.length*bN:=ec _ zZ;rw[bD]at this;omega
 obtain⟨k1,k2,k3,k4⟩:=g2 _ _ _ _ hi hj;have hf:f (i*bN+j)=cell i j:=by simp only[f,<-gj,k2,wH]
 simp_all;have :=run_loadCells (P:=P) w' ⟨b,off,none⟩ (ys.length*bN) f (λq Nc=>by rw[Addr.add_lit,hw];grind);simpa[Builtin.firstCells]using this
theorem Fp {P:Program}{aZ:Nat->Nat->Prop}{s:List UInt8}{e:Nat}(he:∀zs,zs∈(s.map λ(b:UInt8)=>[AV.int .u8 (b.toNat:Int)])->zs.length=e):∃news,Flat aZ w e (s.map λ(b:UInt8)=>[AV.int .u8 (b.toNat:Int)]) news/\(Builtin.lenOf (.string ⟨s.toArray⟩)).run P w=.ok (s.map λ(b:UInt8)=>[AV.int .u8 (b.toNat:Int)]).length w/\∀w',(Builtin.firstCells e (s.map λ(b:UInt8)=>[AV.int .u8 (b.toNat:Int)]).length (.string ⟨s.toArray⟩)).run P w'=.ok news.toArray w':=by
 have he1:s≠[]->e=1:=λh=>by
  cases s with
  |nil=>simp_all
  |cons b s=>simp_all
 have hsz:(⟨s.toArray⟩:ByteArray).size=s.length:=by simp[ByteArray.size]
 refine⟨s.map λb=>.int .u8 b.toNat,⟨?_,λu hu=>?_,λi zs j z hi hj=>?_⟩,by simp[Builtin.lenOf,hsz],λw'=>?_⟩;by_cases h0:s=[];grind;simp_all;obtain⟨b,-,rfl⟩:=aA.1 hu;rfl;rw[aM]at hi;cases hb:s[i]?with
 |none=>simp_all
 |some b=>
  simp[hb]at hi;subst hi;have hne:s≠[]:=λe=>by simp_all
  cases j with
  |succ j=>simp_all
  |zero=>simp at hj;subst hj;refine⟨.int .u8 b.toNat,?_,.int _ _,rfl⟩;simp_all
 have hx:(⟨s.toArray⟩:ByteArray).extract 0 s.length=⟨s.toArray⟩:=by rw[AP s 0 s.length (ay _)];simp
 simp[Builtin.firstCells,hx]
section
variable {P:Program}
theorem mJ {t u elem ty:TypeId}{d:TypeDesc}{n c:Nat}{base:Option Addr}{yv:Value}{i:jL}(ht:P.underlying t=some (.slice elem))(hu:P.underlying u=some d)(hd:∀k,d≠.int k)(hi:fL P elem i)(hl:(Builtin.lenOf yv).run P w=.ok 0 w)(hf:(Builtin.firstCells i.size 0 yv).run P w=.ok #[] w)(hc:n<=c):(Builtin.append_ #[t,u] ty #[.slice base n c,yv]).run P w=.ok (.slice base n c) w:=by
 have hd':(match d with|.int _=>true|_=>false)=false:=by cases d<;>first|rfl|grind
 cases base<;>simp[Builtin.append_,run_underlying ht,run_underlying hu,hi.sizeOf,hd',hl,hf,hc,storeCells]
theorem nM {t u elem ty:TypeId}{d:TypeDesc}{n c m b off:Nat}{yv:Value}{i:jL}{news:List Value}(ht:P.underlying t=some (.slice elem))(hu:P.underlying u=some d)(hd:∀k,d≠.int k)(hi:fL P elem i)(hl:(Builtin.lenOf yv).run P w=.ok m w)(hf:(Builtin.firstCells i.size m yv).run P w=.ok news.toArray w)(hc:n+m<=c)(hcell:∀j,j<news.length->(w.cell? ⟨b,off+n*i.size+j,none⟩).isSome=true)(hfz:∀j,j<news.length->w.frozen? ⟨b,off+n*i.size+j,none⟩=false)(h1:∀u,u∈news->u.oneCell'=true):(Builtin.append_ #[t,u] ty #[.slice (some ⟨b,off,none⟩) n c,yv]).run P w=.ok (.slice (some ⟨b,off,none⟩) (n+m) c) (w.setCells b (off+n*i.size) news):=by
 have hd':(match d with|.int _=>true|_=>false)=false:=by cases d<;>first|rfl|grind
 have hst:=run_storeCells_cells (P:=P) b (off+n*i.size) news 0 w oO oO h1;simp only[Nat.add_zero]at hst;simp[Builtin.append_,run_underlying ht,run_underlying hu,hi.sizeOf,hd',hl,hf,hc,Addr.add_lit,hst]
theorem iM {t u elem ty:TypeId}{d:TypeDesc}{n c m:Nat}{base:Option Addr}{yv:Value}{i:jL}{olds news:List Value}(ht:P.underlying t=some (.slice elem))(hu:P.underlying u=some d)(hd:∀k,d≠.int k)(hi:fL P elem i)(hl:(Builtin.lenOf yv).run P w=.ok m w)(hf:∀w',(∀b o,w'.cell? ⟨b,o,none⟩=w.cell? ⟨b,o,none⟩)->(Builtin.firstCells i.size m yv).run P w'=.ok news.toArray w')(ho:∀w',(∀b o,w'.cell? ⟨b,o,none⟩=w.cell? ⟨b,o,none⟩)->(Builtin.firstCells i.size n (.slice base n c)).run P w'=.ok olds.toArray w')(hc:¬n+m<=c)(hb:(n+m)*i.bytes<=2^47)(hb0:i.bytes≠0):∃rest z,z.size=i.size/\rest=Builtin.zeroCells z (grownCap w (n+m) c elem-(n+m))/\(Builtin.append_ #[t,u] ty #[.slice base n c,yv]).run P w=.ok (.slice (some ⟨w.heap.size,0,none⟩) (n+m) (grownCap w (n+m) c elem)) (w.drew.alloc (.cells (olds.toArray++news.toArray++rest) elem)):=by
 have hd':(match d with|.int _=>true|_=>false)=false:=by cases d<;>first|rfl|grind
 obtain⟨inf,z,Cw,hsz,hby,hz,GA⟩:=hi.info';refine⟨_,z.cells,by rw[<-jf,GA,hi.len],rfl,?_⟩;have hfit:=growslice_fits (need:=n+m) (old:=c) (bytes:=i.bytes) oO oO;have Vj:n+m<=2^47:=bH (Nat.le_mul_of_pos_right _ (wI hb0)) hb;have anm:¬(((n+m:Nat):Int)>IntKind.i64.max):=by simp only[IntKind.max,IntKind.signed,IntKind.bits,if_true];omega
 have h48:¬Builtin.nextslicecap (n+m) c*i.bytes>2^48:=oO
 have hfw:=hf w.drew (λ_ _=>rfl);have how:=ho w.drew (λ_ _=>rfl);have Vf:∀w',(typeInfo elem).run P w'=.ok inf w':=λw'=>run_typeInfo w' Cw;have hzv:∀w',(zeroValue elem).run P w'=.ok z w':=λw'=>by simp[zeroValue,Vf w',hz]
 have hso:∀w',(Go.sizeOf elem).run P w'=.ok i.size w':=λw'=>hi.sizeOf w';have akB:¬(281474976710656<Builtin.nextslicecap (n+m) c*i.bytes):=oO
 simp[Builtin.append_,run_underlying ht,run_underlying hu,hso,hd',hl,hc,Vf,hby,hb0,akB,Question.forced,how,hfw,hzv,newRow,grownCap];grind
end
theorem aQ.items {y:FV}{v:Value}{ys:List (List AV)}{P:Program}{e:Nat}(hy:y.items=some ys)(h:aQ G w v y)(he:∀zs,zs∈ys->zs.length=e):∃news,Flat G.aZ w e ys news/\(Builtin.lenOf v).run P w=.ok ys.length w/\∀w',(∀b o,w'.cell? ⟨b,o,none⟩=w.cell? ⟨b,o,none⟩)->(Builtin.firstCells e ys.length v).run P w'=.ok news.toArray w':=by
 cases y with
 |p x=>
  cases x with
  |str s=>
   have hys:(s.map λ(b:UInt8)=>[AV.int .u8 (b.toNat:Int)])=ys:=by simpa[FV.items]using hy
   subst hys;obtain rfl:=h.jD;obtain⟨news,h1,h2,h3⟩:=Fp (P:=P) (w:=w) (aZ:=G.aZ) he;grind
  |_=>exact wG (h.elems (by simpa[FV.items]using hy)) he
 |_=>exact wG (h.elems (by simpa[FV.items]using hy)) he
theorem bp.vn (hs:bp E G S a w){t:Nm}{B s e:Nat}{T:TypeId}(h0:G.tail t=none)(h1:B<w.heap.size)(h2:E.w0.heap.size<=B)(hty:∃cs fr,w.heap[B]?=some (.cells cs T fr)/\adA t fr)(h3:∀o,G.loc o=some B->kV S o t s)(h4:∀t' r,G.tail t'≠some (B,r))(h6:∀o,G.row o≠some B)(h5:∀i,s<=i->i<e->(∃c,w.cell? ⟨B,i,none⟩=some c)/\w.frozen? ⟨B,i,none⟩=false/\¬G.aZ B i):bp E {G with tail:=λt'=>if t'=t then some (B,s,e,T)else G.tail t'} S a w:=by
 have up:∀v x,aQ G w v x->aQ {G with tail:=λt'=>if t'=t then some (B,s,e,T)else G.tail t'} w v x:=λv x h=>h.keep (λ_ _ h=>h) (λ_ _ _ _ h=>h) (.refl _ _) (λ_ _ h=>h) (λt' r h=>by grind);have JK:lJ (λx=>x) G {G with tail:=λt'=>if t'=t then some (B,s,e,T)else G.tail t'} S S w:=lJ.same rfl rfl rfl rfl rfl rfl λq r h=>by grind
 refine⟨hs.kept,hs.size,hs.ext'.keep rfl rfl rfl up (.refl _) (JK:=JK),hs.iZ.keep rfl rfl (λo bs q=>⟨q,rfl,rfl⟩) (λ_ _ _ q=>q) (λ_ _ e=>e) (ay _) (λ_ _ _ _ _ _=>rfl) (λ_ _ _=>rfl) (λ_ _ _ _ e=>e) (λ_ _ _ _ e=>e) (λo r t' q e e'=>?_),hs.oh,hs.fq,λi hi=>up _ _ (hs.tmps i hi),λo cells ho=>?_,hs.iu,hs.fk,λo t' b r h h'=>?_,λt' b s' e' T' h=>?_,λt1 t2 b r1 r2 h h'=>?_⟩;grind;obtain⟨b,k1,k2⟩:=hs.aJ o cells ho;grind;simp only at h';split at h';rename_i ht;have :=an h';injection this with q1 q2;subst q1;subst q2;subst ht;exact h3 o h;exact hs.ck o t' b r h h';simp only at h;split at h;simp_all;exact hs.fI t' b s' e' T' h;simp only at h h';split at h<;>split at h';simp_all;simp_all;simp_all;exact hs.en t1 t2 b r1 r2 h h'
theorem bp.Ab (hs:bp E G S a w){t:Nm}{B s e:Nat}{T:TypeId}(h0:G.tail t=none)(h1:B<w.heap.size)(h2:E.w0.heap.size<=B)(hty:∃cs fr,w.heap[B]?=some (.cells cs T fr)/\adA t fr)(h3:∀o,G.loc o≠some B)(h4:∀t' r,G.tail t'≠some (B,r))(h6:∀o,G.row o≠some B)(h5:∀i,s<=i->i<e->(∃c,w.cell? ⟨B,i,none⟩=some c)/\w.frozen? ⟨B,i,none⟩=false/\¬G.aZ B i):bp E {G with tail:=λt'=>if t'=t then some (B,s,e,T)else G.tail t'} S a w:=hs.vn h0 h1 h2 hty (λo h=>(h3 o h).elim) h4 h6 h5
theorem bp.ZH (hs:bp E G S a w){k b s0 e0:Nat}{T:TypeId}{news:List Value}(ht:G.tail k=some (b,s0,e0,T))(hn:s0+news.length<=e0):bp E {(G.free k)with aZ:=λb' o=>G.aZ b' o\/(b'=b/\s0<=o/\o<s0+news.length)} (S.kill k) a (w.setCells b s0 news)/\(∀v x,aQ G w v x->aQ {(G.free k)with aZ:=λb' o=>G.aZ b' o\/(b'=b/\s0<=o/\o<s0+news.length)} (w.setCells b s0 news) v (x.kill k))/\(∀b' i c,G.aZ b' i->w.cell? ⟨b',i,none⟩=some c->(w.setCells b s0 news).cell? ⟨b',i,none⟩=some c):=by
 obtain⟨t1,t2,⟨tcs,tfr,tty,ttu⟩,t3⟩:=hs.fI k b s0 e0 T ht;have hcell:∀b' i c,G.aZ b' i->w.cell? ⟨b',i,none⟩=some c->(w.setCells b s0 news).cell? ⟨b',i,none⟩=some c:=λb' i c hi hc=>by rw[World.cell?_setCells_out b news s0 w ⟨b',i,none⟩ (λe _=>by grind)];omega
 have hout:∀b2 i,b2≠b->(w.setCells b s0 news).cell? ⟨b2,i,none⟩=w.cell? ⟨b2,i,none⟩:=λb2 i hne=>World.cell?_setCells_out b _ s0 w ⟨b2,i,none⟩ (λe=>absurd e hne);have hfz:∀x,(w.setCells b s0 news).frozen? x=w.frozen? x:=λx=>World.frozen?_setCells b _ s0 w x;have hsz:=jm b news s0 w;have up:∀v x,aQ G w v x->aQ {(G.free k)with aZ:=λb' o=>G.aZ b' o\/(b'=b/\s0<=o/\o<s0+news.length)} (w.setCells b s0 news) v (x.kill k):=λv x hv=>by refine aQ.kill (G:={G with aZ:=λb' o=>G.aZ b' o\/(b'=b/\s0<=o/\o<s0+news.length)}) k ?_ rfl (λo b h h'=>by simp only[aV.free];simp_all) (λt r h h'=>by simp only[aV.free];simp_all) (hmp:=aV.oI.1) (hit:=aV.oI.2.2.1);exact hv.keep (λ_ _ h=>.inl h) hcell ((ga.setCells b _ _ _).qG _) (λ_ _ h=>h) (λ_ _ h=>h)
 have vo:∀o b',(G.free k).loc o=some b'->o≠k/\G.loc o=some b':=λo b' h=>by simp only[aV.free]at h;simp_all
 have PL:∀t r,(G.free k).tail t=some r->t≠k/\G.tail t=some r:=λt r h=>by simp only[aV.free]at h;simp_all
 have JK:lJ (FV.kill k) G {(G.free k)with aZ:=λb' o=>G.aZ b' o\/(b'=b/\s0<=o/\o<s0+news.length)} S (S.kill k) w:=.afJ k (λb' i es n hb _ h=>h.elim id λh=>by simp_all) (λ_ h=>.inl h) aV.oI.1 aV.oI.2.1 aV.oI.2.2.1 aV.oI.2.2.2 (λo b h=>(vo o b h).2);refine⟨⟨hs.kept.setCells (.inl t2) _ _,hs.size,hs.ext'.move (S':=S.kill k) (FV.kill k) rfl rfl rfl up (.setCells _ _ _ _) JK,?_,?_,?_,λi hi=>up _ _ (hs.tmps i hi),λo cells ho=>?_,λo b' ho=>?_,λo o' b' h h'=>hs.fk o o' b' (vo _ _ h).2 (vo _ _ h').2,λo t b' r h h'=>kV.kill (hs.ck o t b' r (vo _ _ h).2 (PL _ _ h').2) k,λt b' s e T' h=>?_,λt t' b' r r' h h'=>hs.en t t' b' r r' (PL _ _ h).2 (PL _ _ h').2⟩,up,hcell⟩;refine hs.iZ.keep rfl rfl (λo bs q=>?_) (λo _ _ q=>oH q) (λo r e=>?_) oO (λo bs b2 q q2 e=>gO _ _ _ _ _ (λe2=>by have :=(hs.ck o k b _ (e2▸e) ht).2.1;simp_all)) (λo r e=>gO _ _ _ _ _ (λe2=>(hs.iZ.row o r e).2.2.2.2.1 k _ (e2▸ht))) (λo r i e hi=>?_) (λ_ _ o' _ e=>(vo o' _ e).2) (λ_ _ t q _ e=>⟨t,q,(PL t _ e).2⟩);obtain⟨q1,q2⟩:=jW q;refine⟨q2,?_,?_⟩;simp only[aV.free];simp_all;simp only[aV.free];simp_all;simp only[aV.free]at e;simp_all;rcases hi with hi|⟨rfl,-,-⟩;omega;exact absurd ht ((hs.iZ.row o _ e).2.2.2.2.1 k _);rintro b' o (hi|⟨rfl,-,-⟩);exact hs.oh b' o hi;omega;rintro b' o (hi|⟨rfl,-,-⟩);rw[hsz];exact hs.fq b' o hi;omega;obtain⟨hne,cs,h2,rfl⟩:=kB ho;obtain⟨b',h3,h4⟩:=hs.aJ o cs h2;refine⟨b',by simp only[aV.free];simp_all,λi x hx=>?_⟩;rw[FV.fA,aM]at hx;cases hc:cs[i]?with
 |none=>simp_all
 |some y=>simp[hc]at hx;subst hx;obtain⟨c,h5,h6⟩:=h4 i y hc;have hb:b'≠b:=λe=>hne (vZ (hs.ck o k b _ (e▸h3) ht).1.symm);simp_all
 obtain⟨hne,ho⟩:=vo o b' ho;obtain⟨k1,k2,k3⟩:=hs.iu o b' ho;have hb:b'≠b:=λe=>hne (vZ (hs.ck o k b _ (e▸ho) ht).1.symm);simp_all;obtain⟨hne,h⟩:=PL t _ h;obtain⟨k1,k2,kt,k3⟩:=hs.fI t b' s e T' h;have hb:b'≠b:=λe'=>hne (hs.en t k b _ _ (e'▸h) ht);refine⟨oO,k2,jo _ _ _ _ _ _ kt,λi hi hi'=>?_⟩;simp_all
theorem sZ (G:aV)(k:Nat):(G.free k).tail k=none:=by simp[aV.free]
theorem yS {aZ:Nat->Nat->Prop}{W:World}{b off e c:Nat}{xs:List (List AV)}(hc:xs.length<=c)(hl:∀zs,zs∈xs->zs.length=e)(h:∀(i:Nat)(zs:List AV)(j:Nat)(z:AV),xs[i]?=some zs->zs[j]?=some z->∃u,z.one=true/\W.cell? ⟨b,off+(i*e+j),none⟩=some u/\aZ b (off+(i*e+j))/\cZ aZ W u z):cZ aZ W (.slice (some ⟨b,off,none⟩) xs.length c) (.sl xs):=cZ.Px hc (λi ys hys=>hl _ (bA hys)) λi ys j y h1 h2=>by grind
theorem PM (hs:bp E G S a w){k:Nat}{xs ys:List (List AV)}{ad:Option Addr}{c:Nat}{yv:Value}{t u elem ty:TypeId}{dd:TypeDesc}{i:jL}{news:List Value}(ht:E.C.P.underlying t=some (.slice elem))(hu:E.C.P.underlying u=some dd)(hd:∀k,dd≠.int k)(hi:fL E.C.P elem i)(hx:cZ G.aZ w (.slice ad xs.length c) (.sl xs))(Gj:∀zs,zs∈xs->zs.length=i.size)(yT:∀zs,zs∈ys->zs.length=i.size)(hle:xs.length<=c)(hroom:(xs=[]/\c=0)\/(ys≠[]/\c=xs.length)\/∃b off,ad=some ⟨b,off,none⟩/\G.tail k=some (b,off+xs.length*i.size,off+c*i.size,elem))(hn:Flat G.aZ w i.size ys news)(hl:(Builtin.lenOf yv).run E.C.P w=.ok ys.length w)(hf:∀w',(∀b o,w'.cell? ⟨b,o,none⟩=w.cell? ⟨b,o,none⟩)->(Builtin.firstCells i.size ys.length yv).run E.C.P w'=.ok news.toArray w')(hb:(xs.length+ys.length)*i.bytes<=2^47)(hb0:i.bytes≠0):∃v' w' G',(Builtin.append_ #[t,u] ty #[.slice ad xs.length c,yv]).run E.C.P w=.ok v' w'/\bp E G' (S.kill k) a w'/\aQ G' w' v' (.eU k elem i.size (xs++ys)):=by
 by_cases h0:ys=[];subst h0;have hnews:news=[]:=bJ.1 (by rw[hn.len];simp);subst hnews;refine⟨_,w,G,mJ ht hu hd hi hl (hf w λ_ _=>rfl) hle,hs.afK k rfl (λ_ _ _ h=>h) (λ_ _ _ h=>h) (λ_ _ h=>h) (λ_ _ h=>h) (λ_ _=>rfl) (λ_ _ h=>h),?_⟩;have :=aQ.eU (G:=G) (w:=w) k elem i.size xs ad c hx (hroom.imp id λh=>by simp_all);simp_all;have hm:0<ys.length:=je.2 h0;by_cases hc:xs.length+ys.length<=c;rcases hroom with hroom|hroom|⟨b,off,rfl,JL⟩;omega;omega;obtain⟨t1,t2,tt,t3⟩:=hs.fI _ _ _ _ _ JL;have hq:off+xs.length*i.size+news.length<=off+c*i.size:=by have :=ec i.size hc;rw[bD]at this;rw[hn.len];omega
 have hrun:=nM (P:=E.C.P) (w:=w) (ty:=ty) (b:=b) (off:=off) ht hu hd hi hl (hf w λ_ _=>rfl) hc (λj hj=>by obtain⟨⟨u,hu⟩,-,-⟩:=t3 (off+xs.length*i.size+j) oO oO;simp_all) (λj hj=>(t3 (off+xs.length*i.size+j) oO oO).2.1) hn.one;obtain⟨f1,f2,f3⟩:=hs.ZH (news:=news) JL hq;have hg:=f1.Ab (t:=k) (B:=b) (s:=off+xs.length*i.size+news.length) (e:=off+c*i.size) (T:=elem) (sZ G k) (by rw[jm];omega) t2 (jo _ _ _ _ _ _ tt) (λo h=>by simp only[aV.free]at h;split at h;cases h;rename_i hne;exact hne (vZ (hs.ck o k b _ h JL).1.symm)) (λt' r h=>by simp only[aV.free]at h;split at h;grind;rename_i hne;exact hne (hs.en t' k b _ _ h JL)) (λo h=>by simp only[aV.free]at h;split at h;cases h;exact(hs.iZ.row o b h).2.2.2.2.1 k _ JL) (λj hj hj'=>by obtain⟨⟨u,hu⟩,g2,g3⟩:=t3 j oO oO;refine⟨⟨u,?_⟩,by rw[World.frozen?_setCells];omega,?_⟩;rw[World.cell?_setCells_out b news _ w ⟨b,j,none⟩ (λ_ _=>by simp_all)];omega;simp_all);refine⟨_,_,_,hrun,hg,?_⟩;have hlen:(xs++ys).length=xs.length+ys.length:=au;suffices h:aQ _ (w.setCells b (off+xs.length*i.size) news) (.slice (some ⟨b,off,none⟩) (xs++ys).length c) (.eU k elem i.size (xs++ys))by rw[hlen]at h;exact h
 refine .eU k elem i.size (xs++ys) _ c ?_ (.inr ⟨b,off,rfl,λzs hz=>(aW.1 hz).elim (Gj zs) (yT zs),?_⟩);refine yS oO (λzs hz=>(aW.1 hz).elim (Gj zs) (yT zs)) λp zs j z hp hj=>?_;have hjl:j<i.size:=by have h1:=(aC.1 hj).1;have h2:zs∈xs++ys:=bA hp;rw[(aW.1 h2).elim (Gj zs) (yT zs)]at h1;exact h1
 rw[wJ]at hp;by_cases YX:p<xs.length;rw[af YX]at hp;obtain⟨_,_,hv,-,hne⟩:=hx.kS;obtain⟨b2,off2,bN,cell,rfl,g1,g2⟩:=hne (λe=>by simp_all);injection hv with e1 e2 e3;have e1:=an e1;injection e1 with q1 q2;subst q1;subst q2;obtain rfl:bN=i.size:=(g1 p _ hp).symm.trans (Gj _ (bA hp));obtain⟨k1,k2,k3,k4⟩:=g2 _ _ _ _ hp hj;rw[gj]at k2 k3;exact⟨_,k1,f3 _ _ _ k3 k2,.inl k3,k4.keep (λ_ _ h=>.inl h) f3 ((ga.setCells b _ _ _).qG _)⟩;rw[aa YX]at hp;obtain⟨u,k1,k2,k3⟩:=hn.at_ _ _ _ _ hp hj;have YY:(p-xs.length)*i.size+j<news.length:=(aC.1 k1).1;have ZI:off+(p*i.size+j)=off+xs.length*i.size+((p-xs.length)*i.size+j):=by
  have :p=xs.length+(p-xs.length):=oO
  have h2:p*i.size=xs.length*i.size+(p-xs.length)*i.size:=by rw[<-bD,<-this]
  omega
 have hin:=World.cell?_setCells_in b news (off+xs.length*i.size) w (λq Nc=>by obtain⟨⟨u,hu⟩,-,-⟩:=t3 (off+xs.length*i.size+q) oO oO;simp_all) _ YY;refine⟨u,k3,?_,.inr ⟨rfl,oO,oO⟩,k2.keep (λ_ _ h=>.inl h) f3 ((ga.setCells b _ _ _).qG _)⟩;simp_all;simp only[if_true];rw[hn.len,hlen,bD,gj];obtain⟨olds,KW,-,ZJ⟩:=wG (P:=E.C.P) hx Gj;obtain⟨rest,z,hz,qB,hrun⟩:=iM (P:=E.C.P) (w:=w) (ty:=ty) (base:=ad) (news:=news) (olds:=olds) ht hu hd hi hl hf ZJ hc hb hb0;have hcap:xs.length+ys.length<=grownCap w (xs.length+ys.length) c elem:=grownCap_ge w _ _ _;generalize hcg:grownCap w (xs.length+ys.length) c elem=cap at*;generalize hW:w.drew.alloc (.cells (olds.toArray++news.toArray++rest) elem)=W at*;have Gk:Below w.drew.heap.size w.drew W:=by rw[<-hW];exact(Below.refl _ _).alloc (ay _) _
 have hWs:W.heap.size=w.heap.size+1:=by rw[<-hW];simp
 have hrl:rest.size=(cap-(xs.length+ys.length))*i.size:=by rw[qB,size_zeroCells,hz]
 have hcell:∀q,W.cell? ⟨w.heap.size,q,none⟩=(olds.toArray++news.toArray++rest)[q]?:=λq=>by rw[<-hW];exact World.cell?_alloc_new w.drew _ elem q
 have hfz:∀q,W.frozen? ⟨w.heap.size,q,none⟩=false:=λq=>by rw[<-hW];exact World.frozen?_alloc_new w.drew _ elem q
 have hold:∀b q,b<w.heap.size->W.cell? ⟨b,q,none⟩=w.cell? ⟨b,q,none⟩:=λb q hlt=>by rw[<-hW];exact World.cell?_alloc_lt w.drew _ ⟨b,q,none⟩ hlt
 have h1:=(hs.drew.MV (w':=W) Gk (λb q=>b=w.heap.size/\q<(xs.length+ys.length)*i.size)).kill k;have hg:=h1.Ab (t:=k) (B:=w.heap.size) (s:=(xs.length+ys.length)*i.size) (e:=cap*i.size) (T:=elem) (sZ _ k) oO hs.kept.size (by rw[<-hW];exact⟨_,_,World.alloc_heap_new w.drew _,trivial⟩) (λo h=>by simp only[aV.free]at h;split at h;grind;have :=(hs.iu o _ h).1;omega) (λt' r h=>by simp only[aV.free]at h;split at h;grind;have :=(hs.fI t' _ r.1 r.2.1 r.2.2 h).1;omega) (λo h=>by simp only[aV.free]at h;split at h;grind;have :=(hs.iZ.row o _ h).2.1;omega) (λq hq Nc=>by
  refine⟨?_,hfz q,?_⟩;rw[hcell q];have :q<(olds.toArray++news.toArray++rest).size:=by simp only[Array.size_append,List.size_toArray,KW.len,hn.len,hrl,<-bD];rw[show xs.length+ys.length+(cap-(xs.length+ys.length))=cap from oO];exact Nc
  simp_all;rintro(h|⟨-,-,-,h⟩);have :=hs.fq _ _ h;omega;omega);refine⟨_,W,_,hrun,hg,?_⟩;have hlen:(xs++ys).length=xs.length+ys.length:=au;suffices h:aQ _ W (.slice (some ⟨w.heap.size,0,none⟩) (xs++ys).length cap) (.eU k elem i.size (xs++ys))by rw[hlen]at h;exact h
 have hkeep:∀{u:Value}{z:AV},cZ G.aZ w u z->cZ (λb o=>G.aZ b o\/(w.drew.heap.size<=b/\b<W.heap.size/\b=w.heap.size/\o<(xs.length+ys.length)*i.size)) W u z:=λh=>h.keep (λ_ _ h=>.inl h) (λb o c hi hc=>by rw[hold b o (hs.fq b o hi)];omega) (λb es n hi hb=>(Gk.block b (hs.fq b 0 hi)).trans hb);refine .eU k elem i.size (xs++ys) _ cap ?_ (.inr ⟨w.heap.size,0,rfl,λzs hz=>(aW.1 hz).elim (Gj zs) (yT zs),?_⟩);refine yS oO (λzs hz=>(aW.1 hz).elim (Gj zs) (yT zs)) λp zs j z hp hj=>?_;have hjl:j<i.size:=by have h1:=(aC.1 hj).1;have h2:zs∈xs++ys:=bA hp;rw[(aW.1 h2).elim (Gj zs) (yT zs)]at h1;exact h1
 have YX:p<xs.length+ys.length:=by rw[<-hlen];exact(aC.1 hp).1
 have agB:p*i.size+j<(xs.length+ys.length)*i.size:=by have :(p+1)*i.size<=(xs.length+ys.length)*i.size:=ec _ YX;rw[bD]at this;omega
 rw[cz];have Cf:(λb o=>G.aZ b o\/(w.drew.heap.size<=b/\b<W.heap.size/\b=w.heap.size/\o<(xs.length+ys.length)*i.size)) w.heap.size (p*i.size+j):=.inr ⟨ay _,oO,rfl,agB⟩;rw[wJ]at hp;by_cases ZK:p<xs.length;rw[af ZK]at hp;obtain⟨u,k1,k2,k3⟩:=KW.at_ _ _ _ _ hp hj;have YY:=(aC.1 k1).1;refine⟨u,k3,?_,Cf,hkeep k2⟩;grind;rw[aa ZK]at hp;obtain⟨u,k1,k2,k3⟩:=hn.at_ _ _ _ _ hp hj;have YY:=(aC.1 k1).1;have ZI:p*i.size+j=olds.length+((p-xs.length)*i.size+j):=by
  have :p=xs.length+(p-xs.length):=oO
  have h2:p*i.size=xs.length*i.size+(p-xs.length)*i.size:=by rw[<-bD,<-this]
  rw[KW.len];omega
 refine⟨u,k3,?_,Cf,hkeep k2⟩;rw[hcell,sF (by simp_all),Nd (by simp_all),ZI];simp[k1];simp_all
theorem bp.ZL (h1:bp E G S a w){d b:Nat}(hdn:d≠999999){cells:List FV}(hl:G.loc d=none)(hb0:lH S.cw d=none)(hno:∀o,G.loc o≠some b)(JL:∀t r,G.tail t≠some (b,r))(hrow:∀o,G.row o≠some b)(hmap:∀es k,w.heap[b]?≠some (.map es k))(hlt:b<w.heap.size)(hw0:E.w0.heap.size<=b)(him:∀i,¬G.aZ b i/\w.frozen? ⟨b,i,none⟩=false)(hc:∀(i:Nat)(x:FV),cells[i]?=some x->∃c,w.cell? ⟨b,i,none⟩=some c/\aQ G w c x):bp E {G with loc:=λo=>if o=d then some b else G.loc o} {S with aJ:=(d,cells)::S.aJ} a w:=by have up:∀v x,aQ G w v x->aQ {G with loc:=λo=>if o=d then some b else G.loc o} w v x:=λv x h=>h.keep (λ_ _ h=>h) (λ_ _ _ _ h=>h) (.refl _ _) (λo b' h=>by grind) (λ_ _ h=>h);refine⟨h1.kept,h1.size,h1.ext'.keep rfl rfl rfl up (.refl _) (JK:=.more rfl rfl rfl rfl (λ_ _ h=>.inl h) (λ_ h=>h) λo b' h=>?_),?_,h1.oh,h1.fq,λi hi=>up _ _ (h1.tmps i hi),λo cs ho=>?_,λo b' ho=>?_,λo o' b' h h'=>?_,λo t b' r h h'=>?_,h1.fI,h1.en⟩;grind;refine h1.iZ.keep rfl rfl (λo bs q=>⟨q,?_,rfl⟩) (λo bs q0 q=>?_) (λ_ _ e=>e) (ay _) (λ_ _ _ _ _ _=>rfl) (λ_ _ _=>rfl) (λ_ _ _ _ e=>e) (λo r o' e q=>?_) (λ_ _ t q _ e=>⟨t,q,e⟩);grind;simp only[Qv.getObj];split;simp_all;omega;grind;simp only[Qv.getObj]at ho;split at ho;rename_i PK;obtain rfl:=aK PK;grind;rename_i PK;have hne:o≠d:=dM (bt PK);obtain⟨b',h2,h3⟩:=h1.aJ o cs ho;grind;simp only at ho;split at ho;rename_i e;obtain rfl:=an ho;exact⟨hlt,.inl ⟨hw0,λe'=>absurd (e.symm.trans e') hdn⟩,him⟩;exact h1.iu o b' ho;simp only at h h';split at h<;>split at h';omega;simp_all;simp_all;exact h1.fk o o' b' h h';simp only at h h';split at h;simp_all;rename_i hne;refine kV.mono (h1.ck o t b' r h h') (λbs q=>⟨bs,q⟩) λcs q=>?_;simp only[Qv.getObj]at q;split at q;simp_all;simp_all
theorem iP:∀l:List AV,(aF l).length=l.length|[]=>rfl|_::l=>by simp[aF,iP l]
theorem tA:∀(l:List AV)(i:Nat),(aF l)[i]?=(l[i]?).map FV.p
 |[],i=>by rfl
 |x::l,0=>rfl
 |x::l,i+1=>by simpa[aF]using tA l i
theorem gF {α:Type}{e:Nat}:∀{l:List (List α)},(∀zs,zs∈l->zs.length=e)->l.flatten.length=l.length*e
 |[],_=>by simp
 |x::l,h=>by rw[nH,au,h x (by simp),gF (λzs hz=>h zs (by grind)),aI,bD];omega
theorem iN (d:Nat)(l:List (Nat×List UInt8)):lH (BU d l) d=none:=by
 cases h:lH (BU d l) d with
 |none=>rfl
 |some bs=>exact absurd rfl (jW h).1
end
section
variable {E:Env}{G:aV}{S:ah}{a:Act}{w:World}{o:Oper}
theorem adE {α:Type}{xs:List α}{n:Nat}{y:α}(h:n<xs.length):JV xs n y=some (xs.set n y):=by
 induction xs generalizing n with
 |nil=>grind
 |cons x xs ih=>
  cases n with
  |zero=>rfl
  |succ n=>simp only[JV,ih (by simpa using h),List.set_cons_succ]
theorem CG {α:Type}{A B:List α}{base:Nat}(hA:A.length=base):∀{cs ys zs:List α}{off:Nat},gC ys off cs=some zs->gC (A++(ys++B)) (base+off) cs=some (A++(zs++B))
 |[],ys,zs,off,h=>by simp only[gC,bM]at h⊢;rw[h]
 |c::cs,ys,zs,off,h=>by simp only[gC]at h⊢;split at h;rename_i us WL;obtain⟨h1,rfl⟩:=KT WL;rw[adE (by grind)];simp only;rw[List.set_append_right _ _ oO,hA,show base+off-base=off by omega,List.set_append_left _ _ h1];exact CG hA h;simp_all
theorem HB (hs:bp E G S a w){t e:TypeId}{len:Nat}{parts:Array (Nat×Operand)}{j:jL}{cs:List FV}{sa sb:Nat}{sz:List Value}(ho:o.op=.buildSlice t len parts)(ht:bP E.C.js t=some ⟨sa,sb,.slice e,sz⟩)(hj:bP E.C.js e=some j)(hle':len*j.size<=1000000)(hcs:fM j.size S parts.toList (od len (j.zero.map FV.gP))=some cs):∃us:Array Value,(execOp a.eval o).run E.C.P w=.ok (.value (.slice (some ⟨w.heap.size,0,none⟩) len len)) (w.alloc (.cells us e))/\yP G w us.toList cs/\us.size=len*j.size:=by
 have hu:=(E.C.ok ht).slice;have hok:=E.C.ok hj;obtain⟨z,hzr,GA⟩:=hok.zeroV w;have akv:z.cells.size=j.size:=by rw[<-jf,GA,hok.len]
 have hbase:∀zz:Array Value,(len*j.size=0\/zz=z.cells)->((Array.range (len*j.size)).map (zz[·%zz.size]!)).toList=od len j.zero:=λzz hzz=>by obtain⟨r1,r2⟩:=rL j.zero len;rw[hok.len]at r1 r2;apply fP;grind
 have hrl:∀zz:Array Value,(len*j.size=0\/zz=z.cells)->yP G w ((Array.range (len*j.size)).map (zz[·%zz.size]!)).toList (od len (j.zero.map FV.gP)):=λzz hzz=>by rw[hbase zz hzz,Hz];exact qK _
 obtain⟨us,WL,om⟩:∃us,(∀zz:Array Value,(len*j.size=0\/zz=z.cells)->Instr.fill (λi=>some (i*j.size,j.size)) ((Array.range (len*j.size)).map (zz[·%zz.size]!)) (parts.toList.map λ(i,x)=>(i,a.eval x))=some us)/\yP G w us.toList cs:=by obtain⟨us,h3,h4⟩:=rZ hs parts.toList _ _ _ (hrl z.cells (.inr rfl)) hcs;grind
 have ZC:¬len*j.size>2^24:=oO
 have hrun:(execOp a.eval o).run E.C.P w=.ok (.value (.slice (some ⟨w.heap.size,0,none⟩) len len)) (w.alloc (.cells us e)):=by
  by_cases h0:len*j.size=0;have h5:=WL #[] (.inl h0);have h5':Instr.fill (λi=>some (i*j.size,j.size)) #[] (List.map (λx=>(x.1,a.eval x.2)) parts.toList)=some us:=by
   have h6:(Array.range (len*j.size)).map ((#[]:Array Value)[·%(#[]:Array Value).size]!)=#[]:=by rw[h0];simp
   rw[h6]at h5;exact h5
  have hm0:∀f:Nat->Value,(Array.range 0).map f=#[]:=λf=>by simp
  simp only[execOp,ho,Instr.buildSlice,Sem.run_bind,run_underlying hu,Result.andThen_ok,hok.sizeOf,ZC,if_false,h0,if_true,Sem.run_pure,nJ];simp only[show¬(0>2^24)from oO,if_false,Sem.run_pure,Result.andThen_ok,hm0,h5'];rfl;have h5:=WL z.cells (.inr rfl);simp only[execOp,ho,Instr.buildSlice,Sem.run_bind,run_underlying hu,Result.andThen_ok,hok.sizeOf,ZC,if_false,h0,Sem.run_pure,hzr,nJ];simp only[h5];rfl
 have hlen:us.size=len*j.size:=by
  have h6:us.size=cs.length:=by rw[<-om.1];simp
  have h7:∀(parts:List (Nat×Operand))(xs zs:List FV),fM j.size S parts xs=some zs->zs.length=xs.length:=by
   intro parts;induction parts with
   |nil=>intro xs zs h;simp only[fM,bM]at h;rw[h]
   |cons p parts ih=>obtain⟨i,x⟩:=p;intro xs zs h;simp only[fM]at h;split at h;split at h;grind;rename_i us WL;rw[ih _ _ h,(ry WL).1];simp_all
  rw[h6,h7 _ _ _ hcs,(rL _ _).1];simp[hok.len]
 grind
theorem wK (w:World)(us:Array Value)(e:TypeId){t:Nm}:∃cs fr,(w.alloc (.cells us e)).heap[w.heap.size]?=some (.cells cs e fr)/\adA t fr:=⟨_,_,World.alloc_heap_new w _,by cases t<;>trivial⟩
theorem wp_openSlice (hs:bp E G S a w){t e:TypeId}{len:Nat}{parts:Array (Nat×Operand)}{d0:Nat}{K:ah->Prop}{sa sb:Nat}{sz:List Value}(ho:o.op=.buildSlice t len parts)(HC:o.dst=some d0)(ht:bP E.C.js t=some ⟨sa,sb,.slice e,sz⟩)(h:yC E.C S e d0 len parts.toList K){next:Act->World->Prop}{Q:Exit->Act->World->Prop}(hn:∀S' a' w',K S'->pJ E S' a' w'->next a' w'):CB E o a w next Q:=by
 unfold yC Fm at h;split at h;simp_all;rename_i j hj;split at h;rename_i hle h0;have hpos:0<j.size:=wI (bt h0);split at h;rename_i cs hcs;split at h;simp_all;rw[jN,lU]at h;obtain⟨hdn,h⟩:=h;have hdn:=bt hdn;obtain⟨us,hrun,om,hsz⟩:=HB hs ho ht hj (gQ hle) hcs;generalize hd:S.off+d0=d at h hdn;obtain⟨G2,g1,g2,g3,g4,g5,g6,g7,g8⟩:=ug hs d hdn us.toList cs e λi x hx=>by
  have hl:i<us.toList.length:=by rw[om.1];exact(aC.1 hx).1
  exact⟨_,aq hl,om.2 i _ x (aq hl) hx⟩
 rw[CH]at g1;have jE:cs.length=len*j.size:=by rw[<-om.1,jf,hsz]
 have hg:=g1.vn (t:=d) (B:=w.heap.size) (s:=len*j.size) (e:=len*j.size) (T:=e) g4 (by simp) hs.kept.size (wK w us e) (λo q=>by have :o=d:=gR λhne=>g6 o hne q;subst this;refine⟨rfl,?_,λcells hc=>?_⟩;exact iN _ _;simp only[Qv.getObj,gT]at hc;obtain rfl:=an hc;rw[FV.fA,ai,jE]) (λt' r q=>g5 t' r q) (λo q=>g7 o q) (λi h1 h2=>oO);refine wp_value hrun ?_;rw[HC];exact hn _ _ _ h ⟨_,hg.put (some d0) (x:=.fc d e j.size) (.fc d e j.size len len w.heap.size g2 (by simp) (ay _) hpos)⟩;simp_all;simp_all
theorem wp_make (hs:bp E G S a w){t:TypeId}{len cap:Operand}{d0:Nat}{K:ah->Prop}(ho:o.op=.makeSlice t len cap)(HC:o.dst=some d0)(h:SD E.C S t d0 (S.val len) (S.val cap) K){next:Act->World->Prop}{Q:Exit->Act->World->Prop}(hn:∀S' a' w',K S'->pJ E S' a' w'->next a' w'):CB E o a w next Q:=by
 have hlv:=aQ.val hs len;have hcv:=aQ.val hs cap;generalize S.val len=vl at h hlv;generalize S.val cap=vc at h hcv;unfold SD at h;split at h;rename_i e _ ht;have hu:=(E.C.ok ht).slice;split at h;rename_i bytes sh z hj;have hok:=E.C.ok hj;split at h;rename_i k n k' n';obtain⟨m,rfl,rfl,hb,h63,h⟩:=h;rw[lU]at h;obtain⟨hdn,cs,rfl,h⟩:=h;have hdn:=bt hdn;have e1:=hlv.fJ;have e2:=hcv.fJ;obtain⟨inf,z',hi,hsz,hby,hz,GA⟩:=hok.info';simp only at hsz hby GA;have akC:z'.cells=#[z]:=by apply iH.1;rw[GA]
 have hrun:=run_make (P:=E.C.P) w t e inf z' hu hi hz k k' (m:Int) (m:Int) oO oO (by grind) oO;rw[akC,hsz,lW,sG]at hrun;have hmc:madeCells #[z] m=(List.replicate m z).toArray:=by apply iH.1;apply fP;intro i;simp only[madeCells,nJ,aM,Array.toList_range,List.getElem?_replicate];by_cases hi:i<m;grind;simp_all
 rw[hmc]at hrun;generalize hd:S.off+d0=d at h hdn;obtain⟨G2,g1,g2,g3,g4,g5,g6,g7,g8⟩:=ug hs d hdn (List.replicate m z) (List.replicate m (FV.gP z)) e λi x hx=>by rw[List.getElem?_replicate]at hx;split at hx;rename_i hi;obtain rfl:=an hx;exact⟨z,by simp_all,uf _ _ _⟩;simp_all
 have hg:=g1.vn (t:=d) (B:=w.heap.size) (s:=m*1) (e:=m*1) (T:=e) g4 (by simp) hs.kept.size (wK w _ e) (λo q=>by have :o=d:=gR λhne=>g6 o hne q;subst this;refine⟨rfl,iN _ _,λcells hc=>?_⟩;simp only[Qv.getObj,gT]at hc;obtain rfl:=an hc;rw[FV.fA,ai,List.length_replicate,sG]) (λt' r q=>g5 t' r q) (λo q=>g7 o q) (λi h1 h2=>oO);refine wp_value (v:=.slice (some ⟨w.heap.size,0,none⟩) m m) (w':=w.alloc (.cells (List.replicate m z).toArray e)) ?_ ?_;simp[execOp,ho,e1,e2,hrun];rw[HC];exact hn _ _ _ h ⟨_,hg.put (some d0) (x:=.fc d e 1) (.fc d e 1 m m w.heap.size g2 (by simp) (ay _) oO)⟩;simp_all;simp_all;simp_all
theorem Bk {P:Program}(hs:bp E G S a w){k n c b:Nat}{bN:Nat}{T:TypeId}{xs:List FV}(hk:Qv.getObj S.aJ k=some xs)(hl:G.loc k=some b)(ht:G.tail k=some (b,n*bN,c*bN,T)):∃news:List Value,news.length=n*bN/\(∀(i:Nat)(x:FV),xs[i]?=some x->∃u,news[i]?=some u/\aQ G w u x)/\∀w',(∀b o,w'.cell? ⟨b,o,none⟩=w.cell? ⟨b,o,none⟩)->(Builtin.firstCells bN n (.slice (some ⟨b,0,none⟩) n c)).run P w'=.ok news.toArray w':=by
 have hlen:=(hs.ck k k b _ hl ht).2.2 xs hk;simp only at hlen;obtain⟨b',h1,h2⟩:=hs.aJ k xs hk;obtain rfl:b'=b:=by simp_all
 let f:Nat->Value:=λq=>(w.cell? ⟨b',q,none⟩).getD undef;have hf:∀q,q<n*bN->w.cell? ⟨b',q,none⟩=some (f q):=λq hq=>by
  have hql:q<xs.length:=oO
  obtain⟨u,h3,-⟩:=h2 q _ (aq hql);grind
 refine⟨(List.range (n*bN)).map f,by simp,λi x hx=>?_,λw' hw=>?_⟩;grind;have :=run_loadCells (P:=P) w' ⟨b',0,none⟩ (n*bN) f (λq Nc=>by rw[Addr.add_lit,hw,cz];simp_all);simpa[Builtin.firstCells]using this
theorem bp.PN (hs:bp E G S a w){k b s0 e0:Nat}{T:TypeId}{xs ys:List FV}{news:List Value}(hk:Qv.getObj S.aJ k=some xs)(hl:G.loc k=some b)(ht:G.tail k=some (b,s0,e0,T))(hn:s0+news.length<=e0)(hr:∀(i:Nat)(x:FV),ys[i]?=some x->∃u,news[i]?=some u/\aQ G w u x)(hlen:ys.length=news.length):bp E {G with tail:=λt=>if t=k then some (b,s0+news.length,e0,T)else G.tail t} {S.kill k with aJ:=(k,FV.eL k (xs++ys))::eo k S.aJ} a (w.setCells b s0 news):=by
 obtain⟨t1,t2,tt,t3⟩:=hs.fI k b s0 e0 T ht;obtain⟨-,l2,l3⟩:=hs.iu k b hl;obtain⟨-,hnb,ZM⟩:=hs.ck k k b _ hl ht;have hxl:xs.length=s0:=ZM xs hk;clear ZM;obtain⟨b',hb',hcell⟩:=hs.aJ k xs hk;obtain rfl:b'=b:=by simp_all
 have hout:∀b2 i,b2≠b'->(w.setCells b' s0 news).cell? ⟨b2,i,none⟩=w.cell? ⟨b2,i,none⟩:=λb2 i hne=>World.cell?_setCells_out b' _ s0 w ⟨b2,i,none⟩ (λe=>absurd e hne);have hfz:∀x,(w.setCells b' s0 news).frozen? x=w.frozen? x:=λx=>World.frozen?_setCells b' _ s0 w x;have hsz:=jm b' news s0 w;let G':aV:={G with tail:=λt=>if t=k then some (b',s0+news.length,e0,T)else G.tail t};have up:∀v x,aQ G w v x->aQ G' (w.setCells b' s0 news) v (x.kill k):=λv x hv=>by have h1:aQ {G with tail:=λt=>if t=k then none else G.tail t} w v (x.kill k):=hv.kill k rfl (λ_ _ _ h=>h) (λt r hne h=>by simp_all);refine h1.keep (λ_ _ h=>h) (λb2 i c hi hc=>?_) ((ga.setCells b' _ _ _).qG _) (λ_ _ h=>h) (λt r h=>?_);grind;grind
 refine⟨hs.kept.setCells (l2.imp (·.1) (λh=>Env.Cc h.2)) _ _,hs.size,hs.ext'.move (S':={S.kill k with aJ:=(k,FV.eL k (xs++ys))::eo k S.aJ}) (FV.kill k) rfl rfl rfl up (.setCells b' _ _ _) (.afI k rfl rfl (.kill k rfl (λ_ _ _ h=>h) (λ_ _ h=>h) (λ_ _ _ h=>h) (λ_ _ h=>h) λ_ _ h=>h)),?_,hs.oh,λb o h=>by rw[hsz];exact hs.fq b o h,λi hi=>up _ _ (hs.tmps i hi),λo cs ho=>?_,λo b ho=>?_,hs.fk,λo t b r h h'=>?_,λt b s e T' h=>?_,λt t' b r r' h h'=>?_⟩;refine hs.iZ.keep rfl rfl (λo bs q=>⟨(jW q).2,rfl,rfl⟩) (λo bs q0 q=>?_) (λ_ _ e=>e) oO (λo bs b q q2 e=>gO _ _ _ _ _ (λe2=>?_)) (λo r e=>gO _ _ _ _ _ (λe2=>(hs.iZ.row o r e).2.2.2.1 k (e2▸hl))) (λ_ _ _ _ e=>e) (λ_ _ _ _ e=>e) (λo r t q _ e=>?_);simp only[Qv.getObj];split;simp_all;exact oH q;have :=hs.fk o k b e (e2▸hl);simp_all;grind;simp only[Qv.getObj]at ho;split at ho;rename_i PK;obtain rfl:=aK PK;obtain rfl:=an ho;refine⟨b',hl,λi x hx=>?_⟩;rw[FV.fA,aM]at hx;cases hy:(xs++ys)[i]?with
 |none=>simp_all
 |some y=>rw[hy]at hx;obtain rfl:=an hx;by_cases hi:i<xs.length;rw[cm hi]at hy;obtain⟨c,h2,h3⟩:=hcell i y hy;refine⟨c,?_,up _ _ h3⟩;rw[World.cell?_setCells_out b' _ s0 w ⟨b',i,none⟩ (λ_ _=>by simp_all)];omega;rw[dN oO]at hy;obtain⟨u,h2,h3⟩:=hr _ y hy;have YY:i-xs.length<news.length:=(aC.1 h2).1;have hin:=World.cell?_setCells_in b' news s0 w (λq Nc=>by grind) _ YY;grind
 rename_i PK;obtain⟨hne,cs0,h2,rfl⟩:=kB ho;obtain⟨b2,h3,h4⟩:=hs.aJ o cs0 h2;have vk:b2≠b':=λe=>hne (hs.fk o k b2 h3 (e▸hl));refine⟨b2,h3,λi x hx=>?_⟩;rw[FV.fA,aM]at hx;grind;obtain⟨k1,k2,k3⟩:=hs.iu o b ho;simp_all;simp only at h h';split at h';rename_i Nf;have :=an h';injection this with q1 q2;subst q1;subst q2;subst Nf;obtain rfl:=hs.fk o k b' h hl;refine⟨rfl,iN _ _,λcells hc=>?_⟩;simp only[Qv.getObj,gT]at hc;obtain rfl:=an hc;rw[FV.fA,ai,au,hxl,hlen];rename_i hne;have h1:=hs.ck o t b r h h';have hto:=h1.1;refine kV.mono h1 (λbs q=>⟨bs,(jW q).2⟩) λcells q=>?_;simp only[Qv.getObj]at q;split at q;simp_all;obtain⟨-,cs0,h2,rfl⟩:=kB q;exact⟨cs0,h2,by rw[FV.fA,ai]⟩;simp only at h;split at h;rename_i et;have :=an h;injection this with q1 q2;injection q2 with q2 q3;injection q3 with q3 q4;subst q1;subst q2;subst q3;subst q4;subst et;refine⟨oO,t2,jo _ _ _ _ _ _ tt,λi hi hi'=>?_⟩;obtain⟨⟨c,k4⟩,k5,k6⟩:=t3 i oO hi';refine⟨⟨c,?_⟩,by simp_all,k6⟩;rw[World.cell?_setCells_out b' _ s0 w ⟨b',i,none⟩ (λ_ _=>by simp_all)];omega;rename_i hne;obtain⟨k1,k2,kt,k3⟩:=hs.fI t b s e T' h;have vk:b≠b':=λe'=>hne (hs.en t k b' _ _ (e'▸h) ht);refine⟨oO,k2,jo _ _ _ _ _ _ kt,λi hi hi'=>?_⟩;simp_all;simp only at h h';split at h<;>split at h';simp_all;obtain⟨rfl,-⟩:=gU (an h);exact(hs.en _ _ _ _ _ ht h').symm▸oO;obtain⟨rfl,-⟩:=gU (an h');exact(hs.en _ _ _ _ _ h ht).trans (by grind);exact hs.en t t' b r r' h h'
theorem Ac (hs:bp E G S a w)(d:Nat)(hdn:d≠999999){zs:List FV}{cells:List Value}{s cap:Nat}{e:TypeId}(hlen:zs.length=s)(jE:cells.length=cap)(hr:∀(i:Nat)(x:FV),zs[i]?=some x->∃c,cells[i]?=some c/\aQ G w c x):∃G',bp E G' {S.kill d with aJ:=(d,FV.eL d zs)::eo d S.aJ} a (w.alloc (.cells cells.toArray e))/\G'.loc d=some w.heap.size/\G'.tail d=some (w.heap.size,s,cap,e):=by obtain⟨G2,g1,g2,g3,g4,g5,g6,g7,g8⟩:=ug hs d hdn cells zs e hr;have hg:=g1.vn (t:=d) (B:=w.heap.size) (s:=s) (e:=cap) (T:=e) g4 (by simp) hs.kept.size (wK w _ e) (λo q=>by have :o=d:=gR λhne=>g6 o hne q;subst this;refine⟨rfl,iN _ _,λcells hc=>?_⟩;simp only[Qv.getObj,gT]at hc;obtain rfl:=an hc;rw[FV.fA,ai,hlen]) (λt' r q=>g5 t' r q) (λo q=>g7 o q) (λi h1 h2=>by simp_all);grind
theorem bp.Vk (hs:bp E G S a w){k b n N bN e0:Nat}{T:TypeId}{xs:List FV}(hk:Qv.getObj S.aJ k=some xs)(hl:G.loc k=some b)(ht:G.tail k=some (b,N*bN,e0,T))(hn:n<=N*bN)(hle:N*bN<=e0):bp E {G with tail:=λt=>if t=k then some (b,n,e0,T)else G.tail t} {S.kill k with aJ:=(k,FV.eL k (xs.take n))::eo k S.aJ} a w:=by
 obtain⟨t1,t2,tt,t3⟩:=hs.fI k b _ e0 T ht;obtain⟨-,l2,l3⟩:=hs.iu k b hl;obtain⟨-,hnb,ZM⟩:=hs.ck k k b _ hl ht;have hxl:xs.length=N*bN:=ZM xs hk;clear ZM;obtain⟨b',hb',hcell⟩:=hs.aJ k xs hk;obtain rfl:b'=b:=by simp_all
 let G':aV:={G with tail:=λt=>if t=k then some (b',n,e0,T)else G.tail t};have up:∀v x,aQ G w v x->aQ G' w v (x.kill k):=λv x hv=>by have h1:aQ {G with tail:=λt=>if t=k then none else G.tail t} w v (x.kill k):=hv.kill k rfl (λ_ _ _ h=>h) (λt r hne h=>by simp_all);refine h1.keep (λ_ _ h=>h) (λb2 i c hi hc=>hc) (vY.refl _ _) (λ_ _ h=>h) (λt r h=>?_);grind
 refine⟨hs.kept,hs.size,hs.ext'.move (S':={S.kill k with aJ:=(k,FV.eL k (xs.take n))::eo k S.aJ}) (FV.kill k) rfl rfl rfl up (ga.refl w) (.afI k rfl rfl (.kill k rfl (λ_ _ _ h=>h) (λ_ _ h=>h) (λ_ _ _ h=>h) (λ_ _ h=>h) λ_ _ h=>h)),?_,hs.oh,hs.fq,λi hi=>up _ _ (hs.tmps i hi),λo cs ho=>?_,hs.iu,hs.fk,λo t b r h h'=>?_,λt b s e T' h=>?_,λt t' b r r' h h'=>?_⟩;refine hs.iZ.keep rfl rfl (λo bs q=>⟨(jW q).2,rfl,rfl⟩) (λo bs q0 q=>?_) (λ_ _ e=>e) (ay _) (λo bs b q q2 e=>rfl) (λo r e=>rfl) (λ_ _ _ _ e=>e) (λ_ _ _ _ e=>e) (λo r t q _ e=>?_);simp only[Qv.getObj];split;simp_all;exact oH q;grind;simp only[Qv.getObj]at ho;split at ho;rename_i PK;obtain rfl:=aK PK;obtain rfl:=an ho;refine⟨b',hl,λi x hx=>?_⟩;rw[FV.fA,aM]at hx;grind;rename_i PK;obtain⟨hne,cs0,h2,rfl⟩:=kB ho;obtain⟨b2,h3,h4⟩:=hs.aJ o cs0 h2;refine⟨b2,h3,λi x hx=>?_⟩;rw[FV.fA,aM]at hx;grind;simp only at h h';split at h';rename_i Nf;have :=an h';injection this with q1 q2;subst q1;subst q2;subst Nf;obtain rfl:=hs.fk o k b' h hl;refine⟨rfl,iN _ _,λcells hc=>?_⟩;simp only[Qv.getObj,gT]at hc;obtain rfl:=an hc;rw[FV.fA,ai,aH,hxl];omega;rename_i hne;have h1:=hs.ck o t b r h h';have hto:=h1.1;refine kV.mono h1 (λbs q=>⟨bs,(jW q).2⟩) λcells q=>?_;simp only[Qv.getObj]at q;split at q;simp_all;obtain⟨-,cs0,h2,rfl⟩:=kB q;exact⟨cs0,h2,by rw[FV.fA,ai]⟩;simp only at h;split at h;rename_i et;have :=an h;injection this with q1 q2;injection q2 with q2 q3;injection q3 with q3 q4;subst q1;subst q2;subst q3;subst q4;subst et;refine⟨t1,t2,tt,λi hi hi'=>?_⟩;by_cases hin:i<N*bN;obtain⟨c,h2,-⟩:=hcell i _ (aq oO);simp_all;simp_all;exact hs.fI t b s e T' h;simp only at h h';split at h<;>split at h';simp_all;obtain⟨rfl,-⟩:=gU (an h);exact(hs.en _ _ _ _ _ ht h').symm▸oO;obtain⟨rfl,-⟩:=gU (an h');exact(hs.en _ _ _ _ _ h ht).trans (by grind);exact hs.en t t' b r r' h h'
theorem wp_evCutO (hs:bp E G S a w){K:ah->Prop}{x hi:Operand}{t:TypeId}(ho:o.op=.slice t x none (some hi) none){k:Nat}{T:TypeId}{bN:Nat}(hx:S.val x=.fc k T bN)(h:SE E.C t o.dst S k T bN (S.val hi) K){next:Act->World->Prop}{Q:Exit->Act->World->Prop}(hn:∀S' a' w',K S'->pJ E S' a' w'->next a' w'):CB E o a w next Q:=by
 have GB:=aQ.val hs x;have hhv:=aQ.val hs hi;rw[hx]at GB;generalize S.val hi=vh at h hhv;unfold SE at h;split at h;rename_i d _ _ e _ kk n hd ht;have Ke:=(E.C.ok ht).slice;split at h;simp_all;rename_i j hj;have hjs:=(E.C.ok hj).sizeOf w;split at h;rename_i xs hb hxs;obtain rfl:=aK hb;obtain⟨hkn,hxs⟩:=iU hxs;obtain⟨m,N,rfl,hN,hm,zs,rfl,hK⟩:=h;generalize KX:a.eval x=vv at GB;cases GB with
 |fc _ _ _ n' c b p1 p2 p3 p4=>
  have hxl:=(hs.ck _ _ _ _ p1 p2).2.2 xs hxs;simp only at hxl;obtain rfl:N=n':=gm p4 (hN.symm.trans hxl);have hh:a.eval hi=.int kk m:=hhv.fJ;have hbd:=mA (P:=E.C.P) (w:=w) true N c none (some (.int kk m)) 0 m (zL) oO (.inl ⟨rfl,rfl⟩) (.inr ⟨kk,rfl⟩);have hrun:(execOp a.eval o).run E.C.P w=.ok (.value (.slice (some ⟨b,0,none⟩) m c)) w:=by simp[execOp,ho,KX,hh,Instr.sliceAt,run_underlying Ke,Instr.slice,hbd,hjs,Addr.add_lit]
  have adF:=hs.Vk hxs p1 p2 (n:=m*j.size) (ec _ hm) (ec _ p3);refine wp_value hrun (hn _ _ _ hK ⟨{G with tail:=λt=>if t=k then some (b,m*j.size,c*j.size,T)else G.tail t},?_⟩);rw[hd];exact adF.put (some d) (v:=.slice (some ⟨b,0,none⟩) m c) (x:=.fc k T j.size) (.fc k T j.size m c b p1 (by simp_all) oO p4)
 simp_all;simp_all
theorem wp_evTailO (hs:bp E G S a w){K:ah->Prop}{x lo:Operand}{t:TypeId}(ho:o.op=.slice t x (some lo) none none){k:Nat}{T:TypeId}{bN:Nat}(hx:S.val x=.fc k T bN)(h:MP E.C t o.dst S k T bN (S.val lo) K){next:Act->World->Prop}{Q:Exit->Act->World->Prop}(hn:∀S' a' w',K S'->pJ E S' a' w'->next a' w'):CB E o a w next Q:=by
 have GB:=aQ.val hs x;have hhv:=aQ.val hs lo;rw[hx]at GB;generalize S.val lo=vh at h hhv;unfold MP at h;split at h;rename_i d _ _ e _ kk n hd ht;have Ke:=(E.C.ok ht).slice;split at h;simp_all;rename_i j hj;have hjs:=(E.C.ok hj).sizeOf w;split at h;rename_i xs hb hxs;obtain rfl:=aK hb;obtain⟨hkn,hxs⟩:=iU hxs;obtain⟨m,N,rfl,hN,hm,hK⟩:=h;generalize KX:a.eval x=vv at GB;cases GB with
 |fc _ _ _ n' c b p1 p2 p3 p4=>
  have hxl:=(hs.ck _ _ _ _ p1 p2).2.2 xs hxs;simp only at hxl;obtain rfl:N=n':=gm p4 (hN.symm.trans hxl);have hh:a.eval lo=.int kk m:=hhv.fJ;have hbd:=mA (P:=E.C.P) (w:=w) true N c (some (.int kk m)) none m N hm p3 (.inr ⟨kk,rfl⟩) (.inl ⟨rfl,rfl⟩);have hrun:(execOp a.eval o).run E.C.P w=.ok (.value (.slice (some ⟨b,if c=m then 0 else m*j.size,none⟩) (N-m) (c-m))) w:=by
   by_cases hcm:c=m;subst hcm;simp[execOp,ho,KX,hh,Instr.sliceAt,run_underlying Ke,Instr.slice,hbd,hjs,Addr.add_lit];have h0:¬c-m=0:=oO
   simp[execOp,ho,KX,hh,Instr.sliceAt,run_underlying Ke,Instr.slice,hbd,hjs,Addr.add_lit,hcm,h0]
  refine wp_value hrun (hn _ _ _ hK ⟨G,?_⟩);rw[hd];exact hs.put (some d) (x:=.tX k m T j.size) (.tX k m T j.size N c b _ p1 p2 ⟨hm,λh=>aa oO⟩ p3 p4)
 simp_all;simp_all
theorem Ng {α:Type}:∀{ys xs:List α}{n:Nat},xs.length=n+ys.length->gC xs n ys=some (xs.take n++ys)
 |[],xs,n,h=>by simp only[gC,bg];rw[cF (by simp_all)]
 |y::ys,xs,n,h=>by
  have hA:(xs.take n).length=n:=by rw[aH];omega
  have e:xs=xs.take n++(xs.drop n++[]):=by rw[bg,dw]
  have hd:(xs.drop n).length=(y::ys).length:=by rw[cL];omega
  have key:∀{cs ds:List α}{pre:List α},ds.length=cs.length->gC (pre++ds) pre.length cs=some (pre++cs):=by
   intro cs;induction cs with
   |nil=>intro ds pre hl;rw[bJ.1 hl];rfl
   |cons c cs ih=>
    intro ds pre hl;match ds,hl with
     |d::ds,hl=>
      have hl:ds.length=cs.length:=by simpa using hl
      have h1:JV (pre++d::ds) pre.length c=some (pre++c::ds):=by
       clear ih hl;induction pre with
       |nil=>rfl
       |cons p pre ih=>simp only[dZ,aI,JV,ih]
      have h2:=ih (ds:=ds) (pre:=pre++[c]) hl;simp only[au,fo,br,gV]at h2;simp only[gC,h1,h2]
  grind
theorem SU {P:Program}(w:World)(t e ty:TypeId)(z:Value)(ht:P.underlying t=some (.slice e))(hv:(zeroValue e).run P w=.ok z w)(b o n c:Nat)(hst:(storeCells ⟨b,o,none⟩ (od n z.cells.toList) 0).run P w=.ok () (w.setCells b o (od n z.cells.toList))):(Builtin.clear_ #[t] ty #[.slice (some ⟨b,o,none⟩) n c]).run P w=.ok (.tuple #[]) (w.setCells b o (od n z.cells.toList)):=by
 have GA:(Builtin.zeroCells z.cells n).toList=od n z.cells.toList:=by
  obtain⟨g1,g2⟩:=rL z.cells.toList n;apply fP;intro i;by_cases hi:i<n*z.cells.toList.length;rw[g2 i hi];have hi':i<n*z.cells.size:=by simpa using hi
  have hpos:0<z.cells.size:=by rcases Nat.eq_zero_or_pos z.cells.size with h0|h0;simp_all;omega
  have hm:i%z.cells.size<z.cells.size:=jX _ hpos;simp[Builtin.zeroCells,hi',hm];rw[nN (l:=od n z.cells.toList) oO,nN];have hi2:¬i<n*z.cells.size:=by simpa using hi
  simp only[Builtin.zeroCells,nJ,ai,Array.toList_range,pT];omega
 cases n with
 |zero=>simp[Builtin.clear_,run_underlying ht];rfl
 |succ n=>simp[Builtin.clear_,run_underlying ht,hv,GA,hst]
theorem wp_evAppO (hs:bp E G S a w){d:Nat}{K:ah->Prop}{x y:Operand}{t u:TypeId}(ho:o.op=.call ⟨.builtin .append,#[x,y],#[t,u]⟩)(hd:o.dst=some d){o2:Nat}{T2:TypeId}{e2:Nat}(hy:S.val y=.fc o2 T2 e2)(h:Sz E.C t u d S (S.val x) o2 T2 e2 K){next:Act->World->Prop}{Q:Exit->Act->World->Prop}(hn:∀S' a' w',K S'->pJ E S' a' w'->next a' w'):CB E o a w next Q:=by
 have GB:=aQ.val hs x;have hyv:=aQ.val hs y;rw[hy]at hyv;generalize S.val x=vx at h GB;unfold Sz at h;split at h;rename_i e _ ui ht hui;have Ke:=(E.C.ok ht).slice;obtain⟨dd,ZN,hsh⟩:=(E.C.ok hui).yL;split at h;simp_all;rename_i yU;have hdk:∀k,dd≠.int k:=λk e=>by rw[<-hsh,e]at yU;simp[shapeOf,Shape.Fj]at yU
 split at h;simp_all;rename_i j hj;have hok:=E.C.ok hj;split at h;rename_i he2 hT2 hb0;obtain rfl:=aK he2;obtain rfl:=aK hT2;have hb0:=bt hb0;split at h;simp_all;rename_i ys hys;generalize PO:a.eval y=vy at hyv;cases hyv with
 |fc _ _ _ m c2 b2 q1 q2 q3 q4=>
  have ZO:=(hs.ck _ _ _ _ q1 q2).2.2 ys hys;simp only at ZO;obtain⟨news,nl,nr,nf⟩:=Bk (P:=E.C.P) hs hys q1 q2;have hl:(Builtin.lenOf (.slice (some ⟨b2,0,none⟩) m c2)).run E.C.P w=.ok m w:=by simp[Builtin.lenOf]
  have hone:iW ys=true->∀v,v∈news->v.oneCell'=true:=λh1 v hv=>by
   obtain⟨i,hi⟩:=iI hv;have zZ:i<ys.length:=by rw[ZO,<-nl];exact(aC.1 hi).1
   obtain⟨v',h2,h3⟩:=nr i _ (aq zZ);rw[hi]at h2;obtain rfl:=an h2;exact h3.Zx (oP.1 h1 _ (aL zZ))
  split at h;rename_i k T bN;split at h;rename_i he hT hne;obtain rfl:=aK he;obtain rfl:=aK hT;split at h;simp_all;rename_i xs hxs;obtain⟨hkn,hxs⟩:=iU hxs;obtain⟨n,m',WR,hm1,h1,hbd,zs,rfl,hK⟩:=h;generalize Nh:a.eval x=vv at GB;cases GB with
  |fc _ _ _ n' c b p1 p2 p3 p4=>
   have hxl:=(hs.ck _ _ _ _ p1 p2).2.2 xs hxs;simp only at hxl;obtain rfl:n=n':=gm p4 (WR.symm.trans hxl);obtain rfl:m'=m:=gm p4 (hm1.symm.trans ZO);obtain⟨t1,t2,tt,t3⟩:=hs.fI _ _ _ _ _ p2;by_cases hc:n+m'<=c;have hq:n*j.size+news.length<=c*j.size:=by have :=ec j.size hc;rw[bD]at this;omega
   have hrun:=nM (P:=E.C.P) (w:=w) (ty:=o.type) (b:=b) (off:=0) Ke ZN hdk hok hl (nf w λ_ _=>rfl) hc (λq Nc=>by grind) (λq Nc=>by grind) (hone h1);rw[cz]at hrun;have hg:=hs.PN (news:=news) hxs p1 p2 hq nr oO;have hex:(execOp a.eval o).run E.C.P w=.ok (.value (.slice (some ⟨b,0,none⟩) (n+m') c)) (w.setCells b (n*j.size) news):=by simp[execOp,ho,resolve,invoke,builtin,Nh,PO,hrun]
   refine wp_value hex (hn _ _ _ hK ⟨{G with tail:=λt=>if t=k then some (b,n*j.size+news.length,c*j.size,T)else G.tail t},?_⟩);rw[hd];refine hg.put (some d) (v:=.slice (some ⟨b,0,none⟩) (n+m') c) (x:=.fc k T j.size) (.fc k T j.size (n+m') c b p1 ?_ hc p4);simp only[if_true];rw[nl,bD];obtain⟨olds,ol,or',of'⟩:=Bk (P:=E.C.P) hs hxs p1 p2;obtain⟨rest,z,hz,qB,hrun⟩:=iM (P:=E.C.P) (w:=w) (ty:=o.type) (news:=news) (olds:=olds) Ke ZN hdk hok hl nf of' hc hbd hb0;have hcap:n+m'<=grownCap w (n+m') c T:=grownCap_ge w _ _ _;generalize hcg:grownCap w (n+m') c T=cap at*;have hrl:rest.size=(cap-(n+m'))*j.size:=by rw[qB,size_zeroCells,hz]
   have jE:(olds++news++rest.toList).length=cap*j.size:=by simp only[au,ol,nl,jf,hrl,<-bD];rw[show n+m'+(cap-(n+m'))=cap from oO]
   obtain⟨G',g1,g2,g3⟩:=Ac hs.drew k hkn (zs:=xs++ys) (cells:=olds++news++rest.toList) (s:=(n+m')*j.size) (cap:=cap*j.size) (e:=T) (by grind) jE (λi z hz=>by have hk:∀{v:Value}{z:FV},aQ G w v z->aQ G {w with drawn:=w.drawn+1} v z:=λh=>h.keep (λ_ _ h=>h) (λ_ _ _ _ h=>h) (λ_ _ _ _ h=>h) (λ_ _ h=>h) (λ_ _ h=>h);grind);have hW:w.drew.alloc (.cells (olds.toArray++news.toArray++rest) T)=({w with drawn:=w.drawn+1}:World).alloc (.cells (olds++news++rest.toList).toArray T):=by
    have :olds.toArray++news.toArray++rest=(olds++news++rest.toList).toArray:=by apply iH.1;simp
    rw[this];rfl
   rw[hW]at hrun;refine wp_value (v:=.slice (some ⟨w.heap.size,0,none⟩) (n+m') cap) (w':=({w with drawn:=w.drawn+1}:World).alloc (.cells (olds++news++rest.toList).toArray T)) ?_ (hn _ _ _ hK ⟨G',?_⟩);simp[execOp,ho,resolve,invoke,builtin,Nh,PO]at hrun⊢;simp_all;rw[hd];exact g1.put (some d) (v:=.slice (some ⟨w.heap.size,0,none⟩) (n+m') cap) (x:=.fc k T j.size) (.fc k T j.size (n+m') cap w.heap.size g2 g3 hcap p4)
  simp_all;obtain⟨m',hm0,hm1,h1,hbd,h⟩:=h;rw[lU]at h;obtain⟨hdn,zs,rfl,hK⟩:=h;have hdn:=bt hdn;generalize Nh:a.eval x=vv at GB;cases GB with
  |full _ ad hr0=>
   obtain rfl:m'=m:=gm q4 (hm1.symm.trans ZO);have of':∀w',(∀b o,w'.cell? ⟨b,o,none⟩=w.cell? ⟨b,o,none⟩)->(Builtin.firstCells j.size 0 (.slice ad 0 0)).run E.C.P w'=.ok ([]:List Value).toArray w':=λw' _=>by cases ad<;>simp[Builtin.firstCells,loadCells,loadCellsFrom]
   obtain⟨rest,z,hz,qB,hrun⟩:=iM (P:=E.C.P) (w:=w) (ty:=o.type) (base:=ad) (n:=0) (c:=0) (news:=news) (olds:=[]) Ke ZN hdk hok hl nf of' oO (by simp_all) hb0;have hcap:0+m'<=grownCap w (0+m') 0 T2:=grownCap_ge w _ _ _;generalize hcg:grownCap w (0+m') 0 T2=cap at*;have hrl:rest.size=(cap-(0+m'))*j.size:=by rw[qB,size_zeroCells,hz]
   have jE:(news++rest.toList).length=cap*j.size:=by simp only[au,nl,jf,hrl,<-bD];rw[show m'+(cap-(0+m'))=cap from oO]
   generalize hnm:S.off+d=nm at hK hdn;obtain⟨G',g1,g2,g3⟩:=Ac hs.drew nm hdn (zs:=ys) (cells:=news++rest.toList) (s:=m'*j.size) (cap:=cap*j.size) (e:=T2) ZO jE (λi z hz=>by have hk:∀{v:Value}{z:FV},aQ G w v z->aQ G {w with drawn:=w.drawn+1} v z:=λh=>h.keep (λ_ _ h=>h) (λ_ _ _ _ h=>h) (λ_ _ _ _ h=>h) (λ_ _ h=>h) (λ_ _ h=>h);grind);have hW:w.drew.alloc (.cells (([]:List Value).toArray++news.toArray++rest) T2)=({w with drawn:=w.drawn+1}:World).alloc (.cells (news++rest.toList).toArray T2):=by
    have :([]:List Value).toArray++news.toArray++rest=(news++rest.toList).toArray:=by apply iH.1;simp
    rw[this];rfl
   rw[hW]at hrun;refine wp_value (v:=.slice (some ⟨w.heap.size,0,none⟩) (0+m') cap) (w':=({w with drawn:=w.drawn+1}:World).alloc (.cells (news++rest.toList).toArray T2)) ?_ (hn _ _ _ hK ⟨G',?_⟩);simp[execOp,ho,resolve,invoke,builtin,Nh,PO]at hrun⊢;simp_all;rw[hd];exact g1.put (some d) (v:=.slice (some ⟨w.heap.size,0,none⟩) (0+m') cap) (x:=.fc nm T2 j.size) (.fc nm T2 j.size (0+m') cap w.heap.size g2 (by simp_all) hcap q4)
  simp_all
 simp_all;simp_all
theorem Bl {d Z o:Nat}{ru:List (List AV)}{cells:List FV}:∀{l:List (Nat×List FV)},Qv.getObj (zW d Z ru l) o=some cells->o≠d/\∃cs,Qv.getObj l o=some cs/\cells=FV.Ca d Z ru cs:=by
 intro l;induction l with
 |nil=>intro h;cases h
 |cons p l ih=>
  obtain⟨u,i⟩:=p;intro h;simp only[zW]at h;split at h;rename_i hb;obtain rfl:=aK hb;obtain⟨h1,cs,h2,h3⟩:=ih h;refine⟨h1,cs,?_,h3⟩;simp only[Qv.getObj];have :Nat.beq u o=false:=by cases hb:Nat.beq u o;rfl;simp_all
  simp_all;rename_i hb;simp only[Qv.getObj]at h⊢;grind
theorem lP {α:Type}{e:Nat}:∀{l:List (List α)},(∀zs,zs∈l->zs.length=e)->∀{i j:Nat}{zs:List α}{z:α},l[i]?=some zs->zs[j]?=some z->l.flatten[i*e+j]?=some z
 |[],_,i,j,zs,z,h,_=>by grind
 |x::l,hl,0,j,zs,z,h1,h2=>by grind
 |x::l,hl,i+1,j,zs,z,h1,h2=>by have hx:=hl x (by simp);rw[nH,dN (by grind),hx,show(i+1)*e+j-e=i*e+j by grind];exact lP (λzs hz=>hl zs (by grind)) (by simp_all) h2
theorem aQ.JW {G G':aV}{w:World}{v:Value}{x:FV}{d Z:Nat}{ru:List (List AV)}(h:aQ G w v x)(hi:∀b o,G.aZ b o->G'.aZ b o)(hl:∀o b,o≠d->G.loc o=some b->G'.loc o=some b)(ht:∀(t:Nat) r,G.tail t=some r->G'.tail t=some r)(hO:∀(T:TypeId)(bN n c b:Nat),G.loc d=some b->G.tail d=some (b,n*bN,c*bN,T)->n<=c->0<bN->bN=Z->aQ G' w (.slice (some ⟨b,0,none⟩) n c) (.eU d T bN ru))(hy:∀l k,G.yl l=some k->G'.yl l=some k:=by intro _ _ h;exact h)(hmp:∀o b,o≠d->G.mp o=some b->G'.mp o=some b:=by intro _ _ _ h;exact h)(hit:∀o b,o≠d->G.it o=some b->G'.it o=some b:=by intro _ _ _ h;exact h):aQ G' w v (x.JW d Z ru):=by
 have get:∀{cs:List Value}{xs:List FV},(∀(i:Nat)(c:Value)(x:FV),cs[i]?=some c->xs[i]?=some x->aQ G' w c (x.JW d Z ru))->∀(i:Nat)(c:Value)(x:FV),cs[i]?=some c->(FV.Ca d Z ru xs)[i]?=some x->aQ G' w c x:=λ{cs xs} ih i c x h1 h2=>by rw[FV.wo,aM]at h2;grind
 induction h with
 |p v x h=>exact .p v x (h.keep hi (λ_ _ _ _ h=>h) (.refl _ _))
 |agg cs xs hn _ ih=>exact .agg cs _ (by simpa[FV.wo]using hn) (get ih)
 |eY cs xs hn _ ih=>exact .eY cs _ (by simpa[FV.wo]using hn) (get ih)
 |ptr o off b h=>simp only[FV.JW];split;exact .dr _;rename_i hb;exact .ptr o off b (hl o b (bt hb) h)
 |eU t T bN xs a c h1 h2=>simp only[FV.JW];split;exact .p _ _ (h1.keep hi (λ_ _ _ _ h=>h) (.refl _ _));refine .eU t T bN xs a c (h1.keep hi (λ_ _ _ _ h=>h) (.refl _ _)) ?_;grind
 |full xs a h=>exact .full xs a (h.keep hi (λ_ _ _ _ h=>h) (.refl _ _))
 |fn f fs cs first captured hn hn' _ _ ih GU=>exact .fn f fs cs _ _ (by simpa[FV.wo]using hn) (by simpa[FV.wo]using hn') (get ih) (get GU)
 |mZ l k h=>simp only[FV.JW];split;exact .dr _;exact .mZ l k (hy _ _ h)
 |fc o T bN n c b h1 h2 h3 h4=>simp only[FV.JW];split;rename_i hb;obtain rfl:=aK hb;split;rename_i he;exact hO T bN n c b h1 h2 h3 h4 (aK he);exact .dr _;rename_i hb;exact .fc o T bN n c b (hl o b (bt hb) h1) (ht o _ h2) h3 h4
 |tX o x T bN n c b off h1 h2 h0 h3 h4=>simp only[FV.JW];split;exact .dr _;rename_i hb;exact .tX o x T bN n c b off (hl o b (bt hb) h1) (ht o _ h2) h0 h3 h4
 |ic o base off b h=>simp only[FV.JW];split;exact .dr _;rename_i hb;exact .ic o base off b (hl o b (bt hb) h)
 |fK o b h=>simp only[FV.JW];split;exact .dr _;rename_i hb;exact .fK o b (hmp o b (bt hb) h)
 |AL o b h=>simp only[FV.JW];split;exact .dr _;rename_i hb;exact .AL o b (hit o b (bt hb) h)
 |dr v=>exact .dr v
theorem lJ.Pn {G G':aV}{S:ah}{w:World}{d Z:Nat}{ru:List (List AV)}(hi:∀b i es k,w.heap[b]?=some (.map es k)->(∃o,G'.mp o=some b)->G'.aZ b i->G.aZ b i)(hi':∀b,G.aZ b 0->G'.aZ b 0)(hmp:G'.mp=G.mp)(hit:G'.it=G.it)(hl:∀o b,G'.loc o=some b->G.loc o=some b)(ht:∀q r,G.tail (.inr q)=some r->G'.tail (.inr q)=some r:=by first|exactλ_ _ h=>h|exactλ_ _ h=>(aa (λe=>nomatch e)).trans h):lJ (FV.JW d Z ru) G G' S (S.Pn d Z ru) w:=by refine⟨λ_=>rfl,λo l' h=>?_,λq x h=>?_,λ_ _ h=>hmp▸h,λ_ _ h=>hit▸h,hi,hi',λo b h=>.inl (hl o b h),ht⟩;obtain⟨l,h1,h2⟩:=wF h;obtain⟨h3,h4⟩:=pS h1;simp_all;obtain⟨h1,h2⟩:=pS h;simp_all
theorem bp.Pn (hs:bp E G S a w){d Z:Nat}{ru:List (List AV)}(hf:ah6 S d Z ru):∃G',bp E G' (S.Pn d Z ru) a w:=by
 obtain⟨⟨cells,hc0,hy⟩,AR⟩:=hf;obtain⟨hdn,hc⟩:=iU hc0;clear hc0;generalize hys:ru.flatten=ys at hy;obtain⟨B,hB,hcell⟩:=hs.aJ d cells hc;obtain⟨Kf,Fq,hl3⟩:=hs.iu d B hB;obtain⟨hlen,vg⟩:=FV.iT hy;let G':aV:={G with aZ:=λb o=>G.aZ b o\/(b=B/\o<ys.length),loc:=λo=>if o=d then none else G.loc o};have hone:∀y,y∈ys->y.one=true:=λy hy=>by rw[<-hys]at hy;obtain⟨zs,h1,h2⟩:=wL.1 hy;grind
 have vo:∀o b,G'.loc o=some b->o≠d/\G.loc o=some b:=λo b h=>by grind
 have om:∀(j:Nat)(y:AV),ys[j]?=some y->∃c,w.cell? ⟨B,j,none⟩=some c/\cZ G'.aZ w c y:=λj y hj=>by obtain⟨x,hx,hxy⟩:=vg j y hj;obtain⟨c,h2,h3⟩:=hcell j x hx;exact⟨c,h2,(h3.fe hxy).keep (λb o h=>.inl h) (λ_ _ _ _ h=>h) (.refl _ _)⟩
 have ZP:∀b i es n,b=B->i<ys.length->w.heap[b]?=some (.map es n)->False:=λb i es n e hi hb=>by subst e;obtain⟨c,h2,-⟩:=om i _ (aq hi);rw[Ce hb]at h2;grind
 have up:∀v x,aQ G w v x->aQ G' w v (x.JW d Z ru):=λv x hv=>by
  refine hv.JW (λb o h=>.inl h) (λo b hne h=>by grind) (λ_ _ h=>h) (λT bN n c b h1 h2 h3 h4 h5=>?_);obtain rfl:b=B:=by simp_all
  subst h5;have h6:=(hs.ck d d b _ h1 h2).2.2 cells hc;simp only at h6;have h7:ru.flatten.length=ru.length*bN:=by
   have :∀l:List (List AV),(∀zs,zs∈l->zs.length=bN)->l.flatten.length=l.length*bN:=by
    intro l;induction l with
    |nil=>simp_all
    |cons z l ih=>grind
   exact this ru λzs hz=>(AR zs hz).1
  have h8:ru.length=n:=gm h4 (by simp_all);subst h8;refine .eU d T bN ru (some ⟨b,0,none⟩) c (yS h3 (λzs hz=>(AR zs hz).1) λi zs j z hi hj=>?_) (.inr ⟨b,0,rfl,λzs hz=>(AR zs hz).1,by grind⟩);rw[cz];have h9:ys[i*bN+j]?=some z:=by rw[<-hys];exact lP (λzs hz=>(AR zs hz).1) hi hj
  grind
 refine⟨G',hs.kept,hs.size,hs.ext'.move (S':=S.Pn d Z ru) (FV.JW d Z ru) rfl rfl rfl up (.refl _) (.Pn (λb i es n hb _ h=>h.elim id λh=>(ZP b i es n h.1 h.2 hb).elim) (λ_ h=>.inl h) rfl rfl (λo b h=>(vo o b h).2)),?_,?_,?_,λi hi=>up _ _ (hs.tmps i hi),λo cs ho=>?_,λo b ho=>?_,λo o' b h h'=>hs.fk o o' b (vo _ _ h).2 (vo _ _ h').2,λo t b r h h'=>kV.mono (hs.ck o t b r (vo _ _ h).2 h') (λbs q=>⟨bs,(jW q).2⟩) (λcs q=>?_),λt b s e T h=>?_,hs.en⟩;refine hs.iZ.keep rfl rfl (λo bs q=>?_) (λo _ _ q=>?_) (λ_ _ e=>e) (ay _) (λ_ _ _ _ _ _=>rfl) (λ_ _ _=>rfl) (λo r i e hi=>?_) (λ_ _ o' _ e=>(vo o' _ e).2) (λ_ _ t q _ e=>⟨t,q,e⟩);refine⟨(jW q).2,?_,rfl⟩;have q:=(jW q).2;have hne:o≠d:=λe=>by have :=(hs.iZ.at_ o bs q).1;simp_all
 grind;cases h':Qv.getObj (zW d Z ru S.aJ) o with
 |none=>exact h'
 |some cs=>obtain⟨-,cs',h2,-⟩:=Bl h';simp_all
 rcases hi with hi|⟨rfl,-⟩;omega;exact absurd hB ((hs.iZ.row o _ e).2.2.2.1 d);rintro b o (h|⟨rfl,-⟩);exact hs.oh b o h;exact .inr (E.Pr Fq hdn);rintro b o (h|⟨rfl,-⟩);exact hs.fq b o h;omega;obtain⟨hne,cs0,h2,rfl⟩:=Bl ho;obtain⟨b,h3,h4⟩:=hs.aJ o cs0 h2;refine⟨b,by grind,λi x hx=>?_⟩;rw[FV.wo,aM]at hx;grind;obtain⟨hne,ho'⟩:=vo o b ho;obtain⟨k1,k2,k3⟩:=hs.iu o b ho';refine⟨k1,k2,λi=>⟨?_,(k3 i).2⟩⟩;rintro(h|⟨e,-⟩);simp_all;exact hne (hs.fk o d b ho' (by simp_all));obtain⟨-,cs0,h2,rfl⟩:=Bl q;exact⟨cs0,h2,by rw[FV.wo,ai]⟩;obtain⟨k1,k2,kt,k3⟩:=hs.fI t b s e T h;refine⟨k1,k2,kt,λi hi hi'=>?_⟩;obtain⟨k4,k5,k6⟩:=k3 i hi hi';refine⟨k4,k5,?_⟩;rintro(h7|⟨rfl,hlt⟩);simp_all;have :=(hs.ck d t b _ hB h).2.2 cells hc;omega
theorem KY {i d:Nat}(h:i≠d):Nat.beq i d=false:=by cases hb:Nat.beq i d;rfl;simp_all
end
section
variable {E:Env}{G:aV}{S:ah}{a:Act}{w:World}{o:Oper}
theorem PR {l:Nat}{o o':Obj}(hl:w.heap[l]?=some o)(ho:o.isCells=false)(ho':o'.isCells=false)(b i:Nat):(w.putObj l o').cell? ⟨b,i,none⟩=w.cell? ⟨b,i,none⟩:=by unfold World.cell?;by_cases hb:b=l;subst hb;have h1:(w.putObj b o').heap[b]?=some o':=World.putObj_heap_same (bC.1 hl).1;simp only[h1,hl];cases o<;>cases o'<;>simp_all[Obj.isCells];have h1:(w.putObj l o').heap[b]?=w.heap[b]?:=World.putObj_heap_other hb;simp_all
theorem Kg {l:Nat}{o o':Obj}(hl:w.heap[l]?=some o)(ho:o.isCells=false)(ho':o'.isCells=false)(b i:Nat):(w.putObj l o').frozen? ⟨b,i,none⟩=w.frozen? ⟨b,i,none⟩:=by unfold World.frozen?;by_cases hb:b=l;subst hb;have h1:(w.putObj b o').heap[b]?=some o':=World.putObj_heap_same (bC.1 hl).1;simp only[h1,hl];cases o<;>cases o'<;>simp_all[Obj.isCells];have h1:(w.putObj l o').heap[b]?=w.heap[b]?:=World.putObj_heap_other hb;simp_all
theorem AS {aZ:Nat->Nat->Prop}{l:Nat}{o o':Obj}(hl:w.heap[l]?=some o)(h:(∃es k,o=.map es k)->¬aZ l 0):vY aZ w (w.putObj l o'):=λb es k hi hb=>by
 have hne:b≠l:=λe=>by simp_all
 have h1:(w.putObj l o').heap[b]?=w.heap[b]?:=World.putObj_heap_other hne;simp_all
theorem bp.putObj (hs:bp E G S a w){l:Nat}{o o':Obj}(hl:w.heap[l]?=some o)(ho:o.isCells=false)(ho':o'.isCells=false)(hw0:E.w0.heap.size<=l)(him:(∃es k,o=.map es k)->¬G.aZ l 0){mu:Option Nat}{bF:List (Array Value)}{loops:List (Nat×Loop)}{fixed:List Nat}{bV:List yg}{defers:List Deferred}{maps:List (Nat×List (AV×FV))}{iF:List (Nat×(Option (AV×AV)×List (AV×AV)))}(hx:(∀v x,aQ G w v x->aQ G (w.putObj l o') v x)->(∀k ob,k≠l->w.heap[k]?=some ob->(w.putObj l o').heap[k]?=some ob)->(w.putObj l o').heap[l]?=some o'->Ext {E with mu:=mu,bF:=bF,loops:=loops,fixed:=fixed} G {S with bV:=bV,maps:=maps,iF:=iF} {a with defers:=defers} (w.putObj l o')):bp {E with mu:=mu,bF:=bF,loops:=loops,fixed:=fixed} G {S with bV:=bV,maps:=maps,iF:=iF} {a with defers:=defers} (w.putObj l o'):=by
 have hlt:=(bC.1 hl).1;have hc:=λb i=>PR (w:=w) hl ho ho' b i;have hf:=λb i=>Kg (w:=w) hl ho ho' b i;have tB:∀k,k≠l->(w.putObj l o').heap[k]?=w.heap[k]?:=λk hk=>World.putObj_heap_other hk;have hsz:(w.putObj l o').heap.size=w.heap.size:=World.putObj_size;have keep:∀v x,aQ G w v x->aQ G (w.putObj l o') v x:=λv x hv=>hv.keep (λ_ _ h=>h) (λb i c _ h=>by simp_all) (AS hl him) (λ_ _ h=>h) (λ_ _ h=>h);refine⟨⟨hs.kept.os,hs.kept.tape,hs.kept.output,by grind,λk hk hk'=>?_,λk cs T fr hk q=>?_⟩,hs.size,hx keep (λk ob hk h=>by simp_all) (World.putObj_heap_same hlt),?_,hs.oh,λb i h=>by rw[hsz];exact hs.fq b i h,λi hi=>keep _ _ (hs.tmps i hi),λob cs h=>?_,λob b h=>?_,hs.fk,hs.ck,λt b s e T h=>?_,hs.en⟩;rw[tB k (by grind)];exact hs.kept.block k hk hk';obtain⟨cs',q1,q2⟩:=hs.kept.shape k cs T fr hk q;grind;have hcells:∀k cs T fr,w.heap[k]?=some (.cells cs T fr)->k≠l:=λk cs T fr h e=>by subst e;rw[h]at hl;obtain rfl:=an hl;simp[Obj.isCells]at ho
 refine hs.iZ.same rfl rfl rfl rfl oO (λob bs b q q2 q3=>tB b ?_) (λob r q=>tB r (λe=>?_));obtain⟨-,b',q4,p,v,-,q5,-⟩:=hs.iZ.at_ ob bs q;grind;obtain⟨cs,T,fr,q5⟩:=hs.iZ.cM ob r q;grind;obtain⟨b,h1,h2⟩:=hs.aJ ob cs h;grind;obtain⟨h1,h2,h3⟩:=hs.iu ob b h;exact⟨oO,h2,λi=>⟨(h3 i).1,by simp_all⟩⟩;obtain⟨h1,h2,⟨cs,fr,h3,hu⟩,h4⟩:=hs.fI t b s e T h;have hne:b≠l:=λe'=>by subst e';rw[h3]at hl;obtain rfl:=an hl;simp[Obj.isCells]at ho
 grind
theorem YU.yV (h:YU E G S w){l:Nat}{o:Obj}{w':World}(hl:w.heap[l]?=some o)(ho:(∀(es:Array MapEntry)(k:Nat),o≠Obj.map es k)/\∀(m:Option Nat)(s:Nat)(seen:Array Nat)(c:Nat),o≠Obj.mapIter m s seen c)(keep:∀v x,aQ G w v x->aQ G w' v x)(HD:∀k ob,k≠l->w.heap[k]?=some ob->w'.heap[k]?=some ob){E':Env}{S':ah}(hE:E'.w0=E.w0)(hm:S'.maps=S.maps)(hi:S'.iF=S.iF)(hC:E'.C=E.C:=by rfl):YU E' G S' w':=by
 have hkp:∀v x,cZ G.aZ w v x->cZ G.aZ w' v x:=λv x hv=>(keep v (.p x) (.p v x hv)).plain;have hmap:∀(b:Nat)(es:Array MapEntry)(k:Nat),w.heap[b]?=some (Obj.map es k)->w'.heap[b]?=some (Obj.map es k):=λb es k hb=>HD b _ (λe=>by simp_all) hb;have akF:∀(b:Nat)(m:Option Nat)(s:Nat)(seen:Array Nat)(c:Nat),w.heap[b]?=some (Obj.mapIter m s seen c)->w'.heap[b]?=some (Obj.mapIter m s seen c):=λb m s seen c hb=>HD b _ (λe=>by simp_all) hb;refine⟨λo l h1=>?_,λo b h1=>?_,h.inj,λq x h1=>?_,λq r h1=>?_,h.yI,h.apart,λo T z k l b fZ es g1 g2 g3 g4 i e p g5 g6 g7=>?_⟩;obtain⟨b,fZ,es,q1,q2,q3,q4,q5⟩:=h.at_ o l (hm▸h1);grind;obtain⟨q1,q2,es,k,q3⟩:=h.loc o b h1;grind;obtain⟨r,q1,q2⟩:=h.iF q x (hi▸h1);exact⟨r,q1,q2.keep hkp (λ_ h=>h) (λm s seen c h=>akF _ _ _ _ _ h) λb es k _ hb=>hmap _ _ _ hb⟩;obtain⟨q1,m,s,seen,c,q2⟩:=h.yH q r h1;grind;obtain⟨b',adH,es0,h1,h2,-⟩:=h.at_ o l (hm▸g1);obtain rfl:b'=b:=by simp_all
 obtain rfl:=MU (hmap _ _ _ h2) g4;exact h.room o T z k l b' adH es (hm▸g1) (hC▸g2) h1 h2 i e p g5 g6 g7
theorem Ext.yV (h:Ext E G S a w){l:Nat}{o:Obj}{w':World}(hl:w.heap[l]?=some o)(ho:(∀r,o≠.loop r)/\∀d,o≠.deferred d)(keep:∀v x,aQ G w v x->aQ G w' v x)(HD:∀k ob,k≠l->w.heap[k]?=some ob->w'.heap[k]?=some ob){maps:List (Nat×List (AV×FV))}{iF:List (Nat×(Option (AV×AV)×List (AV×AV)))}(hm:YU E G {S with maps:=maps,iF:=iF} w'):Ext E G {S with maps:=maps,iF:=iF} a w':=by refine⟨hm,h.kM,λi vals fr h1 h2=>?_,h.jS,λi k r st h1 h2=>?_,h.kO,h.yl,h.mu,?_,h.AE.of keep⟩;obtain⟨h3,h4⟩:=h.bF i vals fr h1 h2;simp_all;obtain⟨h3,h4⟩:=h.loops i k r st h1 h2;grind;obtain⟨ms,h1,h2,h3⟩:=h.marks;grind
theorem PS {α:Type}{ob o:Nat}{c x:α}:∀{l:List (Nat×α)},getM (uZ l ob c) o=some x->(o=ob/\x=c)\/(o≠ob/\getM l o=some x):=by
 intro l;induction l with
 |nil=>intro h;cases h
 |cons p l ih=>obtain⟨u,i⟩:=p;intro h;simp only[uZ]at h;split at h;rename_i hb;obtain rfl:=aK hb;simp only[getM]at h⊢;split at h;simp_all;grind;rename_i hb;simp only[getM]at h⊢;grind
theorem bp.SV (hs:bp E G S a w){ob b fZ Ee:Nat}{es es':List MapEntry}{l':List (AV×FV)}(hb:G.mp ob=some b)(hh:w.heap[b]?=some (.map es.toArray fZ))(CI:nG es' Ee)(hlen:es'.length=l'.length)(hent:∀(i:Nat)(e:MapEntry)(p:AV×FV),es'[i]?=some e->l'[i]?=some p->cZ G.aZ w e.key p.1/\aQ G w e.val p.2)(OT:∀(T:TypeId)(z:Nat)(k:Option AV),getM E.C.ex.JU ob=some (T,z,k)->∀(i:Nat)(e:MapEntry)(p:AV×FV),es'[i]?=some e->l'[i]?=some p->k≠some p.1->Ed G T z ob e):bp E G {S with maps:=uZ S.maps ob l'} a (w.putObj b (.map es'.toArray Ee)):=by
 have hm:=hs.ext'.mps;obtain⟨q1,q2,-⟩:=hm.loc ob b hb;refine hs.putObj (bV:=S.bV) (iF:=S.iF) (defers:=a.defers) (mu:=E.mu) (bF:=E.bF) (loops:=E.loops) (fixed:=E.fixed) hh rfl rfl q1 (λ_=>q2 0) λkeep HD uJ=>?_;have hkp:∀v x,cZ G.aZ w v x->cZ G.aZ (w.putObj b (.map es'.toArray Ee)) v x:=λv x hv=>(keep v (.p x) (.p v x hv)).plain;refine Ext.yV (E:=E) hs.ext' hh ⟨λr=>by simp,λd=>by simp⟩ keep HD ⟨λo m ho=>?_,λo b' ho=>?_,hm.inj,λq x hx=>?_,λq r hr=>?_,hm.yI,hm.apart,λo T z k l b0 adH es0 g1 g2 g3 g4 i e p g5 g6 g7=>?_⟩;rcases PS ho with⟨rfl,rfl⟩|⟨hne,ho⟩;grind;obtain⟨b',adH,es0,h1,h2,h3,h4,h5⟩:=hm.at_ o m ho;exact⟨b',adH,es0,h1,HD b' _ (λe=>hne (hm.inj o ob b' h1 (e▸hb))) h2,h3,h4,λi e p h6 h7=>⟨hkp _ _ (h5 i e p h6 h7).1,keep _ _ (h5 i e p h6 h7).2⟩⟩;obtain⟨h1,h2,es0,c0,h3⟩:=hm.loc o b' ho;grind;obtain⟨r,h1,h2⟩:=hm.iF q x hx;refine⟨r,h1,h2.keep hkp (λ_ h=>h) (λm s seen c h=>HD r _ (λe=>?_) h) (AS hh λ_=>q2 0)⟩;simp_all;obtain⟨h1,m,s,seen,c,h2⟩:=hm.yH q r hr;grind;rcases PS g1 with⟨rfl,rfl⟩|⟨hne,ho⟩;grind;obtain⟨b',SX,es1,h1,h2,-⟩:=hm.at_ o l ho;obtain rfl:b'=b0:=by simp_all
 have h3:=HD b' _ (λe=>hne (hm.inj o ob b' h1 (e▸hb))) h2;obtain rfl:=MU h3 g4;exact hm.room o T z k l b' SX es0 ho g2 h1 h2 i e p g5 g6 g7
theorem bp.Vl (hs:bp E G S a w){G':aV}{maps:List (Nat×List (AV×FV))}{iF:List (Nat×(Option (AV×AV)×List (AV×AV)))}(h1:G'.aZ=G.aZ)(h2:G'.loc=G.loc)(h3:G'.tail=G.tail)(h4:G'.yl=G.yl)(h5:G'.row=G.row)(hmp:∀o b,G.mp o=some b->G'.mp o=some b)(hit:∀o b,G.it o=some b->G'.it o=some b)(hm:(∀v x,aQ G w v x->aQ G' w v x)->YU E G' {S with maps:=maps,iF:=iF} w):bp E G' {S with maps:=maps,iF:=iF} a w:=by have keep:∀v x,aQ G w v x->aQ G' w v x:=λv x h=>h.keep (λ_ _ h=>h1▸h) (λ_ _ _ _ h=>h) (.refl _ _) (λ_ _ h=>h2▸h) (λ_ _ h=>h3▸h) (λ_ _ h=>h4▸h) hmp hit;refine⟨hs.kept,hs.size,⟨hm keep,hs.ext'.kM,λi vals fr q1 q2=>?_,hs.ext'.jS,hs.ext'.loops,hs.ext'.kO,λi k r q=>by rw[h4];exact hs.ext'.yl i k r q,hs.ext'.mu,hs.ext'.marks,hs.ext'.AE.of keep⟩,⟨λo bs q=>?_,λo r q=>?_,λo r q=>hs.iZ.cM o r (h5▸q)⟩,h1▸hs.oh,h1▸hs.fq,λi hi=>keep _ _ (hs.tmps i hi),λo cs ho=>?_,λo b ho=>?_,λo o' b q q'=>hs.fk o o' b (h2▸q) (h2▸q'),λo t b r q q'=>hs.ck o t b r (h2▸q) (h3▸q'),λt b s e T q=>?_,λt t' b r r' q q'=>hs.en t t' b r r' (h3▸q) (h3▸q')⟩;obtain⟨q3,q4⟩:=hs.ext'.bF i vals fr q1 q2;simp_all;rw[h2,h5];exact hs.iZ.at_ o bs q;rw[h1,h2,h3,h5];exact hs.iZ.row o r (h5▸q);obtain⟨b,q1,q2⟩:=hs.aJ o cs ho;grind;rw[h1];exact hs.iu o b (h2▸ho);rw[h1];exact hs.fI t b s e T (h3▸q)
theorem Ni (hs:bp E G S a w)(q:Nat):∃G',bp E G' {(S.kill (S.off+q)).put (some q) (.fK (S.off+q))with maps:=(S.off+q,[])::xR (FV.kill (S.off+q)) (va (S.off+q) S.maps)} (a.put (some q) (.map (some w.heap.size))) (w.alloc (.map #[] 0)):=by
 generalize S.off+q=d;have hb:Below w.heap.size w (w.alloc (.map #[] 0)):=(Below.refl _ _).alloc (ay _) _;have h1:=(hs.MV hb λ_ _=>False).kill d;let G1:aV:=aV.free {G with aZ:=λb o=>G.aZ b o\/(w.heap.size<=b/\b<(w.alloc (.map #[] 0)).heap.size/\False)} d;let G2:aV:={G1 with mp:=λo=>if o=d then some w.heap.size else G1.mp o};have hfree:∀o b,G1.mp o=some b->o≠d/\G.mp o=some b:=λo b h=>by simp only[G1,aV.free]at h;simp_all
 have hold:∀o b,G1.mp o=some b->b<w.heap.size:=λo b h=>by obtain⟨-,-,es,k,h3⟩:=hs.ext'.mps.loc o b (hfree o b h).2;grind
 have Cf:∀i,¬G1.aZ w.heap.size i:=λi h=>by rcases h with h|⟨-,-,h⟩;have :=hs.fq _ _ h;omega;omega
 have h2:bp E G2 {S.kill d with maps:=(d,[])::xR (FV.kill d) (va d S.maps),iF:=va d S.iF} a (w.alloc (.map #[] 0)):=by refine h1.Vl (G':=G2) rfl rfl rfl rfl rfl (λo b h=>?_) (λ_ _ h=>h) λkeep=>?_;grind;have hm:=h1.ext'.mps;refine⟨λo l ho=>?_,λo b ho=>?_,λo o' b q1 q2=>?_,hm.iF,hm.yH,hm.yI,λo o' b q1 q2=>?_,λo T z k l b fZ es g1 g2 g3 g4 i e p g5 g6 g7=>?_⟩;simp only[getM]at ho;split at ho;rename_i hq;obtain rfl:=aK hq;obtain rfl:=an ho;exact⟨w.heap.size,0,[],by grind,World.alloc_heap_new w _,⟨by simp,by simp⟩,rfl,by simp⟩;obtain⟨b,fZ,es,q1,q2,q3,q4,q5⟩:=hm.at_ o l ho;grind;simp only[G2]at ho;split at ho;obtain rfl:=an ho;exact⟨hs.kept.size,Cf,_,_,World.alloc_heap_new w _⟩;exact hm.loc o b ho;simp only[G2]at q1 q2;split at q1<;>split at q2;omega;grind;grind;exact hm.inj o o' b q1 q2;simp only[G2]at q1;split at q1;obtain rfl:=an q1;simp only[G2,G1,aV.free]at q2;split at q2;grind;have :=(hs.iu o' _ q2).1;omega;exact hm.apart o o' b q1 q2;simp only[getM]at g1;split at g1;simp_all;rename_i hne;have hne:o≠d:=dM (bt hne);simp only[G2]at g3;rw[aa hne]at g3;exact hm.room o T z k l b fZ es g1 g2 g3 g4 i e p g5 g6 g7
 exact⟨G2,h2.put (some q) (v:=.map (some w.heap.size)) (x:=.fK d) (.fK d _ (by grind))⟩
end
theorem uh {α:Type}(k:AV)(x:α)(l:List (AV×α)):BY k x l=match iw k (gA l)with|some j=>l.set j (k,x)|none=>l++[(k,x)]:=by
 induction l with
 |nil=>rfl
 |cons p l ih=>obtain⟨k',y⟩:=p;simp only[BY,gA,iw];grind
theorem uj {k:AV}:∀{ks:List AV}{j:Nat},iw k ks=some j->∃h:j<ks.length,ks[j]=k
 |[],j,h=>by simp[iw]at h
 |x::ks,j,h=>by
  simp only[iw]at h;split at h;rename_i hs;obtain rfl:=an h;exact⟨by simp,(Zw hs).symm⟩;cases hq:iw k ks with
  |none=>simp_all
  |some m=>simp only[hq,eC,bM]at h;subst h;obtain⟨h1,h2⟩:=uj hq;simp_all
section
variable {E:Env}{G:aV}{S:ah}{a:Act}{w:World}{o:Oper}
theorem wp_makeMap (hs:bp E G S a w){d:Nat}{t:TypeId}{K:ah->Prop}(ho:o.op=.makeMap t none)(hd:o.dst=some d)(h:MN S d K){next:Act->World->Prop}{Q:Exit->Act->World->Prop}(hn:∀S' a' w',K S'->pJ E S' a' w'->next a' w'):CB E o a w next Q:=by unfold MN at h;rw[mF]at h;obtain⟨G',hg⟩:=Ni hs d;refine wp_value (v:=.map (some w.heap.size)) (w':=w.alloc (.map #[] 0)) ?_ (hn _ _ _ h ⟨G',hd▸hg⟩);have :(Instr.makeMap t none).run E.C.P w=.ok (.map (some w.heap.size)) (w.alloc (.map #[] 0)):=rfl;simp[execOp,ho,this]
theorem SY {P:Program}{t kT eT:TypeId}(hu:P.underlying t=some (.map kT eT)){L:List gI}(hL:eM P 40 kT=some L){k:AV}(hk:gz (gJ P kT) L k=true){b fZ:Nat}{es:List MapEntry}(hb:w.heap[b]?=some (.map es.toArray fZ)){ks:List AV}(hks:sy (gJ P kT) L es ks)(v:Value):∃(es':List MapEntry) (Ee:Nat),(Instr.mapUpdate t (.map (some b)) (tv (gJ P kT) k.cells) v).run P w=.ok () (w.putObj b (.map es'.toArray Ee))/\(nG es fZ->nG es' Ee)/\match iw k ks with|some j=>es'.length=es.length/\∀i e',es'[i]?=some e'->if i=j then e'.key=tv (gJ P kT) k.cells/\e'.val=v/\∃e0,es[j]?=some e0/\e'.born=e0.born else es[i]?=some e'|none=>∃e',es'=es++[e']/\e'.key=tv (gJ P kT) k.cells/\e'.val=v/\e'.born=fZ:=by
 have Ej:=(sx (P:=P) (em:=false) 40).1 kT L 10000 w k.cells dD hL (lK hk);have hfind:=wz (w:=w) dD hL hk hks;have hg:(Go.getObj b).run P w=.ok (.map es.toArray fZ) w:=by simp[Go.getObj,Sem.run,hb]
 have Bj:∀o',(Go.setObj b o').run P w=.ok () (w.putObj b o'):=λo'=>by simp[Go.setObj,Sem.run,hb,World.putObj]
 cases gb:iw k ks with
 |none=>
  rw[gb]at hfind;refine⟨es++[({key:=tv (gJ P kT) k.cells,val:=v,born:=fZ}:MapEntry)],fZ+1,?_,λhf=>⟨λe he=>?_,?_⟩,_,rfl,rfl,rfl,rfl⟩;have he:(es++[({key:=tv (gJ P kT) k.cells,val:=v,born:=fZ}:MapEntry)]).toArray=es.toArray.push {key:=tv (gJ P kT) k.cells,val:=v,born:=fZ}:=by simp
  rw[he];simp[Instr.mapUpdate,run_underlying hu,hg,Ej,hfind,found,Bj];rcases aW.1 he with he|he;have :=hf.lt e he;omega;simp_all;rw[aN,gW];refine⟨hf.nd,by simp,λx hx y hy=>?_⟩;obtain⟨e,he,rfl⟩:=aA.1 hx;have :=hf.lt e he;grind
 |some j=>
  rw[gb]at hfind;obtain⟨hj,hkj⟩:=uj gb;have SQ:j<es.length:=by have :=hks.1;omega
  obtain⟨k1,k2⟩:=hks.2 j _ _ (aq SQ) (aq hj);rw[hkj]at k1;refine⟨(es.toArray.modify j λe=>{e with key:=tv (gJ P kT) k.cells,val:=v}).toList,fZ,?_,λhf=>⟨λe he=>?_,?_⟩,by simp,λi e' he=>?_⟩;rw[CH];simp[Instr.mapUpdate,run_underlying hu,hg,Ej,hfind,found,SQ,k1,Ck hk,Bj];obtain⟨i,hi⟩:=iI he;rw[sD,iJ]at hi;split at hi;rename_i e;subst e;simp only[CL,aq SQ,eC,bM]at hi;subst hi;have :=hf.lt _ (aL SQ);omega;exact hf.lt _ (bA (by simpa using hi));have :((es.toArray.modify j λe=>{e with key:=tv (gJ P kT) k.cells,val:=v}).toList.map (·.born))=es.map (·.born):=by apply fP;intro i;rw[aM,sD,iJ,aM];split;grind;simp
  rw[this];exact hf.nd;grind
theorem wp_upd (hs:bp E G S a w){t:TypeId}{m k x:Operand}{K:ah->Prop}(ho:o.op=.mapUpdate t m k x\/o.op=.insert t m k x)(h:UU E.C S o.dst t (S.val m) (S.val k) (S.val x) K){next:Act->World->Prop}{Q:Exit->Act->World->Prop}(hn:∀S' a' w',K S'->pJ E S' a' w'->next a' w'):CB E o a w next Q:=by
 have hm:=aQ.val hs m;have hk0:=aQ.val hs k;have hx:=aQ.val hs x;unfold UU at h;split at h;rename_i kT eT _ ht;have hu:=(E.C.ok ht).map;split at h;rename_i ob xX;rw[xX]at hm;split at h;rename_i ki kk l hki hkk hl;obtain⟨L,hL,hk,hall,l',hl',h⟩:=h;obtain⟨hro,h⟩:(∀T z k,getM E.C.ex.JU ob=some (T,z,k)->k=some kk)/\K ((S.Pb (uZ S.maps ob l')).put o.dst (.p (.eY []))):=by grind
 have hagg:=(E.C.ok hki).gJ;rw[<-hagg]at hk hall;have hkey:=sX (hk0.fe hkk) hk;generalize KX:a.eval m=vm at hm;cases hm with
 |fK _ b hb=>
  obtain⟨b',fZ,es,h1,h2,h3,h4,h5⟩:=hs.ext'.mps.at_ ob l hl;rw[hb]at h1;obtain rfl:=an h1;have hka:=Na (w:=w) h4 (λi e p a b=>(h5 i e p a b).1) hall;obtain⟨es',Ee,hrun,CI,hent⟩:=SY (w:=w) hu hL hk h2 hka (a.eval x);have aiq:(execOp a.eval o).run E.C.P w=.ok .skip (w.putObj b (.map es'.toArray Ee)):=by rcases ho with ho|ho<;>simp[execOp,ho,KX,hkey,hrun]
  have hg:=hs.SV (l':=l') hb h2 (CI h3) (by rw[<-hl',uh];grind) (by
   intro i e p he hp;rw[<-hl',uh]at hp;cases gb:iw kk (gA l)with
   |none=>
    rw[gb]at hent hp;simp only at hp;obtain⟨e',rfl,q1,q2,-⟩:=hent;by_cases hi:i<es.length;grind;rw[dN oO]at he;rw[dN oO,<-h4]at hp;cases hz:i-es.length with
    |zero=>rw[hz]at he hp;simp at he hp;subst he;subst hp;exact⟨by rw[q1,<-hkey];exact hk0.fe hkk,by simp_all⟩
    |succ z=>simp_all
   |some j=>
    rw[gb]at hent hp;simp only at hp;have :=hent.2 i e he;by_cases e0:i=j;subst e0;rw[af rfl]at this;have zZ:i<l.length:=by have :=(aC.1 hp).1;simpa using this
    rw[List.getElem?_set_self zZ]at hp;obtain rfl:=an hp;exact⟨by rw[this.1,<-hkey];exact hk0.fe hkk,by simp_all⟩;grind) (λT z k0 agE i e p he hp hne=>by
   rw[hro T z k0 agE]at hne;rw[<-hl',uh]at hp;cases gb:iw kk (gA l)with
   |none=>rw[gb]at hent hp;simp only at hp;obtain⟨e',rfl,q1,q2,-⟩:=hent;by_cases hi:i<es.length;rw[cm hi]at he;rw[cm oO]at hp;exact hs.ext'.mps.room ob T z k0 l b fZ es hl agE hb h2 i e p he hp (by simp_all);grind
   |some j=>rw[gb]at hent hp;simp only at hp;have :=hent.2 i e he;by_cases e0:i=j;grind;rw[aa e0]at this;rw[Cv (dM e0)]at hp;exact hs.ext'.mps.room ob T z k0 l b fZ es hl agE hb h2 i e p this hp (by simp_all))
  refine⟨λf _=>Env.gd f,?_⟩;rw[Oper.semAt_eq _ _ _ (λc=>by grind),aiq];exact hn _ _ _ h ⟨G,hg.put o.dst (v:=undef) (.p _ _ (cZ.eY (aZ:=G.aZ) [] [] rfl (λi c x h _=>by simp_all)))⟩
 simp_all;simp_all;simp_all
theorem Ek {d o:Nat}{z:AV}{cells:List FV}:∀{l:List (Nat×List FV)},Qv.getObj (DZ d z l) o=some cells->∃cs,Qv.getObj l o=some cs/\cells=FV.YT d z cs:=by
 intro l;induction l with
 |nil=>intro h;cases h
 |cons p l ih=>obtain⟨u,i⟩:=p;intro h;simp only[DZ,Qv.getObj]at h⊢;grind
theorem HE {d o:Nat}{z:AV}{l:List (Nat×List FV)}(h:Qv.getObj l o=none):Qv.getObj (DZ d z l) o=none:=by
 cases h':Qv.getObj (DZ d z l) o with
 |none=>rfl
 |some cs=>obtain⟨cs',h2,-⟩:=Ek h';simp_all
theorem bp.SZ (hs:bp E G S a w){d:Nat}{ks vs:List AV}(hf:Zk S d ks vs):∃G',bp E G' (S.Ph d (.mp ks vs)) a w/\∀v x,aQ G w v x->aQ G' w v (x.fm d (.mp ks vs)):=by
 obtain⟨l,hl,rfl,hv⟩:=hf.mp;have hm:=hs.ext'.mps;obtain⟨B,fZ,es,h1,h2,h3,h4,h5⟩:=hm.at_ d l hl;obtain⟨q1,q2,-⟩:=hm.loc d B h1;obtain⟨hlen,vg⟩:=FV.iT hv;let G':aV:={G with aZ:=λb o=>G.aZ b o\/(b=B/\o=0),mp:=λo=>if o=d then none else G.mp o};have anu:=(bC.1 h2).1;have kp:∀{v:Value}{y:AV},cZ G.aZ w v y->cZ G'.aZ w v y:=λhv=>hv.keep (λb o h=>.inl h) (λ_ _ _ _ h=>h) (.refl _ _);have fmp:∀o b,G'.mp o=some b->o≠d/\G.mp o=some b:=λo b h=>by grind
 have hz:cZ G'.aZ w (.map (some B)) (.mp (gA l) vs):=by
  refine .mp B fZ es (gA l) vs (by rw[nK,ai];omega) (by rw[hlen,Aa,ai];omega) (.inr ⟨rfl,rfl⟩) h2 h3 (λi e x he hx=>?_) (λi e x he hx=>?_);rw[nK,aM]at hx;grind;obtain⟨y,hy,hyx⟩:=vg i x hx;rw[Aa,aM]at hy;cases hp:l[i]?with
  |none=>simp_all
  |some p=>simp only[hp,eC,bM]at hy;subst hy;exact kp ((h5 i e p he hp).2.fe hyx)
 have up:∀v x,aQ G w v x->aQ G' w v (x.fm d (.mp (gA l) vs)):=λv x hv=>hv.fm (λb o h=>.inl h) (λb hb=>by simp_all) (λ_ _ h=>h) (λ_ _ h=>h) (λ_ _ h=>h) (λo b hne h=>by grind) (λ_ _ h=>h);have JK:lJ (FV.fm d (.mp (gA l) vs)) G G' S (S.Ph d (.mp (gA l) vs)) w:=by refine⟨λ_=>rfl,λo l' h=>?_,λq x h=>⟨h,λ_ h=>h⟩,λo b h=>(fmp o b h).2,λ_ _ h=>h,λb i es' k hb ho h=>?_,λ_ h=>.inl h,λ_ _ h=>.inl h,λ_ _ h=>h⟩;obtain⟨l0,g1,g2⟩:=wF h;obtain⟨g3,g4⟩:=pS g1;grind;rcases h with h|⟨rfl,-⟩;omega;obtain⟨o,ho⟩:=ho;obtain⟨g1,g2⟩:=fmp o _ ho;exact absurd (hm.inj o d _ g2 h1) g1
 refine⟨G',⟨hs.kept,hs.size,hs.ext'.move (S':=S.Ph d (.mp (gA l) vs)) (FV.fm d (.mp (gA l) vs)) rfl rfl rfl up (.refl _) JK,?_,?_,?_,λi hi=>up _ _ (hs.tmps i hi),λo cs ho=>?_,λo b ho=>?_,hs.fk,λo t b r h h'=>kV.mono (hs.ck o t b r h h') (λbs q=>⟨bs,q⟩) (λcs q=>?_),λt b s e T h=>?_,hs.en⟩,up⟩;refine hs.iZ.keep rfl rfl (λo bs q=>⟨q,rfl,rfl⟩) (λo _ _ q=>HE q) (λ_ _ e=>e) (ay _) (λ_ _ _ _ _ _=>rfl) (λ_ _ _=>rfl) (λo r i e hi=>?_) (λ_ _ o' _ e=>e) (λ_ _ t q _ e=>⟨t,q,e⟩);rcases hi with hi|⟨rfl,-⟩;omega;obtain⟨cs,T,fr,g⟩:=hs.iZ.cM o _ e;simp_all;rintro b o (h|⟨rfl,-⟩);exact hs.oh b o h;omega;rintro b o (h|⟨rfl,-⟩);exact hs.fq b o h;omega;obtain⟨cs0,g2,rfl⟩:=Ek ho;obtain⟨b,g3,g4⟩:=hs.aJ o cs0 g2;refine⟨b,g3,λi x hx=>?_⟩;rw[FV.we,aM]at hx;grind;obtain⟨k1,k2,k3⟩:=hs.iu o b ho;refine⟨k1,k2,λi=>⟨?_,(k3 i).2⟩⟩;rintro(h|⟨rfl,-⟩);simp_all;exact hm.apart d o _ h1 ho;obtain⟨cs0,g2,rfl⟩:=Ek q;exact⟨cs0,g2,by rw[FV.we,ai]⟩;obtain⟨k1,k2,⟨cs,fr,kt,ku⟩,k3⟩:=hs.fI t b s e T h;grind
theorem bp.Ph (hs:bp E G S a w){d:Nat}{ks vs:List AV}(hf:Zk S d ks vs):∃G',bp E G' (S.Ph d (.mp ks vs)) a w:=let⟨G',h,_⟩:=hs.SZ hf;⟨G',h⟩
end
end Qv
