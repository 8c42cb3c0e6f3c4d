/- Part 6 of the proof: its lemmas. No condition. -/
import Derived.Test.YtlbofhenpfnenaaGreatDoorW5
import Derived.OpenShut
import Derived.RowKit
import Derived.ChangeBears
import Derived.Below
import Derived.Carry
import Derived.ChangeOld
import Derived.ChangeSame
import Derived.Lib.LaidTab
set_option maxRecDepth 10000
set_option maxHeartbeats 80000000
set_option linter.all false
namespace Qv
open Go
inductive gZ {H:Type}(P:Program):TypeId->DataW H->List AV->Prop|bool (t:TypeId)(b:Bool):P.underlying t=some .bool->gZ P t (.lit (.bool b)) [.bool b]|int (t:TypeId)(k:IntKind)(n:Int):P.underlying t=some (.int k)->(Lit.int k n).wf=true->gZ P t (.lit (.int k n)) [.int k n]|str (t:TypeId)(s:List UInt8):P.underlying t=some .string->gZ P t (.lit (.string s)) [.str s]|nil (t e:TypeId):P.underlying t=some (.slice e)->gZ P t .nil [.sl []]|slice (t e:TypeId)(ds sp:List (DataW H))(xs:List (List AV)):P.underlying t=some (.slice e)->ds.length=xs.length->(∀(i:Nat)(d:DataW H)(x:List AV),ds[i]?=some d->xs[i]?=some x->gZ P e d x)->gZ P t (.slice ds sp) [.sl xs]|struct (t:TypeId)(fs:Array Field)(ds:List (DataW H))(pieces:List (List AV)):P.underlying t=some (.struct fs)->fs.toList.length=ds.length->pieces.length=ds.length->(∀(i:Nat)(f:Field)(d:DataW H)(x:List AV),fs.toList[i]?=some f->ds[i]?=some d->pieces[i]?=some x->gZ P f.type d x)->gZ P t (.agg ds) pieces.flatten|arr (t e:TypeId)(n:Nat)(ds:List (DataW H))(pieces:List (List AV)):P.underlying t=some (.array n e)->ds.length=n->pieces.length=n->(∀(i:Nat)(d:DataW H)(x:List AV),ds[i]?=some d->pieces[i]?=some x->gZ P e d x)->gZ P t (.agg ds) pieces.flatten
def Lc (P:Program)(ts:List TypeId)(t:TypeId):Bool:=match P.underlying t with|some .bool=>true|some (.int _)=>true|some .string=>true|some (.slice e)=>ts.contains e&&!(P.cellsOf e==0)|some (.struct fs)=>fs.toList.all λf=>ts.contains f.type|some (.array _ e)=>ts.contains e|_=>false
def zg (P:Program)(ts:List TypeId):Bool:=ts.all λt=>decide (t<P.types.size)&&Lc P ts t
theorem Qx {α β:Type}{f:α->Option β}:∀{l:List α}{ys:List β},l.mapM f=some ys->ys.length=l.length/\∀(i:Nat)(x:α)(y:β),l[i]?=some x->ys[i]?=some y->f x=some y
 |[],ys,h=>by simp at h;subst h;exact⟨rfl,λi x y h=>by simp at h⟩
 |a::l,ys,h=>by
  rw[List.mapM_cons]at h;cases ha:f a with
  |none=>rw[ha]at h;cases h
  |some b=>
   rw[ha]at h;cases hl:l.mapM f with
   |none=>rw[hl]at h;cases h
   |some bs=>
    rw[hl]at h;obtain rfl:=an h;obtain⟨h1,h2⟩:=Qx hl;refine⟨by simp[h1],λi x y hx hy=>?_⟩;cases i with
    |zero=>simp at hx hy;subst hx;subst hy;exact ha
    |succ i=>simp at hx hy;exact h2 i x y hx hy
theorem um {β:Type}(n:Nat)(R:Nat->β->Prop)(h:∀i,i<n->∃x,R i x):∃l:List β,l.length=n/\∀i x,l[i]?=some x->R i x:=by
 induction n with
 |zero=>exact⟨[],rfl,by simp⟩
 |succ n ih=>
  obtain⟨l,h1,h2⟩:=ih λi hi=>h i oO;obtain⟨x,hx⟩:=h n oO;refine⟨l++[x],by simp[h1],λi y hy=>?_⟩;by_cases hi:i<n;rw[cm oO]at hy;exact h2 i y hy;have hlt:i<(l++[x]).length:=(aC.1 hy).1;simp[h1]at hlt;obtain rfl:i=n:=oO
  rw[dN oO]at hy;simp[h1]at hy;subst hy;exact hx
def ym (aZ:Nat->Nat->Prop)(w:World)(cs:List Value)(xs:List AV):Prop:=cs.length=xs.length/\(∀x,x∈xs->x.one=true)/\∀(i:Nat)(c:Value)(x:AV),cs[i]?=some c->xs[i]?=some x->cZ aZ w c x
theorem ym.nil (aZ:Nat->Nat->Prop)(w:World):ym aZ w [] []:=⟨rfl,by simp,by simp⟩
theorem ym.append {aZ:Nat->Nat->Prop}{w:World}{cs cs':List Value}{xs xs':List AV}(h:ym aZ w cs xs)(h':ym aZ w cs' xs'):ym aZ w (cs++cs') (xs++xs'):=by refine⟨by simp[h.1,h'.1],λx hx=>?_,λi c x hc hx=>?_⟩;rcases aW.1 hx with hx|hx;exact h.2.1 x hx;exact h'.2.1 x hx;by_cases hi:i<cs.length;rw[cm hi]at hc;rw[cm (by rw[<-h.1];exact hi)]at hx;exact h.2.2 i c x hc hx;rw[dN oO]at hc;rw[dN (by rw[<-h.1];omega),<-h.1]at hx;exact h'.2.2 _ c x hc hx
theorem ym.one {aZ:Nat->Nat->Prop}{w:World}{c:Value}{x:AV}(h:cZ aZ w c x)(hx:x.one=true):ym aZ w [c] [x]:=⟨rfl,by simpa using hx,λi c' x' h1 h2=>by
 cases i with
 |zero=>simp at h1 h2;subst h1;subst h2;exact h
 |succ i=>simp at h1⟩
theorem HT {aZ:Nat->Nat->Prop}{w:World}(size:Field->Nat)(cs:List Value):∀(fs:List Field)(o:Nat)(pieces:List (List AV)),pieces.length=fs.length->(∀(j:Nat)(f:Field),fs[j]?=some f->f.offset=o+((fs.take j).map size).sum)->(cs.drop o).length=(fs.map size).sum->(∀(j:Nat)(f:Field)(x:List AV),fs[j]?=some f->pieces[j]?=some x->ym aZ w ((cs.drop f.offset).take (size f)) x)->ym aZ w (cs.drop o) pieces.flatten
 |[],o,pieces,hp,ho,hl,hr=>by have h1:pieces=[]:=bJ.1 (by simpa using hp);have h2:cs.drop o=[]:=bJ.1 (by simpa using hl);rw[h1,h2];exact .nil _ _
 |f::fs,o,[],hp,ho,hl,hr=>by simp at hp
 |f::fs,o,x::pieces,hp,ho,hl,hr=>by
  have hf:f.offset=o:=by simpa using ho 0 f rfl
  have h0:=hr 0 f x rfl rfl;rw[hf]at h0;simp only[cL,cE,qa]at hl;have ih:=HT size cs fs (o+size f) pieces (by simpa using hp) (λj g hg=>by have :=ho (j+1) g hg;simp only[Cp,cE,qa]at this;omega) (by simp only[cL];omega) (λj g y hg hy=>hr (j+1) g y hg hy);have :cs.drop o=(cs.drop o).take (size f)++cs.drop (o+size f):=by rw[<-wD,dw]
  rw[this,nH];exact h0.append ih
theorem Ld {aZ:Nat->Nat->Prop}{w:World}(z:Nat):∀(l:List (List AV))(cs:List Value),cs.length=l.length*z->(∀(i:Nat)(x:List AV),l[i]?=some x->ym aZ w ((cs.drop (i*z)).take z) x)->ym aZ w cs l.flatten
 |[],cs,hl,hr=>by have h1:cs=[]:=bJ.1 (by simpa using hl);rw[h1];exact .nil _ _
 |x::l,cs,hl,hr=>by have h0:=hr 0 x rfl;rw[Nat.zero_mul,wR]at h0;simp only[aI,bD,jT]at hl;have ih:=Ld z l (cs.drop z) (by simp only[cL];omega) (λi y hy=>by have :=hr (i+1) y (by simpa using hy);rw[wD];rw[bD,jT,pQ]at this;exact this);rw[<-dw z cs,nH];exact h0.append ih
theorem Le {w:World}{base:Nat}{a:Addr}{n:Nat}{cs:List Value}(h:w.cells? base a n=some cs):cs.length=n/\∀(i:Nat)(c:Value),cs[i]?=some c->w.cell? (a.add i)=some c:=by
 unfold World.cells? at h;split at h;obtain⟨h1,h2⟩:=Qx h;simp at h1;refine⟨h1,λi c hc=>?_⟩;have hi:i<n:=by rw[<-h1];exact(aC.1 hc).1
 exact h2 i i c (by simp[hi]) hc;cases h
theorem Vv {w:World}{a:Addr}{c:Value}(h:w.cell? a=some c):a.block<w.heap.size/\a.spot=none:=by
 unfold World.cell? at h;split at h;rename_i hq;refine⟨(bC.1 hq).1,?_⟩;split at h;cases h;rename_i hs;cases hsp:a.spot with
 |none=>rfl
 |some x=>rw[hsp]at hs;simp at hs
 cases h
theorem CX {P:Program}{ts:List TypeId}(h:zg P ts=true){t:TypeId}(ht:t∈ts):t<P.types.size/\Lc P ts t=true:=by have :=bU.1 h t ht;simpa using this
theorem lay_of {P:Program}(hl:laidOutB P=true){t:TypeId}(ht:t<P.types.size):rowFine P t=true:=by simp only[laidOutB,aY]at hl;exact bU.1 hl.1.1 t (by simpa using ht)
theorem aai {H:Type}{enc:TypeId×Value->H}{P:Program}{w:World}{held:Bool}{spare:Nat->Bool}{ts:List TypeId}(hl:laidOutB P=true)(hf:zg P ts=true):∀(fuel:Nat)(t:TypeId)(cs:List Value)(d:DataW H)(ps:List MemPlace),t∈ts->DataW.trod enc P w 0 spare held fuel t cs=some (d,ps)->∃xs,gZ P t d xs/\cs.length=P.cellsOf t/\ym (λb _=>b<w.heap.size) w cs xs:=by
 intro fuel;induction fuel with
 |zero=>intro t cs d ps ht h;cases h
 |succ fuel ih=>
  intro t cs d ps ht h;obtain⟨hlt,hft⟩:=CX hf ht;have hrow:=lay_of hl hlt;unfold Lc at hft;have hone:∀{u:TypeDesc},P.underlying t=some u->(match u with|.bool|.int _|.string|.slice _=>True|_=>False)->P.cellsOf t=1:=λ{u} hu hm=>by unfold rowFine isVar at hrow;simp only[hu,hlt,decide_true,jd]at hrow;cases u<;>simp_all[kindOk]
  split at hft;rename_i hu;obtain⟨b,rfl,hx⟩:=DataW.trod_bool hu h;obtain⟨rfl,rfl⟩:=gU hx;exact⟨_,.bool t b hu,(hone hu trivial).symm,.one (.bool b) rfl⟩;rename_i k hu;obtain⟨n,rfl,hx,hwf⟩:=DataW.trod_int hu h;obtain⟨rfl,rfl⟩:=gU hx;exact⟨_,.int t k n hu hwf,(hone hu trivial).symm,.one (.int k n) rfl⟩;rename_i hu;obtain⟨⟨⟨s⟩⟩,rfl,hx,hwf⟩:=DataW.trod_string hu h;obtain⟨rfl,rfl⟩:=gU hx;exact⟨_,.str t s hu,(hone hu trivial).symm,.one (.str s) rfl⟩
  ·rename_i e hu;simp only[aY,eP,wN,ne_eq,CY]at hft;obtain⟨he,ZA⟩:=hft;rcases DataW.trod_slice hu h with⟨rfl,hx⟩|⟨a,len,cap,elems,rest,m,hm,rfl,hx,hb,hlc,hcm,hel,vg,_,_⟩;obtain⟨rfl,rfl⟩:=gU hx;exact⟨_,.nil t e hu,(hone hu trivial).symm,.one (.WE none 0) rfl⟩;obtain⟨rfl,rfl⟩:=gU hx;obtain rfl:fuel=m:=oO
   have aiJ:=hone hu trivial;have each:∀i,i<len->∃(x:List Value×List AV) (d:DataW H),(elems.map (·.1))[i]?=some d/\gZ P e d x.2/\x.1.length=P.cellsOf e/\ym (λb _=>b<w.heap.size) w x.1 x.2/\w.cells? 0 (a.add (i*P.cellsOf e)) (P.cellsOf e)=some x.1:=λi hi=>by
    have h1:=vg i hi;have hlt':i<elems.length:=oO
    rw[aq hlt']at h1;obtain⟨cs',hcs,htr⟩:=Option.bind_eq_some_iff.1 h1;obtain⟨xs,g1,g2,g3⟩:=ih e cs' elems[i].1 elems[i].2 he htr;exact⟨(cs',xs),elems[i].1,by simp[hlt'],g1,g2,g3,hcs⟩
   obtain⟨l,Kf,Fq⟩:=um len _ each;refine⟨[.sl (l.map (·.2))],.slice t e _ _ _ hu (by simp[hel,Kf]) (λi d x hd hx=>?_),aiJ.symm,.one ?_ rfl⟩;rw[aM]at hx;cases Tl:l[i]?with
   |none=>rw[Tl]at hx;cases hx
   |some y=>rw[Tl]at hx;obtain rfl:=an hx;obtain⟨d',k1,k2,_⟩:=Fq i y Tl;rw[hd]at k1;obtain rfl:=an k1;exact k2
   by_cases h0:len=0;subst h0;obtain rfl:l=[]:=bJ.1 Kf;exact .WE _ _;have hpos:0<P.cellsOf e:=wI ZA;have hsp:a.spot=none:=by
    obtain⟨y,hy⟩:∃y,l[0]?=some y:=⟨l[0]'oO,aq _⟩;obtain⟨d',_,_,k3,_,k5⟩:=Fq 0 y hy;obtain⟨c1,c2⟩:=Le k5;have ak4:0<y.1.length:=oO
    have :=(Vv (c2 0 y.1[0] (aq ak4))).2;simpa[Addr.add]using this
   obtain⟨b,off,spot⟩:=a;obtain rfl:spot=none:=hsp;have key:∀(i:Nat)(ys:List AV)(j:Nat)(y:AV),(l.map (·.2))[i]?=some ys->ys[j]?=some y->∃z c,l[i]?=some z/\z.2=ys/\z.1[j]?=some c/\w.cell? ⟨b,off+i*P.cellsOf e+j,none⟩=some c/\cZ (λb _=>b<w.heap.size) w c y/\y.one=true/\ys.length=P.cellsOf e:=λi ys j y h1 h2=>by
    rw[aM]at h1;cases Tl:l[i]?with
    |none=>rw[Tl]at h1;cases h1
    |some z=>
     rw[Tl]at h1;obtain rfl:=an h1;simp only at h2;obtain⟨d',_,_,k3,⟨r1,r2,r3⟩,k5⟩:=Fq i z Tl;obtain⟨c1,c2⟩:=Le k5;have hjl:j<z.1.length:=by rw[r1];exact(aC.1 h2).1
     refine⟨z,z.1[j],rfl,rfl,aq hjl,?_,r3 j _ _ (aq hjl) h2,r2 _ (bA h2),by show z.2.length=_;omega⟩;have :=c2 j _ (aq hjl);rwa[Go.WideShapes.add_plain,Go.WideShapes.add_plain]at this
   have hlen:(l.map (·.2)).length=len:=by simp[Kf]
   rw[<-hlen];refine .sl b off cap (P.cellsOf e) _ (λi j=>match l[i]?with|some z=>z.1.getD j undef|none=>undef) ?_ ?_ ?_ ?_ ?_ oO;intro i ys h1;rw[aM]at h1;cases Tl:l[i]?with
   |none=>rw[Tl]at h1;cases h1
   |some z=>rw[Tl]at h1;obtain rfl:=an h1;obtain⟨d',_,_,k3,⟨r1,_⟩,_⟩:=Fq i z Tl;show z.2.length=_;omega
   all_goals intro i ys j y h1 h2;obtain⟨z,c,hz,hzy,GA,hcell,om,hy1,_⟩:=key i ys j y h1 h2
   exact hy1;simp only[hz,List.getD,GA,wH];exact hcell;exact(Vv hcell).1;simp only[hz,List.getD,GA,wH];exact om
  rename_i fs hu;obtain⟨xs,m,hm,hx,jE,hxl,vg⟩:=DataW.trod_struct hu h;obtain⟨rfl,rfl⟩:=gU hx;obtain rfl:fuel=m:=oO
  have hall:=bU.1 hft;have hk:isVar P t=true:=by unfold isVar;rw[hu];simp[hlt,kindOk]
  unfold rowFine at hrow;rw[hk,hu]at hrow;simp only[Bool.not_true,pW,aY,beq_iff_eq]at hrow;obtain⟨⟨_,hsum⟩,hoff⟩:=hrow;have each:∀i,i<fs.size->∃(x:List AV),∀f d,fs.toList[i]?=some f->(xs.map (·.1))[i]?=some d->gZ P f.type d x/\ym (λb _=>b<w.heap.size) w ((cs.drop f.offset).take (P.cellsOf f.type)) x:=λi hi=>by
   have h1:=vg i fs[i] (wM hi);have hlt':i<xs.length:=oO
   rw[aq hlt']at h1;have hmem:fs[i].type∈ts:=by have :=hall fs[i] (by simp);simpa using this
   obtain⟨x,g1,g2,g3⟩:=ih fs[i].type _ xs[i].1 xs[i].2 hmem h1;refine⟨x,λf d hf hd=>?_⟩;rw[sD,wM hi]at hf;obtain rfl:=an hf;rw[aM,aq hlt']at hd;obtain rfl:=an hd;exact⟨g1,g3⟩
  obtain⟨l,Kf,Fq⟩:=um fs.size _ each;refine⟨l.flatten,.struct t fs _ l hu (by simp[hxl]) (by simp[Kf,hxl]) (λi f d x hf hd hx=>(Fq i x hx f d hf hd).1),jE,?_⟩;have hp:=HT (aZ:=λb _=>b<w.heap.size) (w:=w) (λf=>P.cellsOf f.type) cs fs.toList 0 l (by simp[Kf]) (λj f hf=>by have hj:j<fs.toList.length:=(aC.1 hf).1;have :=bU.1 hoff j (by simpa using hj);rw[hf]at this;simpa using this) (by simpa[jE]using hsum) (λj f x hf hx=>by
   have hj:j<xs.length:=by rw[hxl];simpa using(aC.1 hf).1
   exact(Fq j x hx f (xs[j].1) hf (by simp[hj])).2);simpa using hp;rename_i n e hu;rw[CY]at hft;obtain⟨xs,m,hm,hx,jE,hxl,vg⟩:=DataW.trod_array hu h;obtain⟨rfl,rfl⟩:=gU hx;obtain rfl:fuel=m:=oO
  have hk:isVar P t=true:=by unfold isVar;rw[hu];simp[hlt,kindOk]
  unfold rowFine at hrow;rw[hk,hu]at hrow;simp only[Bool.not_true,pW,aY,beq_iff_eq]at hrow;obtain⟨_,hsum⟩:=hrow;have each:∀i,i<n->∃(x:List AV),∀d,(xs.map (·.1))[i]?=some d->gZ P e d x/\ym (λb _=>b<w.heap.size) w ((cs.drop (i*P.cellsOf e)).take (P.cellsOf e)) x:=λi hi=>by
   have h1:=vg i hi;have hlt':i<xs.length:=oO
   rw[aq hlt']at h1;obtain⟨x,g1,g2,g3⟩:=ih e _ xs[i].1 xs[i].2 hft h1;refine⟨x,λd hd=>?_⟩;rw[aM,aq hlt']at hd;obtain rfl:=an hd;exact⟨g1,g3⟩
  obtain⟨l,Kf,Fq⟩:=um n _ each;refine⟨l.flatten,.arr t e n _ l hu (by simp[hxl]) Kf (λi d x hd hx=>(Fq i x hx d hd).1),jE,?_⟩;refine Ld (P.cellsOf e) l cs (by rw[jE,hsum,Kf]) (λi x hx=>?_);have hj:i<xs.length:=by have :=(aC.1 hx).1;omega
  exact(Fq i x hx (xs[i].1) (by simp[hj])).2;cases hft
theorem FB {H:Type}{enc:TypeId×Value->H}{P:Program}{w:World}{held:Bool}{spare:Nat->Bool}{ts:List TypeId}(hl:laidOutB P=true)(hf:zg P ts=true):∀(us:List TypeId)(vs:List Value)(ds:List (DataW H))(ps:List MemPlace),(∀u,u∈us->u∈ts)->DataW.TrodAll enc P w 0 spare held us vs ds ps->vs.length=us.length/\ds.length=us.length/\∀(i:Nat)(u:TypeId)(v:Value)(d:DataW H),us[i]?=some u->vs[i]?=some v->ds[i]?=some d->∃xs,gZ P u d xs/\ym (λb _=>b<w.heap.size) w v.cells.toList xs
 |[],[],[],ps,hm,h=>⟨rfl,rfl,λi u v d h=>by simp at h⟩
 |u::us,v::vs,d::ds,ps,hm,h=>by
  obtain⟨p,q,⟨fuel,h1⟩,h2,h3⟩:=h;obtain⟨xs,g1,_,g3⟩:=aai hl hf fuel u _ d p (hm u (by simp)) h1;obtain⟨k1,k2,k3⟩:=FB hl hf us vs ds q (λu hu=>hm u (by simp[hu])) h2;refine⟨by simp[k1],by simp[k2],λi u' v' d' h4 h5 h6=>?_⟩;cases i with
  |zero=>simp at h4 h5 h6;subst h4;subst h5;subst h6;exact⟨xs,g1,g3⟩
  |succ i=>exact k3 i u' v' d' (by simpa using h4) (by simpa using h5) (by simpa using h6)
end Qv
namespace Qv
open Go Go.RowKit Go.WideShapes Go.ChangeShapes Go.WideElems
def CZ (P:Program)(t:TypeId)(xs:List AV):AV:=match P.underlying t with|some (.struct _)=>.agg xs|some (.array _ _)=>.agg xs|_=>xs.headD (.bool false)
theorem zh {P:Program}{t:TypeId}{u:TypeDesc}{x:AV}(h:P.underlying t=some u)(hu:∀fs,u≠.struct fs)(hu':∀n e,u≠.array n e:=by intro _ _ h;cases h):CZ P t [x]=x:=by unfold CZ;rw[h];cases u<;>first|rfl|exact absurd rfl (hu _)|exact absurd rfl (hu' _ _)
theorem Qy {P:Program}{t:TypeId}{fs:Array Field}{xs:List AV}(h:P.underlying t=some (.struct fs)):CZ P t xs=.agg xs:=by unfold CZ;rw[h]
theorem aiK {P:Program}{t e:TypeId}{n:Nat}{xs:List AV}(h:P.underlying t=some (.array n e)):CZ P t xs=.agg xs:=by unfold CZ;rw[h]
def HU {H:Type}(P:Program)(t:TypeId)(d:DataW H)(x:AV):Prop:=∃ys,gZ P t d ys/\x=CZ P t ys
theorem adW {H:Type}{P:Program}{w:World}{r:Reach}{base:Nat}{t:TypeId}{v:Value}{d:DataW H}{xs:List AV}{aZ:Nat->Nat->Prop}(hv:Value.okWide P w r base t v)(hd:gZ P t d xs)(h:ym aZ w v.cells.toList xs):cZ aZ w v (CZ P t xs):=by
 have single:∀{x:AV},xs=[x]->v.cells=#[v]->(∀fs,P.underlying t≠some (.struct fs))->(∀n e,P.underlying t≠some (.array n e))->cZ aZ w v (CZ P t xs):=λ{x} hx hc hs hs'=>by subst hx;rw[hc]at h;have h1:=h.2.2 0 v x rfl rfl;unfold CZ;split;rename_i fs hu;exact absurd hu (hs fs);rename_i n e hu;exact absurd hu (hs' n e);exact h1
 cases hd with
 |bool _ b hu=>obtain⟨b',rfl⟩:=okWide_bool hu hv;exact single rfl rfl (by rw[hu];intro _ h;cases h) (by rw[hu];intro _ _ h;cases h)
 |int _ k n hu _=>obtain⟨b',rfl⟩:=okWide_int hu hv;exact single rfl rfl (by rw[hu];intro _ h;cases h) (by rw[hu];intro _ _ h;cases h)
 |str _ s hu=>obtain⟨b',rfl⟩:=okWide_string hu hv;exact single rfl rfl (by rw[hu];intro _ h;cases h) (by rw[hu];intro _ _ h;cases h)
 |nil _ e hu=>obtain⟨a,b,c,rfl⟩:=okWide_slice hu hv;exact single rfl rfl (by rw[hu];intro _ h;cases h) (by rw[hu];intro _ _ h;cases h)
 |slice _ e ds sp xs' hu _ _=>obtain⟨a,b,c,rfl⟩:=okWide_slice hu hv;exact single rfl rfl (by rw[hu];intro _ h;cases h) (by rw[hu];intro _ _ h;cases h)
 |struct _ fs ds pieces hu _ _ _=>obtain⟨cs,rfl,_⟩:=okWide_struct hu hv;unfold CZ;rw[hu];have :=cZ.agg (aZ:=aZ) (w:=w) cs.toList pieces.flatten h.1 h.2.1 h.2.2;simpa using this
 |arr _ e n ds pieces hu _ _ _=>simp only[Value.okWide,hu]at hv;obtain⟨cs,rfl,_⟩:=hv;unfold CZ;rw[hu];have :=cZ.agg (aZ:=aZ) (w:=w) cs.toList pieces.flatten h.1 h.2.1 h.2.2;simpa using this
theorem aaj {H:Type}{enc:TypeId×Value->H}{P:Program}{w:World}{r:Reach}{base:Nat}{held:Bool}{spare:Nat->Bool}{ts:List TypeId}(hl:laidOutB P=true)(hf:zg P ts=true){us:List TypeId}{vs:List Value}{ds:List (DataW H)}{ps:List MemPlace}(hm:∀u,u∈us->u∈ts)(h:DataW.TrodAll enc P w 0 spare held us vs ds ps)(hv:∀(j:Nat)(t:TypeId)(v:Value),us[j]?=some t->vs[j]?=some v->Value.okWide P w r base t v):∃xs:List AV,vs.length=xs.length/\xs.length=us.length/\ds.length=us.length/\(∀(i:Nat)(u:TypeId)(d:DataW H)(x:AV),us[i]?=some u->ds[i]?=some d->xs[i]?=some x->HU P u d x)/\∀(i:Nat)(v:Value)(x:AV),vs[i]?=some v->xs[i]?=some x->cZ (λb _=>b<w.heap.size) w v x:=by
 obtain⟨k1,k2,k3⟩:=FB hl hf us vs ds ps hm h;have each:∀i,i<us.length->∃x,∀(u:TypeId)(v:Value)(d:DataW H),us[i]?=some u->vs[i]?=some v->ds[i]?=some d->HU P u d x/\cZ (λb _=>b<w.heap.size) w v x:=λi hi=>by obtain⟨xs,g1,g2⟩:=k3 i us[i] (vs[i]'oO) (ds[i]'oO) (aq hi) (aq _) (aq _);refine⟨CZ P us[i] xs,λu v d hu WU hd=>?_⟩;rw[aq hi]at hu;rw[aq oO]at WU hd;obtain rfl:=an hu;obtain rfl:=an WU;obtain rfl:=an hd;exact⟨⟨xs,g1,rfl⟩,adW (hv i _ _ (aq hi) (aq _)) g1 g2⟩
 obtain⟨l,Kf,Fq⟩:=um us.length _ each;refine⟨l,oO,Kf,k2,λi u d x hu hd hx=>?_,λi v x WU hx=>?_⟩;have hi:i<us.length:=(aC.1 hu).1;exact(Fq i x hx u (vs[i]'oO) d hu (aq _) hd).1;have hi:i<us.length:=by have :=(aC.1 hx).1;omega
 exact(Fq i x hx us[i] v (ds[i]'oO) (aq hi) WU (aq _)).2
def Ag (P:Program)(ns:List String):Bool:=ns.all λn=>((P.globalNamed n).bind (P.globals[·]?)).all λgl=>P.readableRec gl.type&&decide (gl.type<P.types.size)
section
variable {H:Type}{enc:TypeId×Value->H}{P:Program}
theorem Lf (hl:laidOutB P=true){W W':World}(hb:Below W.heap.size W W'){sp:Nat->Bool}:∀{ts:List TypeId}{vs:List Value}{ds:List (DataW H)}{ps:List MemPlace},(ts.all λt=>P.readableRec t&&decide (t<P.types.size))=true->(∀x∈ps,x.block<W.heap.size)->(∀x∈ps,sp x.block=true)->DataW.TrodAll enc P W 0 (λ_=>true) true ts vs ds ps->DataW.TrodAll enc P W' 0 sp true ts vs ds ps
 |[],[],[],_,_,_,_,h=>h
 |t::ts,v::vs,d::ds,ps,hr,hlt,hs,⟨p,q,h1,h2,e⟩=>by
  simp only[List.all_cons,aY,decide_eq_true_eq]at hr;have m1:∀x∈p,x∈ps:=λx hx=>by rw[e];exact fG _ hx
  have m2:∀x∈q,x∈ps:=λx hx=>by rw[e];exact pZ _ hx
  exact⟨p,q,WideElems.Trod_stays hl hr.1.1 hr.1.2 h1 (λx hx=>hb.same (hlt x (m1 x hx))) (λx hx=>hs x (m1 x hx)),Lf hl hb hr.2 (λx hx=>hlt x (m2 x hx)) (λx hx=>hs x (m2 x hx)) h2,e⟩
theorem Lg (hl:laidOutB P=true){W W':World}(hb:Below W.heap.size W W'){sp:Nat->Bool}:∀{ns:List String}{gs:List (DataW H)}{ps:List MemPlace},Ag P ns=true->(∀x∈ps,sp x.block=true)->DataW.TrodVars enc P W (λ_=>true) ns gs ps->DataW.TrodVars enc P W' sp ns gs ps
 |[],[],_,_,_,h=>h
 |[],_::_,_,_,_,h=>h.elim
 |_::_,[],_,_,_,h=>h.elim
 |n::ns,d::ds,ps,hv,hsp,h=>by
  have hlt:=h.lt;obtain⟨g,t,cs,fuel,p,q,h1,h2,h3,h4,hs,e⟩:=h;simp only[Ag,List.all_cons,aY]at hv;have ht:P.readableRec t=true/\t<P.types.size:=by
   have :=hv.1;rw[h1]at this;cases hg:P.globals[g]?with
   |none=>rw[hg]at h2;cases h2
   |some gl=>rw[hg]at h2;obtain rfl:gl.type=t:=an h2;simpa[hg]using this
  have hp:∀x∈p,x.block<W.heap.size:=λx hx=>hlt x (by rw[e];simp[hx]);have h3':W'.var? P n=some cs:=by
   unfold World.var? at h3⊢;rw[h1]at h3⊢;simp only[nL]at h3⊢;have hg:g<W.heap.size:=by
    cases hh:W.heap[g]?with
    |none=>rw[hh]at h3;cases h3
    |some o=>exact(bC.1 hh).1
   rw[hb.block g hg];exact h3
  exact⟨g,t,cs,fuel,p,q,h1,h2,h3',DataW.trod_stays (kids_book hl ht.1) (book_sized ht.1) (λh=>by cases h) ⟨ht.2,book_self t⟩ h4 (λx hx=>hb.same (hp x hx)) (λx hx=>hsp x (by rw[e];simp[hx])),Lg hl hb (by simpa[Ag]using hv.2) (λx hx=>hsp x (by rw[e];simp[hx])) hs,e⟩
theorem To {f:Func}{s:ChangeSpec}{apart fresh handsOn again:Bool}{W W':World}{args:Array Value}{v:Value}{ds gs:List (DataW H)}{before pa pv:List MemPlace}(hW:DataW.Whole enc P f.params.toList s.vars apart W args.toList ds gs before)(hres:∀(b:Nat)(sp:Nat->Bool)(hd:Bool),DataW.TrodAll enc P W' b sp hd f.resultTypes.toList (v.resultList f.resultTypes.size) (s.fn H (ds++gs)).results [])(hargs:∀sp:Nat->Bool,(∀p∈before,sp p.block=true)->DataW.TrodAll enc P W' 0 sp true f.params.toList args.toList (s.fn H (ds++gs)).args pa)(hvars:∀sp:Nat->Bool,(∀p∈before,sp p.block=true)->DataW.TrodVars enc P W' sp s.vars (s.fn H (ds++gs)).vars pv)(hps:before=pa++pv)(hb:Below W.heap.size W W')(hok:∀(j:Nat)(t:TypeId)(r:Value),f.resultTypes[j]?=some t->(v.resultList f.resultTypes.size)[j]?=some r->Value.okWide P W' .any 0 t r):s.post enc P f apart fresh handsOn again W args v W':=by
 have hlt:∀p∈before,p.block<W.heap.size:=λp hp=>hW.lt p hp;have hold:∀p∈before,(λb=>decide (b<W.heap.size)) p.block=true:=λp hp=>by simpa using hlt p hp
 refine⟨ds,gs,before,[],pa,pv,hW,hres _ _ _,hargs _ hold,hvars _ hold,World.keptBut_mono (λp hp=>⟨hp,?_⟩) (hb.frame (·∈before)),λ_=>?_⟩;rw[hps,aW]at hp;exact Or.inr hp;obtain⟨_,_,_,_,_,hz,hn⟩:=hW;refine⟨hok,_,_,([]++pa)++pv,⟨[]++pa,pv,trodAll_append (hargs _ (λ_ _=>rfl)) (hres _ _ _),hvars _ (λ_ _=>rfl),rfl,?_,?_⟩,?_⟩;intro b off hp;have hin:MemPlace.cell b off∈before:=by rw[hps];simpa using hp
 rw[hb.frozen (hlt _ hin)];exact hz b off hin;intro ha;have :=hn ha;rw[hps]at this;simpa using this;intro p hp _;rw[hps];simpa using hp
end
theorem Lh {H:Type}{enc:TypeId×Value->H}{Cx:Ctx}{fid:FuncId}{f:Func}{s:ChangeSpec}{apart fresh handsOn again:Bool}{W:World}{base:Nat}{args:Array Value}{ds gs:List (DataW H)}{before:List MemPlace}{ts:List TypeId}{tb:TypeId}{r:Reach}(hl:laidOutB Cx.P=true)(hf:zg Cx.P ts=true)(hsub:f.params.toList.all (λu=>ts.contains u)=true)(hread:(f.params.toList.all λt=>Cx.P.readableRec t&&decide (t<Cx.P.types.size))=true)(hvars:Ag Cx.P s.vars=true)(hres:f.resultTypes=#[tb])(htb:Cx.P.underlying tb=some .bool)(hspec:(s.fn H (ds++gs)).results=[.lit (.bool true)]/\(s.fn H (ds++gs)).args=ds/\(s.fn H (ds++gs)).vars=gs)(hval:∀(j:Nat) t v,f.params[j]?=some t->args[j]?=some v->Value.okWide Cx.P W r base t v)(hW:DataW.Whole enc Cx.P f.params.toList s.vars apart W args.toList ds gs before)(hJ:Cx.J W/\oM (λb _=>b<W.heap.size) W)(hng:Cx.ov<=W.heap.size)(ak6:∀xs:List AV,xs.length=f.params.size->ds.length=f.params.size->(∀(i:Nat)(u:TypeId)(d:DataW H)(x:AV),f.params[i]?=some u->ds[i]?=some d->xs[i]?=some x->HU Cx.P u d x)->aj Cx fid xs (λq=>q=.val (.bool true))):Calls Cx.P fid args W λe W'=>∃v,e=.returned v/\s.post enc Cx.P f apart fresh handsOn again W args v W':=by
 have hW':=hW;obtain⟨p,q,hA,hV,rfl,hfz,El⟩:=hW;obtain⟨xs,h1,h2,h3,h4,h5⟩:=aaj hl hf (λu hu=>by have :=bU.1 hsub u hu;simpa using this) hA (r:=r) (base:=base) (λj t v hj hv=>hval j t v (by simpa using hj) (by simpa using hv));obtain⟨_,hc⟩:=ak6 xs (by simpa using h2) (by simpa using h3) (λi u d x hu hd hx=>h4 i u d x (by simpa using hu) hd hx);have cV:=hc (λb _=>b<W.heap.size) W args.toList hJ hng (λb o h=>h) h1 h5;simp only[CH]at cV;refine cV.mono λe W' ⟨v,rr,he,hr,ak7,hb⟩=>?_;subst hr;have hv:v=.bool true:=by cases ak7;rfl
 subst hv;refine⟨_,he,To (pa:=p) (pv:=q) hW' (λb sp hd=>?_) (λsp hs=>?_) (λsp hs=>?_) rfl hb (ok_one hres rfl (okWide_bool_mk htb _))⟩;rw[hspec.1,hres];exact trodAll_mk1 (shut_bool htb _);rw[hspec.2.1];exact Lf hl hb hread (λx hx=>hW'.lt x (fG _ hx)) (λx hx=>hs x (fG _ hx)) hA;rw[hspec.2.2];exact Lg hl hb hvars (λx hx=>hs x (pZ _ hx)) hV
theorem Bo {α β:Type}(enc:α->β):∀(l:List β),(∀x,x∈l->∃a,x=enc a)->∃ls:List α,l=ls.map enc|[],_=>⟨[],rfl⟩|x::l,h=>by obtain⟨a,ha⟩:=h x (by simp);obtain⟨ls,hls⟩:=Bo enc l λy hy=>h y (by simp[hy]);exact⟨a::ls,by simp[ha,hls]⟩
section
variable {H:Type}{P:Program}{t:TypeId}{d:DataW H}{xs:List AV}
theorem gZ.nt (hu:P.underlying t=some .bool)(h:gZ P t d xs):∃b,xs=[.bool b]:=by
 cases h with
 |bool _ b _=>exact⟨b,rfl⟩
 |_=>simp_all
theorem gZ.fJ {k:IntKind}(hu:P.underlying t=some (.int k))(h:gZ P t d xs):∃n,xs=[.int k n]/\(Lit.int k n).wf=true:=by
 cases h with
 |int _ k' n h1 h2=>
  rw[hu]at h1;obtain rfl:k=k':=by simpa using h1
  exact⟨n,rfl,h2⟩
 |_=>simp_all
theorem gZ.jD (hu:P.underlying t=some .string)(h:gZ P t d xs):∃s,xs=[.str s]:=by
 cases h with
 |str _ s _=>exact⟨s,rfl⟩
 |_=>simp_all
theorem gZ.vA {e:TypeId}{α:Type}{enc:α->List AV}(hu:P.underlying t=some (.slice e))(he:∀(d:DataW H)(x:List AV),gZ P e d x->∃a,x=enc a)(h:gZ P t d xs):∃ls:List α,xs=[.sl (ls.map enc)]:=by
 cases h with
 |nil _ _ _=>exact⟨[],rfl⟩
 |slice _ e' ds sp ys h1 h2 h3=>
  rw[hu]at h1;obtain rfl:e=e':=by simpa using h1
  obtain⟨ls,hls⟩:=Bo enc ys λx hx=>by
   obtain⟨i,hi⟩:=iI hx;have hlt:i<ds.length:=by rw[h2];exact(aC.1 hi).1
   exact he _ x (h3 i _ x (aq hlt) hi)
  exact⟨ls,by rw[hls]⟩
 |_=>simp_all
theorem gZ.adX {e:TypeId}{n:Nat}(hu:P.underlying t=some (.array n e))(h:gZ P t d xs):∃(ds:List (DataW H)) (pieces:List (List AV)),d=.agg ds/\xs=pieces.flatten/\ds.length=n/\pieces.length=n/\∀(i:Nat)(d:DataW H)(x:List AV),ds[i]?=some d->pieces[i]?=some x->gZ P e d x:=by
 cases h with
 |arr _ e' n' ds pieces h1 h2 h3 h4=>rw[hu]at h1;have h5:=an h1;injection h5 with h5 h6;subst h5;subst h6;exact⟨ds,pieces,rfl,rfl,h2,h3,h4⟩
 |_=>simp_all
theorem gZ.tH {fs:Array Field}(hu:P.underlying t=some (.struct fs))(h:gZ P t d xs):∃(ds:List (DataW H)) (pieces:List (List AV)),d=.agg ds/\xs=pieces.flatten/\ds.length=fs.size/\pieces.length=fs.size/\∀(i:Nat)(f:Field)(d:DataW H)(x:List AV),fs.toList[i]?=some f->ds[i]?=some d->pieces[i]?=some x->gZ P f.type d x:=by
 cases h with
 |struct _ fs' ds pieces h1 h2 h3 h4=>
  rw[hu]at h1;obtain rfl:fs=fs':=by simpa using h1
  exact⟨ds,pieces,rfl,rfl,by simpa using h2.symm,by simp at h2;omega,h4⟩
 |_=>simp_all
end
mutual def AV.wt:AV->Nat|.str s=>s.length+1|.sl xs=>AV.Km xs+1|.bool _=>1|.int _ _=>1|_=>0 def AV.wtL:List AV->Nat|[]=>0|x::xs=>AV.wt x+AV.wtL xs def AV.Km:List (List AV)->Nat|[]=>0|x::xs=>AV.wtL x+AV.Km xs end
theorem Tp (a b:List AV):AV.wtL (a++b)=AV.wtL a+AV.wtL b:=by
 induction a with
 |nil=>simp[AV.wtL]
 |cons x a ih=>simp[AV.wtL,ih];omega
theorem afX (l:List (List AV)):AV.wtL l.flatten=AV.Km l:=by
 induction l with
 |nil=>simp[AV.wtL,AV.Km]
 |cons x l ih=>simp[AV.Km,Tp,ih]
theorem aiL (l:List (List AV)):AV.Km l=(l.map AV.wtL).sum:=by
 induction l with
 |nil=>rfl
 |cons x l ih=>simp[AV.Km,ih]
theorem adY:∀(l:List (List AV))(ms:List Nat),ms.length=l.length->(∀(i:Nat)(x:List AV)(m:Nat),l[i]?=some x->ms[i]?=some m->AV.wtL x<=m)->AV.Km l<=ms.sum
 |[],ms,_,_=>by simp[AV.Km]
 |x::l,[],h,_=>by simp at h
 |x::l,m::ms,h,hi=>by have h0:=hi 0 x m rfl rfl;have ih:=adY l ms (by simpa using h) λi y k hy hk=>hi (i+1) y k (by simpa using hy) (by simpa using hk);simp only[AV.Km,qa];omega
inductive AV.Small (M:Nat):AV->Prop|bool (b:Bool):AV.Small M (.bool b)|int (k:IntKind)(n:Int):AV.Small M (.int k n)|str (s:List UInt8):s.length<=M->AV.Small M (.str s)|sl (xs:List (List AV)):xs.length<=M->(∀ys,ys∈xs->∀y,y∈ys->AV.Small M y)->AV.Small M (.sl xs)
def Li (P:Program)(ts:List TypeId):Bool:=ts.all λt=>match P.underlying t with|some (.slice e)=>decide (0<P.bytesOf e)|_=>true
theorem tI {H:Type}{P:Program}{e:TypeId}:∀{ds:List (DataW H)}{d:DataW H}{n:Nat},d∈ds->n∈d.weights P e->n∈DataW.weightsAll P e ds|x::ds,d,n,h,hn=>by simp only[DataW.weightsAll,aW];rcases aG.1 h with rfl|h;exact .inl hn;exact .inr (tI h hn)
theorem si {H:Type}{P:Program}:∀{ts:List TypeId}{ds:List (DataW H)}{i:Nat}{t:TypeId}{d:DataW H}{n:Nat},ts[i]?=some t->ds[i]?=some d->n∈d.weights P t->n∈DataW.weightsEach P ts ds
 |[],ds,i,t,d,n,h1,h2,h3=>by simp at h1
 |u::ts,[],i,t,d,n,h1,h2,h3=>by simp at h2
 |u::ts,x::ds,0,t,d,n,h1,h2,h3=>by simp at h1 h2;subst h1;subst h2;simp[DataW.weightsEach,h3]
 |u::ts,x::ds,i+1,t,d,n,h1,h2,h3=>by simp only[DataW.weightsEach,aW];exact .inr (si (by simpa using h1) (by simpa using h2) h3)
theorem gZ.small {H:Type}{P:Program}{M:Nat}{ts:List TypeId}(hf:zg P ts=true)(hb:Li P ts=true){t:TypeId}{d:DataW H}{xs:List AV}(h:gZ P t d xs):t∈ts->(∀n,n∈d.weights P t->n<=M)->∀x,x∈xs->AV.Small M x:=by
 induction h with
 |bool t b hu=>intro ht _ x hx;simp at hx;subst hx;exact .bool b
 |int t k n hu _=>intro ht _ x hx;simp at hx;subst hx;exact .int k n
 |str t s hu=>intro ht hw x hx;simp at hx;subst hx;exact .str s (hw _ (by simp[DataW.weights]))
 |nil t e hu=>intro ht _ x hx;simp at hx;subst hx;exact .sl [] (zL) (by simp)
 |slice t e ds sp ys hu hl _ ih=>
  intro ht hw x hx;simp at hx;subst hx;have hpos:0<P.bytesOf e:=by have :=bU.1 hb t ht;rw[hu]at this;simpa using this
  have he:e∈ts:=by have :=(CX hf ht).2;unfold Lc at this;rw[hu]at this;simp only[aY,CY]at this;exact this.1
  simp only[DataW.weights,hu]at hw;refine .sl ys ?_ λzs hz y hy=>?_;have :=hw _ gq;have h2:(ds.length+sp.length)*1<=(ds.length+sp.length)*P.bytesOf e:=nO _ hpos;omega;obtain⟨i,hi⟩:=iI hz;have hlt:i<ds.length:=by rw[hl];exact(aC.1 hi).1
  refine ih i _ zs (aq hlt) hi he (λn hn=>hw n ?_) y hy;exact bh _ (fG _ (tI (aL hlt) hn))
 |struct t fs ds pieces hu hl hp _ ih=>
  intro ht hw x hx;obtain⟨piece,hpm,hxp⟩:=wL.1 hx;obtain⟨i,hi⟩:=iI hpm;have hlt:i<ds.length:=by have :=(aC.1 hi).1;omega
  have hlf:i<fs.toList.length:=oO
  have he:(fs.toList[i]).type∈ts:=by have :=(CX hf ht).2;unfold Lc at this;rw[hu]at this;have :=bU.1 this _ (aL hlf);simpa using this
  simp only[DataW.weights,hu]at hw;exact ih i _ _ piece (aq hlf) (aq hlt) hi he (λn hn=>hw n (si (t:=(fs.toList[i]).type) (by rw[aM,aq hlf];rfl) (aq hlt) hn)) x hxp
 |arr t e n ds pieces hu hl hp _ ih=>
  intro ht hw x hx;obtain⟨piece,hpm,hxp⟩:=wL.1 hx;obtain⟨i,hi⟩:=iI hpm;have hlt:i<ds.length:=by have :=(aC.1 hi).1;omega
  have he:e∈ts:=by have :=(CX hf ht).2;unfold Lc at this;rw[hu]at this;simpa using this
  simp only[DataW.weights,hu]at hw;exact ih i _ piece (aq hlt) hi he (λn hn=>hw n (tI (aL hlt) hn)) x hxp
theorem AV.Small.jD {M:Nat}{s:List UInt8}(h:AV.Small M (.str s)):s.length<=M:=by cases h;assumption
theorem AV.Small.kS {M:Nat}{xs:List (List AV)}(h:AV.Small M (.sl xs)):xs.length<=M/\∀ys,ys∈xs->∀y,y∈ys->AV.Small M y:=by cases h;exact⟨by assumption,by assumption⟩
theorem HV {P:Program}{W:World}{n:String}{d:DataW Unit}:∀{l:List (String×DataW Unit)}{ps:List MemPlace},DataW.LaidVars P W l ps->(n,d)∈l->∃g t cs fuel p,P.globalNamed n=some g/\(P.globals[g]?).map (·.type)=some t/\W.var? P n=some cs/\DataW.trod (λ_=>()) P W 0 (λ_=>true) false fuel t cs.toList=some (d,p)|(m,e)::l,ps,⟨g,t,cs,fuel,p,q,h1,h2,h3,h4,h5,h6⟩,h=>by rcases aG.1 h with h|h;cases h;exact⟨g,t,cs,fuel,p,h1,h2,h3,h4⟩;exact HV h5 h
theorem adZ {P:Program}{W:World}{l:List (String×DataW Unit)}{name:String}{k:IntKind}{zs:List Int}{g:Nat}{t e:TypeId}{n:Nat}(hg:P.globalNamed name=some g)(hty:(P.globals[g]?).map (·.type)=some t)(ht:P.underlying t=some (.array n e))(he:P.underlying e=some (.int k))(hce:P.cellsOf e=1)(hct:P.cellsOf t=n)(h:laidMet P l W)(hm:(name,Lib.tabData k zs)∈l):Lib.TabIs P W name k zs:=by obtain⟨ps,hl,_⟩:=h;obtain⟨g',t',cs,fuel,p,hg',ht',Tq,hd⟩:=HV hl hm;obtain rfl:=an (hg.symm.trans hg');obtain rfl:=an (hty.symm.trans ht');unfold Lib.TabIs;rw[Tq,<-Lib.cells_of_tab ht he hce hct hd]
theorem ad0 {P:Program}{W:World}{l:List (String×DataW Unit)}{name:String}{d:DataW Unit}{g:Nat}(hg:P.globalNamed name=some g)(h:laidMet P l W)(hm:(name,d)∈l):g<W.heap.size:=by
 obtain⟨ps,hl,_⟩:=h;obtain⟨g',t',cs,fuel,p,hg',ht',Tq,hd⟩:=HV hl hm;obtain rfl:=an (hg.symm.trans hg');unfold World.var? at Tq;rw[hg']at Tq;simp only[nL]at Tq;cases hh:W.heap[g]?with
 |none=>rw[hh]at Tq;cases Tq
 |some o=>exact(bC.1 hh).1
theorem FC {H:Type}{enc:TypeId×Value->H}{P:Program}{w:World}{base:Nat}{held:Bool}{spare:Nat->Bool}:∀{us:List TypeId}{vs:List Value}{ds:List (DataW H)}{ps:List MemPlace},DataW.TrodAll enc P w base spare held us vs ds ps->ds.length=us.length|[],[],[],_,_=>rfl|_::us,_::vs,_::ds,_,⟨_,_,_,h,_⟩=>by simp[FC h]
theorem Lj {H:Type}{enc:TypeId×Value->H}{P:Program}{ts:List TypeId}{vars:List String}{apart:Bool}{w:World}{vs:List Value}{ds gs:List (DataW H)}{ps:List MemPlace}(h:DataW.Whole enc P ts vars apart w vs ds gs ps):ds.length=ts.length:=by obtain⟨_,_,hA,_⟩:=h;exact FC hA
theorem HW {H:Type}{enc:TypeId×Value->H}{P:Program}{ts:List TypeId}{apart:Bool}{w:World}{vs:List Value}{ds gs:List (DataW H)}{ps:List MemPlace}(h:DataW.Whole enc P ts [] apart w vs ds gs ps):gs=[]:=by obtain⟨_,_,_,hV,_⟩:=h;exact(trodVars_none hV).1
theorem Ll {H:Type}{P:Program}{ts us:List TypeId}{ds gs:List (DataW H)}(h:(DataW.weightsEach P (ts++us) (ds++gs)).all (·<=reachBytes)=true){i:Nat}{t:TypeId}{d:DataW H}(h1:ts[i]?=some t)(h2:ds[i]?=some d):∀n,n∈d.weights P t->n<=reachBytes:=λn hn=>by have l1:i<ts.length:=(aC.1 h1).1;have l2:i<ds.length:=(aC.1 h2).1;have :=bU.1 h n (si (i:=i) (t:=t) (d:=d) (by rw[cm l1,h1]) (by rw[cm l2,h2]) hn);simpa using this
end Qv
namespace Qv
open Go Go.RowKit
theorem HX {e:Bool}{f:Bool->FV}{K:FV->Prop}(h:Al λt:Bool=>t=e->K (f t)):∃v,(Al λt:Bool=>t=e->f t=v)/\K v:=⟨f e,⟨λt ht=>ht▸rfl⟩,h.out e rfl⟩
theorem sM {x:FV}{K:FV->Prop}(h:K x):∃v,x=v/\K v:=⟨x,rfl,h⟩
theorem Ah {x:FV}{K:FV->Prop}(h:force x K):∃v,force x (λu=>u=v)/\K v:=by rw[force_eq]at h;exact⟨x,by rw[force_eq],h⟩
theorem ad1 {op:BinOp}{k:IntKind}{a b:Int}{K:FV->Prop}(h:Pd op k a b K):∃v,Pd op k a b (λu=>u=v)/\K v:=by unfold Pd at h⊢;cases op<;>first|exact HX h|exact h.elim|(obtain⟨c,h1,h2⟩:=h;exact⟨_,⟨c,h1,rfl⟩,h2⟩)|(obtain⟨h0,c,h1,h2⟩:=h;exact⟨_,⟨h0,c,h1,rfl⟩,h2⟩)
theorem Xm {op:BinOp}{k:IntKind}{a b:Int}{K:FV->Prop}(h:BW op k a b K):∃v,BW op k a b (λu=>u=v)/\K v:=by unfold BW at h⊢;cases op<;>first|exact h.elim|(obtain⟨h0,c,h1,h2⟩:=h;exact⟨_,⟨h0,c,h1,rfl⟩,h2⟩)
theorem ad3 {op:BinOp}{a b:List UInt8}{K:FV->Prop}(h:Pe op a b K):∃v,Pe op a b (λu=>u=v)/\K v:=by unfold Pe at h⊢;cases op<;>first|exact HX h|exact h.elim|(obtain⟨h0,h1⟩:=h;exact⟨_,⟨h0,rfl⟩,h1⟩)
theorem aal {C:Ctx}{aJ:List (Nat×List FV)}{t:TypeId}{a:FV}{K:FV->Prop}(h:nh C aJ t a K):∃v,nh C aJ t a (λu=>u=v)/\K v:=by
 unfold nh at h⊢;repeat' split at h
 all_goals first|exact h.elim|exact sM h|skip
 all_goals obtain⟨A,ys,B,e1,e2,h⟩:=h;repeat' split at h
 all_goals first|exact h.elim|exact⟨_,⟨A,ys,B,e1,e2,by simp_all⟩,h⟩
theorem Kn {C:Ctx}{s:TypeId}{x:FV}{f:Nat}{K:FV->Prop}(h:ni C s x f K):∃v,ni C s x f (λu=>u=v)/\K v:=by
 unfold ni at h⊢;repeat' split at h
 all_goals first|exact h.elim|exact sM h
theorem Xn {C:Ctx}{s:TypeId}{x:FV}{f:Nat}{K:FV->Prop}(h:wg C s x f K):∃v,wg C s x f (λu=>u=v)/\K v:=by
 unfold wg at h⊢;repeat' split at h
 all_goals first|exact h.elim|exact sM h
theorem Xo {C:Ctx}{t:TypeId}{x i:FV}{K:FV->Prop}(h:wh C t x i K):∃v,wh C t x i (λu=>u=v)/\K v:=by
 unfold wh at h⊢;repeat' split at h
 all_goals first|exact h.elim|(obtain⟨h0,c,h1,h2⟩:=h;exact⟨_,⟨h0,c,h1,rfl⟩,h2⟩)|skip
 all_goals obtain⟨m,e1,e2,h⟩:=h;repeat' split at h
 all_goals first|exact h.elim|exact⟨_,⟨m,e1,e2,by simp_all⟩,h⟩
theorem Ko {C:Ctx}{aJ:List (Nat×List FV)}{t:TypeId}{x i:FV}{K:FV->Prop}(h:jk C aJ t x i K):∃v,jk C aJ t x i (λu=>u=v)/\K v:=by
 unfold jk at h⊢;repeat' split at h
 all_goals first|exact h.elim|(obtain⟨m,base,e1,e2,e3,h⟩:=h;exact⟨_,⟨m,base,e1,e2,e3,rfl⟩,h⟩)|(obtain⟨g0,ys,g1,g2,h⟩:=h;exact⟨_,⟨g0,ys,g1,g2,rfl⟩,h⟩)|skip
 all_goals obtain⟨m,e1,e2,h⟩:=h;repeat' split at h
 all_goals first|exact h.elim|(obtain⟨base,g1,h⟩:=h;exact⟨_,⟨m,e1,e2,base,g1,rfl⟩,h⟩)|(obtain⟨ys,g1,h⟩:=h;exact⟨_,⟨m,e1,e2,ys,g1,rfl⟩,h⟩)|skip
 all_goals obtain⟨sym,h⟩:=h;cases sym
 exact⟨_,⟨m,e1,e2,false,rfl⟩,h⟩;obtain⟨base,g1,h⟩:=h;exact⟨_,⟨m,e1,e2,true,base,g1,rfl⟩,h⟩
theorem aam {C:Ctx}{t:TypeId}{op:BinOp}{x y:FV}{K:FV->Prop}(h:DX C t op x y K):∃v,DX C t op x y (λu=>u=v)/\K v:=by
 unfold DX at h⊢;repeat' split at h
 all_goals first|exact h.elim|skip
 all_goals obtain⟨L,e1,e2,e3,e4,h⟩:=h;repeat' split at h
 all_goals first|exact h.elim|(obtain⟨v,g1,g2⟩:=HX h;exact⟨v,⟨L,e1,e2,e3,e4,g1⟩,g2⟩)
theorem ad4 {C:Ctx}{t:TypeId}{op:BinOp}{x y:FV}{K:FV->Prop}(h:GY C t op x y K):∃v,GY C t op x y (λu=>u=v)/\K v:=by
 unfold GY at h⊢;repeat' split at h
 all_goals first|exact h.elim|exact Xm h|exact ad1 h|exact ad3 h|exact sM h|exact HX h|exact aam h
theorem aan {C:Ctx}{t:TypeId}{op:BinOp}{x:FV}{K:FV->Prop}(h:Bf C t op x K):∃v,Bf C t op x (λu=>u=v)/\K v:=by
 unfold Bf at h⊢;repeat' split at h
 all_goals first|exact h.elim|exact sM h
theorem agP {op:UnOp}{x:FV}{K:FV->Prop}(h:SB op x K):∃v,SB op x (λu=>u=v)/\K v:=by
 unfold SB at h⊢;repeat' split at h
 all_goals first|exact h.elim|exact HX h|(obtain⟨c,h1,h2⟩:=h;exact⟨_,⟨c,h1,rfl⟩,h2⟩)
theorem Qz {C:Ctx}{aJ:List (Nat×List FV)}{b:Builtin}{args:List FV}{types:List TypeId}{K:FV->Prop}(h:jv C aJ b args types K):∃v,jv C aJ b args types (λu=>u=v)/\K v:=by
 unfold jv at h⊢;repeat' split at h
 all_goals first|exact h.elim|exact sM h|(obtain⟨c,h1,h2⟩:=h;exact⟨_,⟨c,h1,rfl⟩,h2⟩)|(obtain⟨c,h1,h2⟩:=h;exact⟨_,⟨c,by simp_all<;>omega,rfl⟩,h2⟩)
def Nr (C:Ctx)(f:FV)(args:List FV)(K:FV->Prop):Prop:=match f with
 |.p (.fn (.func g) first captured)=>match FV.fF args with|some xs=>∃x,aj C g (first++xs++captured) (λr=>r=.val x)/\K (.p x)|none=>False
 |.fn (.func g) first captured=>match FV.fF (first++args++captured)with|some xs=>∃x,aj C g xs (λr=>r=.val x)/\K (.p x)|none=>False
 |_=>False
theorem aao {C:Ctx}{f:FV}{args:List FV}{K:FV->Prop}(h:Nr C f args K):∃v,zV C f args (λu=>u=v)/\K v:=by unfold Nr at h;split at h;simp only[zV];split at h;rename_i xs hx;simp only[hx];obtain⟨x,h1,h2⟩:=h;exact⟨_,⟨_,h1,λr hr=>by subst hr;rfl⟩,h2⟩;exact h.elim;simp only[zV];split at h;rename_i xs hx;simp only[hx];obtain⟨x,h1,h2⟩:=h;exact⟨_,⟨_,h1,λr hr=>by subst hr;rfl⟩,h2⟩;exact h.elim;exact h.elim
def agQ (C:Ctx)(S:ah)(op:Op)(K:FV->Prop):Prop:=match op with
 |.move x=>force (S.val x) K
 |.assign x=>force (S.val x) K
 |.pick c a b=>match S.val c with|.p (.bool true)=>force (S.val a) K|.p (.bool false)=>force (S.val b) K|_=>False
 |.binOp op t x y _=>match MI y with|true=>Bf C t op (S.val x) K|false=>match MJ y with|true=>∃v,MK C t op (S.val x) (λu=>u=v)/\K v|false=>GY C t op (S.val x) (S.val y) K
 |.unOp op _ x=>SB op (S.val x) K
 |.load t a=>nh C S.aJ t (S.val a) K
 |.fieldAddr s x f=>ni C s (S.val x) f K
 |.field s x f=>wg C s (S.val x) f K
 |.indexAddr t x i=>jk C S.aJ t (S.val x) (S.val i) K
 |.index t x i=>wh C t (S.val x) (S.val i) K
 |.call c=>match c.callee with|.builtin b=>jv C S.aJ b (c.args.toList.map S.val) c.argTypes.toList K|.value f=>Nr C (S.val f) (c.args.toList.map S.val) K|.invoke _ _=>False
 |.nilCheck x=>match S.val x with|.ptr b off=>K (.ptr b off)|.p (.imp xs)=>K (.p (.imp xs))|.ic o base off=>K (.ic o base off)|.p (.fn (.func f) a b)=>K (.p (.fn (.func f) a b))|.fn (.func f) a b=>K (.fn (.func f) a b)|_=>False
 |.extract x i=>match S.val x with
  |.eY xs=>match fT i xs with|y::_=>K y|[]=>False
  |.p (.eY xs)=>match fT i xs with|y::_=>K (.p y)|[]=>False
  |_=>False
 |op=>∃v,eB C S op (λu=>u=v)/\K v
theorem Vw {C:Ctx}{S:ah}{op:Op}{K:FV->Prop}(h:agQ C S op K):∃v,eB C S op (λu=>u=v)/\K v:=by
 unfold agQ at h;split at h;exact Ah h;exact Ah h;simp only[eB];split at h;rename_i hc;simp only[hc];exact Ah h;rename_i hc;simp only[hc];exact Ah h;exact h.elim;simp only[eB];split at h;rename_i hc;simp only[hc];exact aan h;rename_i hc;simp only[hc];split at h;rename_i hc2;simp only[hc2];exact h;rename_i hc2;simp only[hc2];exact ad4 h;exact agP h;exact aal h;exact Kn h;exact Xn h;exact Ko h;exact Xo h;simp only[eB];split at h;rename_i hc;simp only[hc];exact Qz h;rename_i hc;simp only[hc];exact aao h;exact h.elim
 ·simp only[eB];split at h;all_goals first|exact h.elim|(rename_i hc;simp only[hc];exact sM h)
 simp only[eB];split at h;rename_i hc;simp only[hc];split at h;rename_i hd;simp only[hd];exact sM h;exact h.elim;rename_i hc;simp only[hc];split at h;rename_i hd;simp only[hd];exact sM h;exact h.elim;exact h.elim;exact h
def ad5 (C:Ctx)(o:Oper)(K:ah->Prop)(S:ah):Prop:=agQ C S o.op λv=>K (S.put o.dst v)
def Ns (C:Ctx)(ops:Array Oper):List Oper->(ah->Prop)->ah->Prop
 |[],K,S=>K S
 |o::rest,K,S=>match o.guard with
  |none=>ad5 C o (Ns C ops rest K) S
  |some (j,want)=>match(ops[j]?).bind (·.dst)with
   |none=>False
   |some d=>match S.get d with
    |.p (.bool b)=>match Hj b want with|true=>ad5 C o (Ns C ops rest K) S|false=>Ns C ops rest K (S.put o.dst (.p (.eY [])))
    |.p (.eY [])=>Ns C ops rest K (S.put o.dst (.p (.eY [])))
    |_=>False
theorem Bp {C:Ctx}{ops:Array Oper}{K:ah->Prop}:∀(l:List Oper)(S:ah),Ns C ops l K S->JX C ops l K S|[],S,h=>h|o::rest,S,h=>by unfold Ns at h;unfold JX;split at h;rename_i hg;simp only[hg];unfold ad5 at h;obtain⟨v,h1,h2⟩:=Vw h;exact⟨v,h1,Bp rest _ h2⟩;rename_i j want hg;simp only[hg];split at h;exact h.elim;rename_i d hd;simp only[hd];split at h;rename_i b hb;simp only[hb];split at h;rename_i hs;simp only[hs];unfold ad5 at h;obtain⟨v,h1,h2⟩:=Vw h;exact⟨v,h1,Bp rest _ h2⟩;rename_i hs;simp only[hs];exact Bp rest _ h;rename_i hb;simp only[hb];exact Bp rest _ h;exact h.elim
theorem cG {C:Ctx}{call:ig}{Y:oN}{ops:Array Oper}{K:ah->Prop}{S:ah}(m:Nat)(hd:Bg ops m=true)(h:Ns C ops (ops.toList.take m) (oZ C call Y ops (ops.toList.drop m) K) S):kR C call Y ops true K S:=by unfold kR;exact⟨.lex m,hd,Bp _ _ h⟩
theorem aiM {C:Ctx}{call:ig}{Y:oN}{ops:Array Oper}{K:ah->Prop}{S:ah}(x:FV)(d:Nat)(hd:Bg ops ops.size=true)(hk:pO ops.toList=[d])(h:Ns C ops ops.toList (λS'=>S'.get d=x) S)(hK:K ((S.uI (dstsOf ops.toList)).put (some d) x)):kR C call Y ops true K S:=by
 unfold kR;refine⟨.keep (λvs=>vs=[x]),hd,?_,?_⟩;refine Bp _ _ ?_;have e:(λS':ah=>getAll S' (pO ops.toList)=[x])=λS'=>S'.get d=x:=by funext S';rw[hk];show([S'.get d]=[x])=_;rw[jV];simp
 rw[e];exact h;rw[hk];exact⟨λv=>⟨λhv=>by have :v=x:=(eR hv).1;subst this;exact hK⟩⟩
theorem afY {C:Ctx}{ops:Array Oper}{K:ah->Prop}{S:ah}(x:FV)(d:Nat)(hk:pO ops.toList=[d])(h:Ns C ops ops.toList (λS'=>S'.get d=x) S)(hK:K ((S.uI (dstsOf ops.toList)).put (some d) x)):JX C ops ops.toList (λS'=>getAll S' (pO ops.toList)=[x]) S/\Ec K (S.uI (dstsOf ops.toList)) (pO ops.toList) (λvs=>vs=[x]):=by
 refine⟨?_,?_⟩;refine Bp _ _ ?_;have e:(λS':ah=>getAll S' (pO ops.toList)=[x])=λS'=>S'.get d=x:=by funext S';rw[hk];show([S'.get d]=[x])=_;rw[jV];simp
 rw[e];exact h;rw[hk];exact⟨λv=>⟨λhv=>by have :v=x:=(eR hv).1;subst this;exact hK⟩⟩
end Qv
