/- Part 2 of the proof: its lemmas. No condition. -/
import Derived.Test.YtlbofhenpfnenaaGreatDoorW1
import Derived.ChangeKeysEq
import Derived.Laws.StructEq
import Derived.MapKept
import Derived.Laws.IdiomCopy
import Derived.Laws.Entries
import Derived.Laws.Small
import Derived.Laws.BytesString
import Derived.Laws.MathBits
import Derived.Maps.RangeRun
set_option maxRecDepth 10000
set_option maxHeartbeats 80000000
set_option linter.all false
namespace Qv
open Go Go.RowKit
def AV.cell:AV->Value|.bool b=>.bool b|.int k n=>.int k n|.str s=>.string ⟨s.toArray⟩|_=>undef
def tv (agg:Bool)(xs:List AV):Value:=match agg with|true=>.agg (xs.map AV.cell).toArray|false=>(xs.map AV.cell).headD undef
def gJ (P:Program)(t:TypeId):Bool:=match P.underlying t with|some (.struct _)=>true|some (.array _ _)=>true|_=>false
theorem SJ {P:Program}{w:World}{t:TypeId}{d:TypeDesc}(h:P.underlying t=some d):(Go.isAgg t).run P w=.ok (gJ P t) w:=by simp only[Go.isAgg,Sem.run_bind,run_underlying h,Result.andThen_ok,gJ,h];cases d<;>rfl
theorem Hq (k:IntKind):AM k k=true:=by simp[AM]
theorem ja {L:List gI}{xs:List AV}(h:fB L xs=true):xs.length=L.length:=by
 induction L generalizing xs with
 |nil=>cases xs<;>simp_all[fB]
 |cons l L ih=>
  cases xs with
  |nil=>simp[fB]at h
  |cons x xs=>simp only[fB]at h;grind
theorem ve {L1 L2:List gI}{xs:List AV}(h:fB (L1++L2) xs=true):∃x1 x2,xs=x1++x2/\fB L1 x1=true/\fB L2 x2=true:=by
 induction L1 generalizing xs with
 |nil=>exact⟨[],xs,rfl,rfl,h⟩
 |cons l L1 ih=>
  cases xs with
  |nil=>simp[fB]at h
  |cons x xs=>simp only[dZ,fB]at h;split at h;rename_i hx;obtain⟨x1,x2,rfl,h1,h2⟩:=ih h;exact⟨x::x1,x2,rfl,by simp[fB,hx,h1],h2⟩;simp_all
theorem Hr {L1:List gI}{x1 y1 x2 y2:List AV}(hx:fB L1 x1=true)(hy:fB L1 y1=true):sameAs (x1++x2) (y1++y2)=(sameAs x1 y1&&sameAs x2 y2):=by
 induction L1 generalizing x1 y1 with
 |nil=>cases x1<;>cases y1<;>simp_all[fB,sameAs]
 |cons l L1 ih=>
  cases x1 with
  |nil=>simp[fB]at hx
  |cons x x1=>
   cases y1 with
   |nil=>simp[fB]at hy
   |cons y y1=>simp only[fB]at hx hy;split at hx;split at hy;simp only[dZ,sameAs,ih hx hy,Bool.and_assoc];simp_all;simp_all
theorem adB {P:Program}{w:World}{d:Nat}{t:TypeId}{l:gI}{x y:AV}(hu:(P.underlying t=some .bool/\l=.bool)\/(∃k,P.underlying t=some (.int k)/\l=.int k)\/(P.underlying t=some .string/\l=.str))(hx:l.fits x=true)(hy:l.fits y=true):(Op.equalIn (d+1) t x.cell y.cell).run P w=.ok (rX x y) w:=by rcases hu with⟨hu,rfl⟩|⟨k,hu,rfl⟩|⟨hu,rfl⟩;cases x<;>simp[gI.fits]at hx;cases y<;>simp[gI.fits]at hy;simp[AV.cell,Op.equalIn,run_underlying hu,rX];cases x<;>simp[gI.fits]at hx;cases y<;>simp[gI.fits]at hy;obtain rfl:=rI hx;obtain rfl:=rI hy;simp[AV.cell,Op.equalIn,run_underlying hu,rX,Hq];cases x<;>simp[gI.fits]at hx;cases y<;>simp[gI.fits]at hy;rename_i a b;simp only[AV.cell,Op.equalIn,Sem.run_bind,run_underlying hu,Result.andThen_ok,Sem.run_pure,rX,beq_toListBytes];simp_all
theorem ajV {A x:List AV}{B:List AV}{off:Nat}(hA:A.length=off)(a:AV):(((A++(a::B)).map AV.cell).toArray)[off]?=some a.cell:=by simp_all
theorem adC {A x B:List AV}{off n:Nat}(hA:A.length=off)(hx:x.length=n):((A++(x++B)).map AV.cell).toArray.extract off (off+n)=(x.map AV.cell).toArray:=by simp_all
theorem SK {P:Program}{w:World}{e:TypeId}{d:TypeDesc}{L:List gI}{A x B:List AV}{off:Nat}(hu:P.underlying e=some d)(hagg:gJ P e=true->P.cellsOf e=L.length/\∃i,P.info? e=some i)(h1:gJ P e=false->L.length=1)(hA:A.length=off)(hx:fB L x=true):(part e ((A++(x++B)).map AV.cell).toArray off).run P w=.ok (tv (gJ P e) x) w:=by
 have hl:=ja hx;simp only[part,Sem.run_bind,SJ hu,Result.andThen_ok];cases hq:gJ P e with
 |true=>obtain⟨h2,i,hi⟩:=hagg hq;simp only[if_true,Sem.run_bind,run_sizeOf w hi,Result.andThen_ok,Sem.run_pure,h2,tv,<-hl,adC hA rfl]
 |false=>have h3:=h1 hq;match x,hl.trans h3 with|[a],_=>simp only[sw,if_false,tv];simp_all
theorem qH {P:Program}{d:Nat}{t:TypeId}{L:List gI}(h:eM P (d+1) t=some L):(∃l,L=[l]/\gJ P t=false/\((P.underlying t=some .bool/\l=.bool)\/(∃k,P.underlying t=some (.int k)/\l=.int k)\/(P.underlying t=some .string/\l=.str)))\/(P.cellsOf t=L.length/\gJ P t=true/\((∃fs,P.underlying t=some (.struct fs)/\P.stoodInHeld t=false/\ow P d 0 fs.toList=some L)\/∃n e l,P.underlying t=some (.array n e)/\eM P d e=some l/\P.cellsOf e=l.length/\L=(List.replicate n l).flatten)):=by
 have YV:∀{o:Option (List gI)},adu P t o=some L->o=some L/\P.cellsOf t=L.length:=λ{o} h=>by unfold adu at h;split at h;grind;split at h;simp_all;simp_all
 unfold eM at h;split at h;rename_i hu;obtain rfl:=an h;exact .inl ⟨_,rfl,by simp[gJ,hu],.inl ⟨hu,rfl⟩⟩;rename_i k hu;obtain rfl:=an h;exact .inl ⟨_,rfl,by simp[gJ,hu],.inr (.inl ⟨k,hu,rfl⟩)⟩;rename_i hu;obtain rfl:=an h;exact .inl ⟨_,rfl,by simp[gJ,hu],.inr (.inr ⟨hu,rfl⟩)⟩;rename_i fs hu;split at h;grind;rename_i hs;obtain⟨h1,h2⟩:=YV h;exact .inr ⟨h2,by simp[gJ,hu],.inl ⟨fs,hu,hs,h1⟩⟩;rename_i n e hu;split at h;grind;rename_i l hl;split at h;rename_i hb;obtain⟨h1,h2⟩:=YV h;obtain h1:=an h1;exact .inr ⟨h2,by simp[gJ,hu],.inr ⟨n,e,l,hu,hl,aK hb,h1.symm⟩⟩;simp_all;simp_all
theorem wv {P:Program}{d:Nat}{t:TypeId}{L:List gI}(h:eM P d t=some L):∃q i,P.underlying t=some q/\P.info? t=some i:=by
 cases d with
 |zero=>simp[eM]at h
 |succ d=>
  have :∃q,P.underlying t=some q:=by rcases qH h with⟨l,-,-,⟨h,-⟩|⟨k,h,-⟩|⟨h,-⟩⟩|⟨-,-,⟨fs,h,-⟩|⟨n,e,l,h,-⟩⟩;all_goals simp_all
  obtain⟨q,hq⟩:=this;obtain⟨i,hi⟩:=info_of_underlying hq;simp_all
theorem pe {P:Program}{w:World}{d:Nat}{e:TypeId}{L:List gI}{A x B:List AV}{off:Nat}(h:eM P d e=some L)(hA:A.length=off)(hx:fB L x=true):(part e ((A++(x++B)).map AV.cell).toArray off).run P w=.ok (tv (gJ P e) x) w:=by
 obtain⟨q,i,hq,hi⟩:=wv h;cases d with
 |zero=>simp[eM]at h
 |succ d=>refine SK hq (λha=>⟨?_,i,hi⟩) (λha=>?_) hA hx;rcases qH h with⟨l,-,h2,-⟩|⟨h2,-,-⟩;simp_all;omega;rcases qH h with⟨l,rfl,-,-⟩|⟨-,h2,-⟩;rfl;simp_all
theorem Ef {P:Program}:∀(d:Nat),(∀(t:TypeId)(L:List gI)(D:Nat)(w:World)(xs ys:List AV),d<=D->eM P d t=some L->fB L xs=true->fB L ys=true->(Op.equalIn D t (tv (gJ P t) xs) (tv (gJ P t) ys)).run P w=.ok (sameAs xs ys) w)/\(∀(fs:List Field)(off:Nat)(L:List gI)(D:Nat)(w:World)(A A' xs ys:List AV),d<=D->ow P d off fs=some L->A.length=off->A'.length=off->fB L xs=true->fB L ys=true->(Op.eqFields D ((A++xs).map AV.cell).toArray ((A'++ys).map AV.cell).toArray fs).run P w=.ok (sameAs xs ys) w)
 |0=>⟨λt L D w xs ys _ h=>by simp[eM]at h,λfs off L D w A A' xs ys _ h=>by simp[ow]at h⟩
 |d+1=>by
  obtain⟨ih1,ih2⟩:=Ef d;constructor;intro t L D w xs ys hD h hx hy;obtain⟨D,rfl⟩:∃D',D=D'+1:=⟨D-1,oO⟩;rcases qH h with⟨l,rfl,ha,hu⟩|⟨hc,ha,⟨fs,hu,hs,hf⟩|⟨n,e,l,hu,hl,hce,rfl⟩⟩;rw[ha];match xs,ys,ja hx,ja hy with
   |[x],[y],_,_=>
    have hx':l.fits x=true:=by simp only[fB]at hx;split at hx;assumption;cases hx
    have hy':l.fits y=true:=by simp only[fB]at hy;split at hy;assumption;cases hy
    have :=adB (w:=w) (d:=D) hu hx' hy';simpa[tv,sameAs]using this
  rw[ha];have OS:P.fieldsOf t=fs:=by simp[Program.fieldsOf,hu]
  simp only[tv];rw[run_equalIn_struct w D t _ _ (by rw[OS];exact hu) hs,OS];exact ih2 fs.toList 0 L D w [] [] xs ys oO hf rfl rfl hx hy;rw[ha];obtain⟨q,i,hq,hi⟩:=wv hl;simp only[tv];rw[run_equalIn_array w D _ _ hu hi];have key:∀(k j:Nat)(A A' xs ys:List AV),A.length=j*P.cellsOf e->A'.length=j*P.cellsOf e->fB (List.replicate k l).flatten xs=true->fB (List.replicate k l).flatten ys=true->(Op.eqItems D e (P.cellsOf e) ((A++xs).map AV.cell).toArray ((A'++ys).map AV.cell).toArray (List.range' j k)).run P w=.ok (sameAs xs ys) w:=by
   intro k;induction k with
   |zero=>intro j A A' xs ys _ _ hx hy;have e1:xs=[]:=bJ.1 (ja hx);have e2:ys=[]:=bJ.1 (ja hy);subst e1 e2;rfl
   |succ k ihk=>
    intro j A A' xs ys hA hA' hx hy;rw[List.replicate_succ,nH]at hx hy;obtain⟨x1,x2,rfl,hx1,hx2⟩:=ve hx;obtain⟨y1,y2,rfl,hy1,hy2⟩:=ve hy;rw[List.range'_succ];simp only[Op.eqItems,Sem.run_bind,pe hl hA hx1,pe hl hA' hy1,Result.andThen_ok,ih1 e l D w x1 y1 oO hl hx1 hy1,Hr hx1 hy1];cases hs:sameAs x1 y1 with
    |false=>simp
    |true=>have :=ihk (j+1) (A++x1) (A'++y1) x2 y2 (by rw[au,hA,ja hx1,bD,jT,hce]) (by rw[au,hA',ja hy1,bD,jT,hce]) hx2 hy2;simp_all
  have :=key n 0 [] [] xs ys (by simp) (by simp) hx hy;rw[Ci];simp_all;intro fs off L D w A A' xs ys hD h hA hA' hx hy;cases fs with
  |nil=>simp only[ow,bM]at h;subst h;have e1:xs=[]:=bJ.1 (ja hx);have e2:ys=[]:=bJ.1 (ja hy);subst e1 e2;rfl
  |cons f fs=>
   simp only[ow]at h;split at h;rename_i hn ho;split at h;grind;rename_i l hl;split at h;grind;rename_i r hr;obtain rfl:=an h;obtain⟨x1,x2,rfl,hx1,hx2⟩:=ve hx;obtain⟨y1,y2,rfl,hy1,hy2⟩:=ve hy;have ho:=aK ho;have hn':f.name≠ "_" :=by simpa using hn
   simp only[Op.eqFields,hn',ne_eq,not_false_eq_true,if_true,Sem.run_bind,pe hl (hA.trans ho.symm) hx1,pe hl (hA'.trans ho.symm) hy1,Result.andThen_ok,ih1 f.type l D w x1 y1 oO hl hx1 hy1,Hr hx1 hy1];cases hs:sameAs x1 y1 with
   |false=>simp
   |true=>have :=ih2 fs (off+l.length) r D w (A++x1) (A'++y1) x2 y2 oO hr (by rw[au,hA,ja hx1]) (by rw[au,hA',ja hy1]) hx2 hy2;simp_all
   simp_all
theorem gI.rep {aZ:Nat->Nat->Prop}{w:World}{v:Value}{l:gI}{x:AV}(h:cZ aZ w v x)(hl:l.fits x=true):v=x.cell:=by cases h<;>cases l<;>first|rfl|(simp[gI.fits]at hl)
theorem Pt {aZ:Nat->Nat->Prop}{w:World}:∀(L:List gI)(cs:List Value)(xs:List AV),cs.length=xs.length->fB L xs=true->(∀(i:Nat)(c:Value)(x:AV),cs[i]?=some c->xs[i]?=some x->cZ aZ w c x)->cs=xs.map AV.cell
 |[],cs,xs,hl,hf,_=>by have e2:xs=[]:=bJ.1 (ja hf);simp_all
 |l::L,cs,[],hl,hf,hr=>by simp_all
 |l::L,[],x::xs,hl,hf,hr=>by simp_all
 |l::L,c::cs,x::xs,hl,hf,hr=>by simp only[fB]at hf;split at hf;rename_i hx;rw[cE,gI.rep (hr 0 c x rfl rfl) hx,Pt L cs xs (by simp_all) hf (λi c x h1 h2=>hr (i+1) c x (by simp_all) (by simp_all))];simp_all
theorem lK {agg:Bool}{L:List gI}{x:AV}(h:gz agg L x=true):fB L x.cells=true:=by cases agg<;>cases x<;>first|exact h|(simp[gz]at h)
theorem sX {aZ:Nat->Nat->Prop}{w:World}{v:Value}{agg:Bool}{L:List gI}{x:AV}(h:cZ aZ w v x)(hf:gz agg L x=true):v=tv agg x.cells:=by
 cases agg with
 |true=>
  cases h with
  |agg cs xs hl ho hr=>have :=Pt L cs xs hl hf hr;rw[this];rfl
  |_=>simp[gz]at hf
 |false=>
  have hf':=lK hf;cases h with
  |agg cs xs hl ho hr=>simp[gz]at hf
  |_=>
   all_goals
    simp only[AV.cells]at hf';match L,hf' with
     |[],hf'=>simp[fB]at hf'
     |[l],hf'=>
      simp only[fB]at hf';split at hf';rename_i hx;cases l<;>first|rfl|(simp[gI.fits]at hx)
      cases hf'
     |_::_::_,hf'=>simp only[fB]at hf';split at hf'<;>cases hf'
theorem Pu {agg:Bool}{L:List gI}{x y:AV}(hx:gz agg L x=true)(hy:gz agg L y=true):jR x y=sameAs x.cells y.cells:=by
 cases agg with
 |true=>
  cases x<;>first|(simp[gz]at hx;done)|skip
  cases y<;>first|(simp[gz]at hy;done)|skip
  rfl
 |false=>
  cases x<;>first|(simp[gz]at hx;done)|skip
  all_goals cases y<;>first|(simp[gz]at hy;done)|simp[jR,AV.cells,sameAs]
theorem KP {x y:AV}(h:rX x y=true):x=y:=by cases x<;>cases y<;>simp only[rX]at h<;>first|(simp at h;subst h;rfl)|(simp only[aY,beq_iff_eq]at h;obtain⟨h1,h2⟩:=h;rw[rI h1,h2])|cases h
theorem KQ:∀{xs ys:List AV},sameAs xs ys=true->xs=ys
 |[],[],_=>rfl
 |[],_::_,h=>by simp[sameAs]at h
 |_::_,[],h=>by simp[sameAs]at h
 |x::xs,y::ys,h=>by simp only[sameAs,aY]at h;rw[KP h.1,KQ h.2]
theorem Zw {x y:AV}(h:jR x y=true):x=y:=by unfold jR at h;split at h;rw[KQ h];exact KP h
theorem SL {P:Program}{w:World}{d:Nat}{em:Bool}{t:TypeId}{l:gI}{x:AV}(hu:(P.underlying t=some .bool/\l=.bool)\/(∃k,P.underlying t=some (.int k)/\l=.int k)\/(P.underlying t=some .string/\l=.str))(hx:l.fits x=true):(Instr.checkKey em (d+1) t x.cell).run P w=.ok () w:=by unfold Instr.checkKey;rcases hu with⟨hu,rfl⟩|⟨k,hu,rfl⟩|⟨hu,rfl⟩;all_goals cases x<;>simp[gI.fits]at hx;simp[AV.cell,run_underlying hu]
def sY (em:Bool)(D:Nat)(xs:Array Value):List Field->Sem Unit|[]=>pure ()|f::fs=>if f.name≠ "_" then do let a<-part f.type xs f.offset;Instr.checkKey em D f.type a;sY em D xs fs else sY em D xs fs
def yJ (em:Bool)(D:Nat)(e:TypeId)(c:Nat)(xs:Array Value):List Nat->Sem Unit|[]=>pure ()|i::is=>do let a<-part e xs (i*c);Instr.checkKey em D e a;yJ em D e c xs is
theorem Hs {P:Program}{w:World}{em:Bool}{D:Nat}{t:TypeId}{fs:Array Field}(xs:Array Value)(hu:P.underlying t=some (.struct fs)):(Instr.checkKey em (D+1) t (.agg xs)).run P w=(sY em D xs fs.toList).run P w:=by
 unfold Instr.checkKey;simp only[Sem.run_bind,run_underlying hu,Result.andThen_ok];rw[<-Array.forIn_toList];generalize fs.toList=fs;clear hu;induction fs generalizing w with
 |nil=>rfl
 |cons f fs ih=>
  simp only[List.forIn_cons,sY,Sem.run_bind,Sem.run_ite];split;generalize(part f.type xs f.offset).run P w=r1;cases r1 with
  |ok a w1=>
   simp only[Result.andThen_ok];generalize(Instr.checkKey em D f.type a).run P w1=r2;cases r2 with
   |ok b w2=>simp_all
   |halt x w2=>rfl
  |halt x w1=>rfl
  simp_all
theorem JZ {P:Program}{w:World}{em:Bool}{D:Nat}{t e:TypeId}{n:Nat}{i:TypeInfo}(xs:Array Value)(hu:P.underlying t=some (.array n e))(hi:P.info? e=some i):(Instr.checkKey em (D+1) t (.agg xs)).run P w=(yJ em D e (P.cellsOf e) xs (List.range n)).run P w:=by
 unfold Instr.checkKey;simp only[Sem.run_bind,run_underlying hu,Result.andThen_ok];simp only[Std.Legacy.Range.forIn_eq_forIn_range',Std.Legacy.Range.size,Nat.sub_zero,Nat.add_one_sub_one,Nat.div_one,Ci];generalize List.range' 0 n=is;clear hu;induction is generalizing w with
 |nil=>rfl
 |cons j is ih=>
  simp only[List.forIn_cons,yJ,Sem.run_bind,run_sizeOf w hi,Result.andThen_ok];generalize(part e xs (j*P.cellsOf e)).run P w=r1;cases r1 with
  |ok a w1=>
   simp only[Result.andThen_ok];generalize(Instr.checkKey em D e a).run P w1=r2;cases r2 with
   |ok b w2=>simp_all
   |halt x w2=>rfl
  |halt x w1=>rfl
theorem sx {P:Program}{em:Bool}:∀(d:Nat),(∀(t:TypeId)(L:List gI)(D:Nat)(w:World)(xs:List AV),d<=D->eM P d t=some L->fB L xs=true->(Instr.checkKey em D t (tv (gJ P t) xs)).run P w=.ok () w)/\(∀(fs:List Field)(off:Nat)(L:List gI)(D:Nat)(w:World)(A xs:List AV),d<=D->ow P d off fs=some L->A.length=off->fB L xs=true->(sY em D ((A++xs).map AV.cell).toArray fs).run P w=.ok () w)
 |0=>⟨λt L D w xs _ h=>by simp[eM]at h,λfs off L D w A xs _ h=>by simp[ow]at h⟩
 |d+1=>by
  obtain⟨ih1,ih2⟩:=sx (P:=P) (em:=em) d;constructor;intro t L D w xs hD h hx;obtain⟨D,rfl⟩:∃D',D=D'+1:=⟨D-1,oO⟩;rcases qH h with⟨l,rfl,ha,hu⟩|⟨hc,ha,⟨fs,hu,hs,hf⟩|⟨n,e,l,hu,hl,hce,rfl⟩⟩;rw[ha];match xs,ja hx with
   |[x],_=>
    have hx':l.fits x=true:=by simp only[fB]at hx;split at hx;omega;grind
    exact SL hu hx'
  rw[ha];simp only[tv];rw[Hs _ hu];exact ih2 fs.toList 0 L D w [] xs oO hf rfl hx;rw[ha];obtain⟨q,i,hq,hi⟩:=wv hl;simp only[tv];rw[JZ _ hu hi];have key:∀(k j:Nat)(A xs:List AV),A.length=j*P.cellsOf e->fB (List.replicate k l).flatten xs=true->(yJ em D e (P.cellsOf e) ((A++xs).map AV.cell).toArray (List.range' j k)).run P w=.ok () w:=by
   intro k;induction k with
   |zero=>intro j A xs _ _;rfl
   |succ k ihk=>intro j A xs hA hx;rw[List.replicate_succ,nH]at hx;obtain⟨x1,x2,rfl,hx1,hx2⟩:=ve hx;rw[List.range'_succ];simp only[yJ,Sem.run_bind,Result.andThen_ok,pe hl hA hx1,ih1 e l D w x1 oO hl hx1];have :=ihk (j+1) (A++x1) x2 (by rw[au,hA,ja hx1,bD,jT,hce]) hx2;simp_all
  have :=key n 0 [] xs (by simp) hx;rw[Ci];simp_all;intro fs off L D w A xs hD h hA hx;cases fs with
  |nil=>rfl
  |cons f fs=>
   simp only[ow]at h;split at h;rename_i hn ho;split at h;grind;rename_i l hl;split at h;grind;rename_i r hr;obtain rfl:=an h;obtain⟨x1,x2,rfl,hx1,hx2⟩:=ve hx;have ho:=aK ho;have hn':f.name≠ "_" :=by simpa using hn
   have :=ih2 fs (off+l.length) r D w (A++x1) x2 oO hr (by rw[au,hA,ja hx1]) hx2;rw[br]at this;simp only[sY,hn',ne_eq,not_false_eq_true,if_true,Sem.run_bind,pe hl (hA.trans ho.symm) hx1,Result.andThen_ok,ih1 f.type l D w x1 oO hl hx1];omega;simp_all
def iw (k:AV):List AV->Option Nat|[]=>none|x::xs=>match jR k x with|true=>some 0|false=>(iw k xs).map (·+1)
def sy (agg:Bool)(L:List gI)(es:List MapEntry)(ks:List AV):Prop:=es.length=ks.length/\∀(i:Nat)(e:MapEntry)(x:AV),es[i]?=some e->ks[i]?=some x->e.key=tv agg x.cells/\gz agg L x=true
theorem sy.tail {agg:Bool}{L:List gI}{e:MapEntry}{es:List MapEntry}{x:AV}{ks:List AV}(h:sy agg L (e::es) (x::ks)):e.key=tv agg x.cells/\gz agg L x=true/\sy agg L es ks:=⟨(h.2 0 e x rfl rfl).1,(h.2 0 e x rfl rfl).2,by simpa using h.1,λi e' x' h1 h2=>h.2 (i+1) e' x' (by simp_all) (by simp_all)⟩
def found (es:List MapEntry)(i:Nat)(o:Option Nat):Option (Nat×Value):=o.bind λj=>(es[j]?).map λe=>(i+j,e.val)
theorem Ht (e:MapEntry)(es:List MapEntry)(i:Nat)(o:Option Nat):found (e::es) i (o.map (·+1))=found es (i+1) o:=by
 cases o with
 |none=>rfl
 |some j=>simp[found,gj,pQ 1]
theorem yK {P:Program}{w:World}{t:TypeId}{d:Nat}{L:List gI}(hd:d<=10000)(hL:eM P d t=some L){k:AV}(hk:gz (gJ P t) L k=true):∀(es:List MapEntry)(ks:List AV)(i:Nat),sy (gJ P t) L es ks->(Instr.findAsking t (tv (gJ P t) k.cells) es i).run P w=.ok (found es i (iw k ks)) w
 |[],ks,i,h=>by have :ks=[]:=bJ.1 h.1.symm;subst this;rfl
 |e::es,[],i,h=>by have :=h.1;simp_all
 |e::es,x::ks,i,h=>by
  obtain⟨h1,h2,h3⟩:=h.tail;have heq:=(Ef d).1 t L 10000 w k.cells x.cells hd hL (lK hk) (lK h2);have heq':(Op.equal t (tv (gJ P t) k.cells) e.key).run P w=.ok (jR k x) w:=by rw[h1,Pu hk h2];exact heq
  simp only[Instr.findAsking,Sem.run_bind,heq',Result.andThen_ok,iw];cases hs:jR k x with
  |true=>rfl
  |false=>have :=yK (w:=w) hd hL hk es ks (i+1) h3;simp only[sw,if_false,this,Ht]
theorem Pv {l:gI}{k:AV}(h:gz false [l] k=true):l.fits k=true:=by
 cases k<;>first|(simp[gz]at h;done)|skip
 all_goals have :=lK h;simp only[AV.cells,fB]at this;split at this;assumption;cases this
theorem KR {P:Program}{t:TypeId}{q:TypeDesc}{l:gI}(hu:P.underlying t=some q)(ha:gJ P t=false)(hl:(P.underlying t=some .bool/\l=.bool)\/(∃k,P.underlying t=some (.int k)/\l=.int k)\/(P.underlying t=some .string/\l=.str)){k:AV}(hk:gz false [l] k=true):∀(es:List MapEntry)(ks:List AV)(i:Nat),sy false [l] es ks->Instr.findNow q (tv false k.cells) es i=some (found es i (iw k ks))
 |[],ks,i,h=>by have :ks=[]:=bJ.1 h.1.symm;subst this;rfl
 |e::es,[],i,h=>by have :=h.1;simp_all
 |e::es,x::ks,i,h=>by
  obtain⟨h1,h2,h3⟩:=h.tail;have hs:Instr.sameNow q (tv false k.cells) e.key=some (jR k x):=by
   rw[h1];have f1:=Pv hk;have f2:=Pv h2;rcases hl with⟨hl,rfl⟩|⟨kk,hl,rfl⟩|⟨hl,rfl⟩;all_goals
    rw[hu]at hl;obtain rfl:=an hl;cases k<;>first|(simp[gI.fits]at f1;done)|skip
    cases x<;>first|(simp[gI.fits]at f2;done)|skip
   rfl;simp only[gI.fits]at f1 f2;obtain rfl:=rI f1;obtain rfl:=rI f2;simp[tv,AV.cells,AV.cell,Instr.sameNow,jR,rX,Hq];simp only[tv,AV.cells,AV.cell,Instr.sameNow,jR,rX,cE,iG,List.headD_cons,beq_toListBytes];simp_all
  simp only[Instr.findNow,hs,iw];cases hq:jR k x with
  |true=>rfl
  |false=>have :=KR hu ha hl hk es ks (i+1) h3;simp only[this,Ht]
theorem wz {P:Program}{w:World}{t:TypeId}{d:Nat}{L:List gI}(hd:d<=10000)(hL:eM P d t=some L){k:AV}(hk:gz (gJ P t) L k=true){es:List MapEntry}{ks:List AV}(h:sy (gJ P t) L es ks):(Instr.findKey t (tv (gJ P t) k.cells) es).run P w=.ok (found es 0 (iw k ks)) w:=by
 obtain⟨q,i,hq,hi⟩:=wv hL;cases d with
 |zero=>simp[eM]at hL
 |succ d=>
  rcases qH hL with⟨l,rfl,ha,hu⟩|⟨hc,ha,hu⟩;rw[ha]at hk h⊢;simp only[Instr.findKey,Sem.run_bind,run_underlying hq,Result.andThen_ok,KR hq ha hu hk es ks 0 h,Sem.run_pure];have ana:=yK (w:=w) hd hL hk es ks 0 h;have akq:Instr.findNow q (tv (gJ P t) k.cells) es 0=(match es with|[]=>some none|_::_=>none):=by
   cases es with
   |nil=>rfl
   |cons e es=>rcases hu with⟨fs,hu,-⟩|⟨n,e',l,hu,-⟩;all_goals rw[hq]at hu;obtain rfl:=an hu;rfl
  simp only[Instr.findKey,Sem.run_bind,run_underlying hq,Result.andThen_ok,akq];cases es with
  |nil=>have :ks=[]:=bJ.1 h.1.symm;subst this;rfl
  |cons e es=>omega
theorem AN {l:gI}{x:AV}(h:l.fits x=true)(n:Nat):Instr.sameBits n x.cell x.cell=true:=by cases l<;>cases x<;>simp[gI.fits]at h<;>cases n<;>simp[AV.cell,Instr.sameBits,beq_toListBytes]
theorem Cj {p:Value->Value->Bool}:∀(xs:List Value),(∀x,x∈xs->p x x=true)->((xs.zip xs).all λ(a,b)=>p a b)=true|[],_=>rfl|x::xs,h=>by simp only[List.zip_cons_cons,List.all_cons,h x (by simp),jd];exact Cj xs λy hy=>h y (by grind)
theorem Pw {agg:Bool}{L:List gI}{x:AV}(h:gz agg L x=true)(n:Nat):Instr.sameBits (n+1) (tv agg x.cells) (tv agg x.cells)=true:=by
 have hc:=lK h;cases agg with
 |true=>
  have hall:∀{L:List gI}{xs:List AV},fB L xs=true->∀y∈xs,∃l:gI,l.fits y=true:=by
   intro L;induction L with
   |nil=>intro xs h y hy;have :=bJ.1 (ja h);simp_all
   |cons l L ih=>
    intro xs h y hy;cases xs with
    |nil=>simp_all
    |cons x xs=>simp only[fB]at h;grind
  simp only[tv,Instr.sameBits,beq_self_eq_true,jd];refine Cj (p:=Instr.sameBits n) _ λy hy=>?_;obtain⟨z,hz,rfl⟩:=aA.1 (by simpa using hy);obtain⟨l,hl⟩:=hall hc z hz;exact AN hl n
 |false=>
  cases x<;>first|(simp[gz]at h;done)|skip
  all_goals
   simp only[AV.cells]at hc;match L,hc with
    |[],hc=>simp[fB]at hc
    |[l],hc=>simp only[fB]at hc;split at hc;rename_i hx;exact AN hx _;cases hc
    |_::_::_,hc=>simp only[fB]at hc;split at hc<;>cases hc
theorem Ck {P:Program}{w:World}{agg:Bool}{L:List gI}{x:AV}(h:gz agg L x=true):(Instr.keyThatStays (tv agg x.cells) (tv agg x.cells)).run P w=.ok (tv agg x.cells) w:=by unfold Instr.keyThatStays;rw[Pw h];rfl
theorem SM {l:List (TypeId×jL)}{t:TypeId}{i:jL}(h:bP l t=some i):(t,i)∈l:=by
 induction l with
 |nil=>cases h
 |cons p l ih=>obtain⟨u,j⟩:=p;simp only[bP]at h;split at h;simp_all;simp_all
theorem Ctx.ok (C:Ctx){t:TypeId}{i:jL}(h:bP C.js t=some i):fL C.P t i:=C.ah3 t i (SM h)
theorem fL.info' {P:Program}{t:TypeId}{i:jL}(h:fL P t i):∃inf z,P.info? t=some inf/\inf.size=i.size/\inf.bytes=i.bytes/\inf.zero=some z/\z.cells.toList=i.zero:=by have :=h.info;simp_all
theorem fL.yL {P:Program}{t:TypeId}{i:jL}(h:fL P t i):∃d,P.underlying t=some d/\shapeOf d=i.shape:=by have :=h.und;simp_all
theorem fL.sizeOf {P:Program}{t:TypeId}{i:jL}(h:fL P t i)(w:World):(Go.sizeOf t).run P w=.ok i.size w:=by obtain⟨inf,z,h1,h2,-⟩:=h.info';simp[Go.sizeOf,run_typeInfo w h1,h2]
theorem fL.isAgg {P:Program}{t:TypeId}{i:jL}(h:fL P t i)(w:World):(Go.isAgg t).run P w=.ok i.shape.isAgg w:=by obtain⟨d,h1,h2⟩:=h.yL;simp only[Go.isAgg,Sem.run_bind,run_underlying h1,Result.andThen_ok];rw[<-h2];cases d<;>rfl
theorem fL.gJ {P:Program}{t:TypeId}{i:jL}(h:fL P t i):Qv.gJ P t=i.shape.isAgg:=by obtain⟨d,h1,h2⟩:=h.yL;rw[<-h2];unfold Qv.gJ;rw[h1];cases d<;>rfl
theorem fL.slice {P:Program}{t e:TypeId}{a b:Nat}{z:List Value}(h:fL P t ⟨a,b,.slice e,z⟩):P.underlying t=some (.slice e):=by obtain⟨d,h1,h2⟩:=h.yL;cases d<;>simp[shapeOf]at h2;simp_all
theorem fL.array {P:Program}{t e:TypeId}{a b n:Nat}{z:List Value}(h:fL P t ⟨a,b,.array n e,z⟩):P.underlying t=some (.array n e):=by obtain⟨d,h1,h2⟩:=h.yL;cases d<;>simp[shapeOf]at h2;simp_all
theorem fL.str {P:Program}{t:TypeId}{a b:Nat}{z:List Value}(h:fL P t ⟨a,b,.str,z⟩):P.underlying t=some .string:=by obtain⟨d,h1,h2⟩:=h.yL;cases d<;>simp[shapeOf]at h2;omega
theorem fL.bool {P:Program}{t:TypeId}{a b:Nat}{z:List Value}(h:fL P t ⟨a,b,.bool,z⟩):P.underlying t=some .bool:=by obtain⟨d,h1,h2⟩:=h.yL;cases d<;>simp[shapeOf]at h2;omega
theorem fL.int {P:Program}{t:TypeId}{a b:Nat}{k:IntKind}{z:List Value}(h:fL P t ⟨a,b,.int k,z⟩):P.underlying t=some (.int k):=by obtain⟨d,h1,h2⟩:=h.yL;cases d<;>simp[shapeOf]at h2;simp_all
theorem fL.struct {P:Program}{t:TypeId}{a b:Nat}{fs:List (Nat×TypeId)}{z:List Value}(h:fL P t ⟨a,b,.struct fs,z⟩):∃gs,P.underlying t=some (.struct gs)/\fs=gs.toList.map λf=>(f.offset,f.type):=by obtain⟨d,h1,h2⟩:=h.yL;cases d<;>simp[shapeOf]at h2;simp_all
theorem fL.ptr {P:Program}{t e:TypeId}{a b:Nat}{z:List Value}(h:fL P t ⟨a,b,.ptr e,z⟩):P.underlying t=some (.pointer e):=by obtain⟨d,h1,h2⟩:=h.yL;cases d<;>simp[shapeOf]at h2;simp_all
theorem Eg {P:Program}{w:World}{t e:TypeId}(d:Nat)(p:Option Addr)(h:P.underlying t=some (.pointer e)):(Op.equalIn (d+1) t (.pointer p) (.pointer none)).run P w=.ok p.isNone w:=by cases p<;>simp[Op.equalIn,run_underlying h]
theorem pR {P:Program}{w:World}{t e:TypeId}(p:Option Addr)(h:P.underlying t=some (.pointer e)):(Op.equal t (.pointer p) (.pointer none)).run P w=.ok p.isNone w:=Eg 9999 p h
theorem Cl {P:Program}{w:World}{t e:TypeId}{i:jL}(d:Nat)(p:Addr)(h:P.underlying t=some (.pointer e))(hi:fL P e i):(Op.equalIn (d+1) t (.pointer (some p)) (.pointer (some p))).run P w=.ok true w:=by have hso:=hi.sizeOf w;simp only[Op.equalIn,Sem.run_bind,run_underlying h,Result.andThen_ok,hso,sameAddr];simp_all
theorem xU {P:Program}{w:World}{t e:TypeId}{i:jL}(p:Addr)(h:P.underlying t=some (.pointer e))(hi:fL P e i):(Op.equal t (.pointer (some p)) (.pointer (some p))).run P w=.ok true w:=Cl 9999 p h hi
theorem nk {α:Type}(n:Nat)(xs:List α):fT n xs=xs.drop n:=by
 induction n generalizing xs with
 |zero=>rfl
 |succ n ih=>cases xs<;>simp[fT,ih]
theorem lV {α:Type}{n:Nat}{xs:List α}{y:α}{ys:List α}(h:fT n xs=y::ys):xs[n]?=some y:=by rw[nk]at h;have :=aS (·[0]?) h;grind
theorem wA {n:Nat}{xs cs:List FV}(h:takeN n xs=some cs):cs=xs.take n/\n<=xs.length:=by
 induction n generalizing xs cs with
 |zero=>simp[takeN]at h;grind
 |succ n ih=>
  cases xs with
  |nil=>simp[takeN]at h
  |cons x xs=>simp only[takeN]at h;grind
theorem Bi {n:Nat}{xs cs:List AV}(h:Fi n xs=some cs):cs=xs.take n/\n<=xs.length:=by
 induction n generalizing xs cs with
 |zero=>simp[Fi]at h;grind
 |succ n ih=>
  cases xs with
  |nil=>simp[Fi]at h
  |cons x xs=>simp only[Fi]at h;grind
theorem fL.field {P:Program}{s:TypeId}{a b f:Nat}{fs:List (Nat×TypeId)}{z:List Value}{o:Nat}{t:TypeId}{r:List (Nat×TypeId)}(h:fL P s ⟨a,b,.struct fs,z⟩)(hd:fT f fs=(o,t)::r):∃(gs:Array Field) (g:Field),P.underlying s=some (.struct gs)/\gs[f]?=some g/\g.offset=o/\g.type=t:=by obtain⟨gs,h1,h2⟩:=h.struct;have h3:=lV hd;simp_all
section
variable {aZ:Nat->Nat->Prop}{w:World}{v:Value}{G:aV}
theorem cZ.fJ {k:IntKind}{n:Int}(h:cZ aZ w v (.int k n)):v=.int k n:=by cases h;rfl
theorem cZ.nt {b:Bool}(h:cZ aZ w v (.bool b)):v=.bool b:=by cases h;rfl
theorem cZ.jD {s:List UInt8}(h:cZ aZ w v (.str s)):v=.string ⟨s.toArray⟩:=by cases h;rfl
theorem aQ.fJ {k:IntKind}{n:Int}(h:aQ G w v (.p (.int k n))):v=.int k n:=by
 cases h with
 |p _ _ h=>exact h.fJ
theorem aQ.Hu (h:aQ G w v (.p .vX)):v=.pointer none:=by
 cases h with
 |p _ _ h=>cases h;rfl
theorem aQ.nt {b:Bool}(h:aQ G w v (.p (.bool b))):v=.bool b:=by
 cases h with
 |p _ _ h=>exact h.nt
theorem aQ.jD {s:List UInt8}(h:aQ G w v (.p (.str s))):v=.string ⟨s.toArray⟩:=by
 cases h with
 |p _ _ h=>exact h.jD
theorem aQ.plain {x:AV}(h:aQ G w v (.p x)):cZ G.aZ w v x:=by
 cases h with
 |p _ _ h=>omega
theorem aQ.WH (h:aQ G w v (.p (.eY []))):v=undef:=by
 cases h with
 |p _ _ h=>
  cases h with
  |eY cs xs hl h=>have :cs=[]:=bJ.1 oO;subst this;rfl
theorem aQ.oG {o off:Nat}(h:aQ G w v (.ptr o off)):∃b,v=.pointer (some ⟨b,off,none⟩)/\G.loc o=some b:=by
 cases h with
 |ptr _ _ b h=>simp_all
theorem aQ.Gz {o bN:Nat}{T:TypeId}(h:aQ G w v (.fc o T bN)):∃n c b,v=.slice (some ⟨b,0,none⟩) n c/\G.loc o=some b/\G.tail o=some (b,n*bN,c*bN,T)/\n<=c/\0<bN:=by
 cases h with
 |fc _ _ _ n c b h1 h2 h3 h4=>grind
theorem cZ.kS {xs:List (List AV)}(h:cZ aZ w v (.sl xs)):∃a c,v=.slice a xs.length c/\xs.length<=c/\(xs≠[]->∃(b off bN:Nat) (cell:Nat->Nat->Value),a=some ⟨b,off,none⟩/\(∀(i:Nat)(ys:List AV),xs[i]?=some ys->ys.length=bN)/\(∀(i:Nat)(ys:List AV)(j:Nat)(y:AV),xs[i]?=some ys->ys[j]?=some y->y.one=true/\w.cell? ⟨b,off+i*bN+j,none⟩=some (cell i j)/\aZ b (off+i*bN+j)/\cZ aZ w (cell i j) y)):=by
 cases h with
 |WE a c=>simp_all
 |sl b off c bN xs cell h1 h2 h3 h4 h5 h6=>exact⟨_,c,rfl,h6,λ_=>⟨b,off,bN,cell,rfl,h1,λi ys j y a b=>⟨h2 i ys j y a b,h3 i ys j y a b,h4 i ys j y a b,h5 i ys j y a b⟩⟩⟩
theorem aQ.elems {x:FV}{xs:List (List AV)}(hx:x.elems=some xs)(h:aQ G w v x):cZ G.aZ w v (.sl xs):=by
 cases x with
 |p y=>cases y<;>simp[FV.elems]at hx;subst hx;exact h.plain
 |eU t T e ys=>simp only[FV.elems,bM]at hx;subst hx;exact h.fe rfl
 |full ys=>simp only[FV.elems,bM]at hx;subst hx;exact h.fe rfl
 |_=>simp[FV.elems]at hx
theorem cZ.Cm {xs:List AV}(h:cZ aZ w v (.imp xs)):∃b off,v=.pointer (some ⟨b,off,none⟩)/\∀(j:Nat)(y:AV),xs[j]?=some y->∃c,y.one=true/\w.cell? ⟨b,off+j,none⟩=some c/\aZ b (off+j)/\cZ aZ w c y:=by
 cases h with
 |imp b off xs cell h2 h3 h4 h5=>grind
theorem cZ.SN {xs:List AV}{b off:Nat}(h:∀(j:Nat)(y:AV),xs[j]?=some y->∃c,y.one=true/\w.cell? ⟨b,off+j,none⟩=some c/\aZ b (off+j)/\cZ aZ w c y):cZ aZ w (.pointer (some ⟨b,off,none⟩)) (.imp xs):=by refine .imp b off xs (λj=>(w.cell? ⟨b,off+j,none⟩).getD undef) (λj y hy=>(h j y hy).choose_spec.1) (λj y hy=>?_) (λj y hy=>(h j y hy).choose_spec.2.2.1) (λj y hy=>?_);grind;grind
theorem cZ.Px {xs:List (List AV)}{b off bN c:Nat}(hc:xs.length<=c)(h1:∀(i:Nat)(ys:List AV),xs[i]?=some ys->ys.length=bN)(h:∀(i:Nat)(ys:List AV)(j:Nat)(y:AV),xs[i]?=some ys->ys[j]?=some y->∃u,y.one=true/\w.cell? ⟨b,off+i*bN+j,none⟩=some u/\aZ b (off+i*bN+j)/\cZ aZ w u y):cZ aZ w (.slice (some ⟨b,off,none⟩) xs.length c) (.sl xs):=by refine .sl b off c bN xs (λi j=>(w.cell? ⟨b,off+i*bN+j,none⟩).getD undef) h1 (λi ys j y a a'=>(h i ys j y a a').choose_spec.1) (λi ys j y a a'=>?_) (λi ys j y a a'=>(h i ys j y a a').choose_spec.2.2.1) (λi ys j y a a'=>?_) hc;grind;grind
theorem cZ.Zx {x:AV}(h:cZ aZ w v x)(hx:x.one=true):v.oneCell'=true:=by cases h<;>first|rfl|(simp[AV.one]at hx)
theorem aQ.Zx {x:FV}(h:aQ G w v x)(hx:x.one=true):v.oneCell'=true:=by
 cases h with
 |p v x h=>exact h.Zx (by cases x<;>simp_all[FV.one,AV.one])
 |_=>first|rfl|(simp[FV.one]at hx)
end
section
variable {E:Env}{G:aV}{S:ah}{a:Act}{w:World}{o:Oper}{K:FV->Prop}
def Yields (E:Env)(G:aV)(a:Act)(w:World)(o:Oper)(K:FV->Prop):Prop:=∃v x w',(execOp a.eval o).run E.C.P w=.ok (.value v) w'/\K x/\Below w.heap.size w w'/\aQ {G with aZ:=λb o=>G.aZ b o\/(w.heap.size<=b/\b<w'.heap.size)} w' v x
theorem Yields.same {v:Value}{x:FV}(h:(execOp a.eval o).run E.C.P w=.ok (.value v) w)(hk:K x)(hr:aQ G w v x):Yields E G a w o K:=⟨v,x,w,h,hk,Below.refl _ _,hr.keep (λ_ _ h=>.inl h) (λ_ _ _ _ h=>h) (.refl _ _) (λ_ _ h=>h) (λ_ _ h=>h)⟩
theorem qI {op:BinOp}{t yt:TypeId}{x y:Operand}{p q:Option Addr}{b:Bool}(ho:o.op=.binOp op t x y yt)(ex:a.eval x=.pointer p)(ey:a.eval y=.pointer q)(hq:(Op.equal t (.pointer p) (.pointer q)).run E.C.P w=.ok b w)(h:(op=.eql/\K (.p (.bool b)))\/(op=.neq/\K (.p (.bool (!b))))):Yields E G a w o K:=by
 have hg:∀op,(eqGuard op t x y (.pointer p) (.pointer q)).run E.C.P w=.ok () w:=by intro op;unfold eqGuard;split<;>simp
 rcases h with⟨rfl,h⟩|⟨rfl,h⟩;exact Yields.same (by simp[execOp,ho,ex,ey,hg,binOp,hq]) h (.p _ _ (.bool _));exact Yields.same (by simp[execOp,ho,ex,ey,hg,binOp,hq]) h (.p _ _ (.bool _))
theorem fL.iface {P:Program}{t:TypeId}{a b:Nat}{z:List Value}(h:fL P t ⟨a,b,.iface,z⟩):∃ms,P.underlying t=some (.interface ms):=by obtain⟨d,h1,h2⟩:=h.yL;cases d<;>simp[shapeOf]at h2;simp_all
theorem Ka {P:Program}{w:World}{t:TypeId}{ms:Array (String×TypeId)}(d:Nat)(v:Value)(b:Bool)(h:P.underlying t=some (.interface ms))(hv:v=.nilIface/\b=true\/(∃u x,v=.iface u x)/\b=false):(Op.equalIn (d+1) t v .nilIface).run P w=.ok b w:=by rcases hv with⟨rfl,rfl⟩|⟨⟨u,x,rfl⟩,rfl⟩<;>simp[Op.equalIn,run_underlying h]
theorem Py {P:Program}{w:World}{t:TypeId}{ms:Array (String×TypeId)}(v:Value)(b:Bool)(h:P.underlying t=some (.interface ms))(hv:v=.nilIface/\b=true\/(∃u x,v=.iface u x)/\b=false):(Op.equal t v .nilIface).run P w=.ok b w:=Ka 9999 v b h hv
theorem Pz (hs:bp E G S a w){op:BinOp}{t yt:TypeId}{x y:Operand}(ho:o.op=.binOp op t x y yt)(hy:MI y=true)(h:Bf E.C t op (S.val x) K):Yields E G a w o K:=by
 have hx:=aQ.val hs x;generalize S.val x=vx at h hx;generalize hex:a.eval x=v at hx;unfold MI at hy;split at hy;have ey:a.eval (.const .nilIface)=.nilIface:=rfl;have key:∀(b:Bool),(v=.nilIface/\b=true\/(∃u x,v=.iface u x)/\b=false)->(∃ms,E.C.P.underlying t=some (.interface ms))->((op=.eql/\K (.p (.bool b)))\/(op=.neq/\K (.p (.bool (!b)))))->Yields E G a w o K:=λb hv ⟨ms,hm⟩ hk=>by
  have hq:(Op.equal t v .nilIface).run E.C.P w=.ok b w:=Py v b hm hv;have hg:(eqGuard op t x (.const .nilIface) v .nilIface).run E.C.P w=.ok () w:=by rcases hv with⟨rfl,rfl⟩|⟨⟨u,z,rfl⟩,rfl⟩;unfold eqGuard;simp_all;unfold eqGuard;simp_all
  rcases hv with⟨rfl,rfl⟩|⟨⟨u,z,rfl⟩,rfl⟩;rcases hk with⟨rfl,hk⟩|⟨rfl,hk⟩;exact Yields.same (by simp[execOp,ho,hex,ey,hg,binOp,hq]) hk (.p _ _ (.bool _));exact Yields.same (by simp[execOp,ho,hex,ey,hg,binOp,hq]) hk (.p _ _ (.bool _));rcases hk with⟨rfl,hk⟩|⟨rfl,hk⟩;exact Yields.same (by simp[execOp,ho,hex,ey,hg,binOp,hq]) hk (.p _ _ (.bool _));exact Yields.same (by simp[execOp,ho,hex,ey,hg,binOp,hq]) hk (.p _ _ (.bool _))
 unfold Bf at h;split at h;rename_i ht;have hm:=(E.C.ok ht).iface;have ajW:aQ G w v (.p .rW)->v=.nilIface:=λh=>by
  cases h with
  |p _ _ h=>cases h;rfl
 have akr:∀{u:TypeId}{z:AV},aQ G w v (.p (.iface u z))->∃u x,v=.iface u x:=λh=>by
  cases h with
  |p _ _ h=>cases h;simp_all
 grind;simp_all;simp_all
theorem PA {P:Program}{w:World}{t e:TypeId}(a:Option Addr)(n c:Nat)(h:P.underlying t=some (.slice e)):(Op.equal t (.slice a n c) (.slice none 0 0)).run P w=.ok a.isNone w:=by
 have :∀d,(Op.equalIn (d+1) t (.slice a n c) (.slice none 0 0)).run P w=.ok a.isNone w:=λd=>by cases a<;>simp[Op.equalIn,run_underlying h]
 exact this 9999
theorem PB (hs:bp E G S a w){op:BinOp}{t yt:TypeId}{x y:Operand}(ho:o.op=.binOp op t x y yt)(hy:MJ y=true)(h:MK E.C t op (S.val x) K):Yields E G a w o K:=by
 have hx:=aQ.val hs x;generalize S.val x=vx at h hx;generalize hex:a.eval x=v at hx;unfold MJ at hy;split at hy;have ey:a.eval (.const (.slice none 0 0))=.slice none 0 0:=rfl;have key:∀(ad:Option Addr)(n c:Nat),v=.slice ad n c->(∃e,E.C.P.underlying t=some (.slice e))->((op=.eql/\K (.p (.bool ad.isNone)))\/(op=.neq/\K (.p (.bool (!ad.isNone)))))->Yields E G a w o K:=λad n c hv ⟨e,hm⟩ hk=>by
  subst hv;have hq:(Op.equal t (.slice ad n c) (.slice none 0 0)).run E.C.P w=.ok ad.isNone w:=PA ad n c hm;have hg:(eqGuard op t x (.const (.slice none 0 0)) (.slice ad n c) (.slice none 0 0)).run E.C.P w=.ok () w:=by unfold eqGuard;split<;>simp
  rcases hk with⟨rfl,hk⟩|⟨rfl,hk⟩;exact Yields.same (by simp[execOp,ho,hex,ey,hg,binOp,hq]) hk (.p _ _ (.bool _));exact Yields.same (by simp[execOp,ho,hex,ey,hg,binOp,hq]) hk (.p _ _ (.bool _))
 unfold MK at h;split at h;rename_i ht;have hm:=(E.C.ok ht).slice;split at h;obtain⟨n,c,b,rfl,-⟩:=hx.Gz;grind;split at h;simp_all;rename_i xs hxs;obtain⟨ad,c,rfl,-,hne⟩:=(hx.elems hxs).kS;have hsome:xs≠[]->ad.isNone=false:=λhn=>by grind
 split at h;exact key _ _ _ rfl ⟨_,hm⟩ (.inl ⟨rfl,h.out _ hsome⟩);exact key _ _ _ rfl ⟨_,hm⟩ (.inr ⟨rfl,h.out _ λhn=>by simp_all⟩);simp_all;simp_all;simp_all
theorem PC (hs:bp E G S a w){op:BinOp}{t yt:TypeId}{x y:Operand}{vx vy:FV}(ho:o.op=.binOp op t x y yt)(hx:aQ G w (a.eval x) vx)(hy:aQ G w (a.eval y) vy)(h:DX E.C t op vx vy K):Yields E G a w o K:=by
 unfold DX at h;split at h;simp_all;rename_i i hi;have hok:=E.C.ok hi;split at h;rename_i xs ys hagg hxs hys;obtain⟨L,hL,hg,f1,f2,h⟩:=h;have ha:gJ E.C.P t=true:=by rw[hok.gJ,hagg]
 have e1:a.eval x=tv true xs:=sX (hx.fe hxs) (agg:=true) (L:=L) f1;have e2:a.eval y=tv true ys:=sX (hy.fe hys) (agg:=true) (L:=L) f2;have hq:(Op.equal t (tv true xs) (tv true ys)).run E.C.P w=.ok (sameAs xs ys) w:=by have :=(Ef (P:=E.C.P) 40).1 t L Op.maxDepth w xs ys dD hL f1 f2;rw[ha]at this;exact this
 have hg':(eqGuard op t x y (tv true xs) (tv true ys)).run E.C.P w=.ok () w:=by unfold eqGuard;simp only[tv];split<;>simp[hg]
 simp only[tv]at e1 e2 hq hg';cases op<;>simp only at h<;>first|exact h.elim|(exact Yields.same (by simp[execOp,ho,e1,e2,hg',binOp,hq];rfl) (h.out _ rfl) (.p _ _ (.bool _)))|(exact Yields.same (by simp[execOp,ho,e1,e2,hg',binOp,hq]) (h.out _ rfl) (.p _ _ (.bool _)))
 simp_all
theorem agz (k:IntKind)(x y:Int):Op.intBits .and k x y=pure (.int k (yh .and k x y)):=rfl
theorem aid (k:IntKind)(x y:Int):Op.intBits .or k x y=pure (.int k (yh .or k x y)):=rfl
theorem Zy (k:IntKind)(x y:Int):Op.intBits .xor k x y=pure (.int k (yh .xor k x y)):=rfl
theorem WI (k:IntKind)(x y:Int):Op.intBits .andNot k x y=pure (.int k (yh .andNot k x y)):=rfl
theorem SO (hs:bp E G S a w){op:BinOp}{t yt:TypeId}{x y:Operand}(ho:o.op=.binOp op t x y yt)(h:GY E.C t op (S.val x) (S.val y) K):Yields E G a w o K:=by
 have hx:=aQ.val hs x;have hy:=aQ.val hs y;generalize S.val x=vx at h hx;generalize S.val y=vy at h hy;unfold GY at h;split at h
 ·rename_i k m k' n;split at h;have ex:=hx.fJ;have ey:=hy.fJ;have hg:(eqGuard op t x y (.int k m) (.int k' n)).run E.C.P w=.ok () w:=by unfold eqGuard;split<;>simp
  cases op<;>simp only[BW]at h<;>first
   |exact h.elim
   |
    (
     obtain⟨hn,c,rfl,h⟩:=h;have hn':¬n<0:=oO
     exact Yields.same (by simp[execOp,ho,ex,ey,hg,binOp,Op.shift,hn']) h (.p _ _ (.int _ _)))
  rename_i SP;split at h;case h_2=>simp_all
  rename_i hk;obtain rfl:=rI hk;have ex:=hx.fJ;have ey:=hy.fJ;have hg:(eqGuard op t x y (.int k m) (.int k n)).run E.C.P w=.ok () w:=by unfold eqGuard;split<;>simp
  cases op<;>simp only[Pd]at h<;>first|exact h.elim|(obtain⟨c,rfl,h⟩:=h;exact Yields.same (by simp[execOp,ho,ex,ey,hg,binOp,Op.intArith,agz,aid,Zy,WI]) h (.p _ _ (.int _ _)))|(obtain⟨hn,c,rfl,h⟩:=h;exact Yields.same (by simp[execOp,ho,ex,ey,hg,binOp,Op.intDiv,hn]) h (.p _ _ (.int _ _)))|(exact Yields.same (by simp[execOp,ho,ex,ey,hg,binOp,Op.intCmp]) (h.out _ rfl) (.p _ _ (.bool _)))
 rename_i s r;have ex:=hx.jD;have ey:=hy.jD;have hg:(eqGuard op t x y (.string ⟨s.toArray⟩) (.string ⟨r.toArray⟩)).run E.C.P w=.ok () w:=by unfold eqGuard;split<;>simp
 have l1:(⟨s.toArray⟩:ByteArray).toList=s:=by simp[ByteArray.toList_eq]
 have l2:(⟨r.toArray⟩:ByteArray).toList=r:=by simp[ByteArray.toList_eq]
 cases op<;>simp only[Pe]at h<;>first
  |exact h.elim
  |
   (
    obtain⟨hlen,h⟩:=h;have hlen':¬(((⟨s.toArray⟩:ByteArray).size+(⟨r.toArray⟩:ByteArray).size:Nat):Int)>IntKind.i64.max:=by
     have h1:(⟨s.toArray⟩:ByteArray).size=s.length:=by simp[ByteArray.size]
     have h2:(⟨r.toArray⟩:ByteArray).size=r.length:=by simp[ByteArray.size]
     rw[h1,h2];simp only[IntKind.max,IntKind.signed,IntKind.bits,if_true];omega
    have aks:(⟨s.toArray⟩:ByteArray)++⟨r.toArray⟩=⟨(s++r).toArray⟩:=by apply ByteArray.ext;simp
    exact Yields.same (v:=.string ⟨(s++r).toArray⟩) (by simp only[execOp,ho,ex,ey,hg,binOp,Op.stringOp,hlen',aks,Sem.run_bind,Result.andThen_ok,if_false,Sem.run_pure]) h (.p _ _ (.str _)))
  |(exact Yields.same (by simp[execOp,ho,ex,ey,hg,binOp,Op.stringOp,l1,l2];rfl) (h.out _ rfl) (.p _ _ (.bool _)))
  |(exact Yields.same (by simp[execOp,ho,ex,ey,hg,binOp,Op.stringOp,l1,l2]) (h.out _ rfl) (.p _ _ (.bool _)))
 rename_i ob off;generalize hex:a.eval x=vx at hx;generalize hey:a.eval y=vy at hy;obtain rfl:=hy.Hu;cases hx with
 |ptr _ _ b gb=>split at h;rename_i ht;exact qI ho hex hey (pR _ (E.C.ok ht).ptr) (.inl ⟨rfl,h⟩);rename_i ht;exact qI ho hex hey (pR _ (E.C.ok ht).ptr) (.inr ⟨rfl,h⟩);simp_all
 have hex:=hx.Hu;have hey:=hy.Hu;split at h;rename_i ht;exact qI ho hex hey (pR _ (E.C.ok ht).ptr) (.inl ⟨rfl,h⟩);rename_i ht;exact qI ho hex hey (pR _ (E.C.ok ht).ptr) (.inr ⟨rfl,h⟩);simp_all;rename_i ob off ob' off';generalize hex:a.eval x=vx at hx;generalize hey:a.eval y=vy at hy;cases hx with
 |ptr _ _ b gb=>
  cases hy with
  |ptr _ _ b' AO=>split at h;rename_i h1 h2 ht;obtain rfl:=aK h1;obtain rfl:=aK h2;rw[gb]at AO;obtain rfl:=an AO;split at h;rename_i he;exact qI ho hex hey (xU _ (E.C.ok ht).ptr (E.C.ok he)) (.inl ⟨rfl,h⟩);simp_all;rename_i h1 h2 ht;obtain rfl:=aK h1;obtain rfl:=aK h2;rw[gb]at AO;obtain rfl:=an AO;split at h;rename_i he;exact qI ho hex hey (xU _ (E.C.ok ht).ptr (E.C.ok he)) (.inr ⟨rfl,h⟩);simp_all;simp_all
 rename_i b c;have ex:=hx.nt;have ey:=hy.nt;have hg:(eqGuard op t x y (.bool b) (.bool c)).run E.C.P w=.ok () w:=by unfold eqGuard;split<;>simp
 split at h;rename_i ht;have hu:=(E.C.ok ht).bool;have hq:(Op.equal t (.bool b) (.bool c)).run E.C.P w=.ok (b==c) w:=run_equal_bool w t b c hu;cases op<;>simp only at h<;>first|exact h.elim|(exact Yields.same (by simp[execOp,ho,ex,ey,hg,binOp,hq];rfl) (h.out _ rfl) (.p _ _ (.bool _)))|(exact Yields.same (by simp[execOp,ho,ex,ey,hg,binOp,hq]) (h.out _ rfl) (.p _ _ (.bool _)))
 simp_all;exact PC hs ho hx hy h
theorem Hv (hs:bp E G S a w){t:TypeId}{pv:Value}{vx:FV}(hne:∀o b off,vx≠.ic o b off)(hx:aQ G w pv vx)(h:nh E.C S.aJ t vx K):∃ad v x,pv=.pointer (some ad)/\(loadVar t ad).run E.C.P w=.ok v w/\K x/\aQ G w v x:=by
 unfold nh at h;split at h;simp_all;rename_i i hi;have hok:=E.C.ok hi;split at h;rename_i ob off;obtain⟨b,hv,gb⟩:=hx.oG;split at h;simp_all;rename_i cells hcells;obtain⟨b',hb',hc⟩:=hs.aJ _ _ hcells;obtain rfl:b'=b:=by simp_all
 split at h;rename_i hagg;split at h;simp_all;rename_i cs hcs;rw[nk]at hcs;obtain⟨rfl,hle⟩:=wA hcs;rw[cL]at hle;have vg:∀j,j<i.size->∃c x,w.cell? ⟨b',off+j,none⟩=some c/\cells[off+j]?=some x/\aQ G w c x:=λj hj=>by grind
 let f:Nat->Value:=λj=>(w.cell? ⟨b',off+j,none⟩).getD undef;have hf:∀j,j<i.size->w.cell? ((⟨b',off,none⟩:Addr).add j)=some (f j):=λj hj=>by obtain⟨c,x,h1,-⟩:=vg j hj;rw[Addr.add_lit];grind
 have hrun:=run_loadCells (P:=E.C.P) w ⟨b',off,none⟩ i.size f hf;refine⟨_,.agg ((List.range i.size).map f).toArray,_,hv,by simp[loadVar,hok.isAgg,hagg,hok.sizeOf,hrun],h,?_⟩;refine .agg _ _ (by simp_all) λj c x hj hx=>?_;grind;rename_i hagg;split at h;simp_all;rename_i y ys hys;have hy:=lV hys;obtain⟨c,h1,h2⟩:=hc off y hy;exact⟨_,_,_,hv,by simp[loadVar,hok.isAgg,hagg,h1],h,h2⟩;rename_i xs;obtain⟨b,off,hv,hc⟩:=hx.plain.Cm;split at h;rename_i hagg;split at h;simp_all;rename_i cs hcs;obtain⟨rfl,hle⟩:=Bi hcs;have vg:∀j,j<i.size->∃c x,w.cell? ⟨b,off+j,none⟩=some c/\xs[j]?=some x/\x.one=true/\cZ G.aZ w c x:=λj hj=>by
  have hl:j<xs.length:=oO
  obtain⟨c,h0,h1,-,h2⟩:=hc j _ (aq hl);simp_all
 let f:Nat->Value:=λj=>(w.cell? ⟨b,off+j,none⟩).getD undef;have hf:∀j,j<i.size->w.cell? ((⟨b,off,none⟩:Addr).add j)=some (f j):=λj hj=>by obtain⟨c,x,h1,-⟩:=vg j hj;rw[Addr.add_lit];grind
 have hrun:=run_loadCells (P:=E.C.P) w ⟨b,off,none⟩ i.size f hf;refine⟨_,.agg ((List.range i.size).map f).toArray,_,hv,by simp[loadVar,hok.isAgg,hagg,hok.sizeOf,hrun],h,?_⟩;refine .p _ _ (.agg _ _ (by simp_all) (λx hx=>?_) λj c x hj hx=>?_);obtain⟨j,hj⟩:=List.mem_iff_getElem?.1 hx;grind;grind;rename_i hagg;split at h;simp_all;rename_i y ys;obtain⟨c,h0,h1,-,h2⟩:=hc 0 y rfl;exact⟨_,_,_,hv,by simp at h1;simp[loadVar,hok.isAgg,hagg,h1],h,.p _ _ h2⟩;simp_all;simp_all
theorem aQ.yM {v:Value}{o base off:Nat}(h:aQ G w v (.ic o base off)):aQ G w v (.ptr o (base+off)):=by
 cases h with
 |ic _ _ _ b h=>exact .ptr o (base+off) b h
theorem PD {A ys B:List FV}{base off:Nat}(hA:A.length=base)(h:off<=ys.length):(A++(ys++B)).drop (base+off)=ys.drop off++B:=by rw[List.drop_append,hA,show base+off-base=off by omega,Cn (show A.length<=base+off by omega),jU,Co h]
theorem Zz {n:Nat}{xs:List FV}(h:n<=xs.length):takeN n xs=some (xs.take n):=by
 induction n generalizing xs with
 |zero=>rfl
 |succ n ih=>
  cases xs with
  |nil=>grind
  |cons x xs=>simp only[takeN,ih (by simpa using h),Cp]
theorem KS (hs:bp E G S a w){t:TypeId}{pv:Value}{vx:FV}(hx:aQ G w pv vx)(h:nh E.C S.aJ t vx K):∃ad v x,pv=.pointer (some ad)/\(loadVar t ad).run E.C.P w=.ok v w/\K x/\aQ G w v x:=by
 by_cases hne:∀o b off,vx≠.ic o b off;exact Hv hs hne hx h;have :∃o b off,vx=.ic o b off:=by cases vx<;>first|exact⟨_,_,_,rfl⟩|exact absurd (λ_ _ _ e=>by cases e) hne
 obtain⟨o,base,off,rfl⟩:=this;refine Hv hs (λ_ _ _ e=>by grind) hx.yM ?_;unfold nh at h⊢;split at h;omega;rename_i i hi;simp only at h⊢;split at h;omega;rename_i cells hc;obtain⟨A,ys,B,hcells,hA,h⟩:=h;split at h;rename_i hagg;split at h;simp_all;rename_i cs hcs;rw[nk]at hcs⊢;obtain⟨rfl,hle⟩:=wA hcs;rw[cL]at hle;have :takeN i.size ((A++(ys++B)).drop (base+off))=some ((ys.drop off).take i.size):=by
  by_cases hl:off<=ys.length;rw[PD hA hl,Zz (by grind),nI (by simp_all)];have h0:i.size=0:=oO
  rw[h0];rfl
 simp_all;rename_i hagg;split at h;simp_all;rename_i y zs hzs;rw[nk]at hzs⊢;have hl:off<=ys.length:=by have :=aS List.length hzs;simp at this;omega
 rw[hcells,PD hA hl,hzs];grind
theorem PE (hs:bp E G S a w){t:TypeId}{x:Operand}(ho:o.op=.load t x)(h:nh E.C S.aJ t (S.val x) K):Yields E G a w o K:=by obtain⟨ad,v,y,h1,h2,h3,h4⟩:=KS hs (aQ.val hs x) h;exact Yields.same (by simp[execOp,ho,h1,Instr.loadAt,Instr.sureAddr,h2]) h3 h4
end
section
variable {E:Env}{G:aV}{S:ah}{a:Act}{w:World}{o:Oper}{K:FV->Prop}
theorem PF (hs:bp E G S a w){c x y:Operand}(ho:o.op=.pick c x y)(h:match S.val c with|.p (.bool true)=>force (S.val x) K|.p (.bool false)=>force (S.val y) K|_=>False):Yields E G a w o K:=by have hc:=aQ.val hs c;generalize S.val c=vc at h hc;split at h;rw[force_eq]at h;exact Yields.same (by simp[execOp,ho,hc.nt,asBool]) h (aQ.val hs x);rw[force_eq]at h;exact Yields.same (by simp[execOp,ho,hc.nt,asBool]) h (aQ.val hs y);simp_all
theorem PG (hs:bp E G S a w){op:UnOp}{t:TypeId}{x:Operand}(ho:o.op=.unOp op t x)(h:SB op (S.val x) K):Yields E G a w o K:=by
 have hx:=aQ.val hs x;generalize S.val x=vx at h hx;have hd:(op=.not/\∃b,vx=.p (.bool b)/\(Al λt:Bool=>t=!b->K (.p (.bool t))))\/(op=.neg/\∃k n,vx=.p (.int k n)/\∃c,k.wrap (0-n)=c/\K (.p (.int k c)))\/(op=.xor/\∃k n,vx=.p (.int k n)/\∃c,yh .xor k (match k.signed with|true=>-1|false=>k.max) n=c/\K (.p (.int k c))):=by unfold SB at h;split at h;simp_all;grind;grind;simp_all
 rcases hd with⟨rfl,b,rfl,h⟩|⟨rfl,k,n,rfl,c,rfl,h⟩|⟨rfl,k,n,rfl,c,rfl,h⟩;have ex:=hx.nt;exact Yields.same (v:=.bool !b) (by simp[execOp,ho,ex,Op.unary]) (h.out _ rfl) (.p _ _ (.bool _));have ex:=hx.fJ;exact Yields.same (v:=.int k (k.wrap (0-n))) (by simp[execOp,ho,ex,Op.unary,Op.intArith]) h (.p _ _ (.int _ _));have ex:=hx.fJ;refine Yields.same (v:=.int k (yh .xor k (match k.signed with|true=>-1|false=>k.max) n)) ?_ h (.p _ _ (.int _ _));have e:(if k.signed=true then(-1:Int)else k.max)=(match k.signed with|true=>-1|false=>k.max):=by cases k.signed<;>rfl
 simp[execOp,ho,ex,Op.unary,Zy,e]
theorem foldl_push (bs:List UInt8):∀(r:ByteArray),(bs.map λb=>(b.toNat:Int)).foldl (λr n=>r.push (UInt8.ofNat n.toNat)) r=⟨r.data++bs.toArray⟩:=by
 induction bs with
 |nil=>simp_all
 |cons b bs ih=>simp_all
theorem Hw (hs:bp E G S a w){src dst:TypeId}{x:Operand}(ho:o.op=.convert src dst x)(h:SC E.C src dst (S.val x) K):Yields E G a w o K:=by
 have hx:=aQ.val hs x;generalize S.val x=vx at h hx;unfold SC at h;split at h;simp_all;rename_i a0 b0 sh z0 hi;obtain⟨d,hd,hsh⟩:=(E.C.ok hi).yL;split at h;rename_i hd';have hu:=(E.C.ok hd').int;split at h;have ex:=hx.fJ;obtain⟨c,rfl,h⟩:=h;exact Yields.same (by simp[execOp,ho,ex,convert,run_underlying hd,run_underlying hu,Conv.intToInt]) h (.p _ _ (.int _ _));simp_all;rename_i hd';have hu:=(E.C.ok hd').str;split at h;have ex:=hx.jD;exact Yields.same (by simp[execOp,ho,ex,convert,run_underlying hd,run_underlying hu]) h (.p _ _ (.str _));have ex:=hx.fJ;obtain⟨c,rfl,hc,h⟩:=h;have WJ:Utf8.encode (c.toNat:Int)=⟨#[c]⟩:=by
  have hv:Utf8.valid (c.toNat:Int)=true:=by simp[Utf8.valid];omega
  unfold Utf8.encode;simp only[hv,if_true,lW,hc];simp
 refine Yields.same (v:=.string ⟨[c].toArray⟩) ?_ h (.p _ _ (.str _));simp[execOp,ho,ex,convert,run_underlying hd,run_underlying hu,Conv.intToString,WJ];unfold UW at h;split at h;rename_i e xs hxs;split at h;rename_i by0 z1 he;obtain⟨bs,rfl,h⟩:=h;have hse:=(E.C.ok hi).slice;have hue:=(E.C.ok he).int;obtain⟨ad,c,hv,hcap,hne⟩:=(hx.elems hxs).kS;have hl:(bs.map λb=>[AV.int .u8 (b.toNat:Int)]).length=bs.length:=by simp
 rw[hl]at hv;refine Yields.same (v:=.string ⟨bs.toArray⟩) ?_ h (.p _ _ (.str _));have hrun:(Conv.bytesToString (.slice ad bs.length c)).run E.C.P w=.ok (.string ⟨bs.toArray⟩) w:=by
  by_cases h0:bs=[];subst h0;cases ad with
  |none=>rfl
  |some ad=>rfl
  obtain⟨b,off,bN,cell,rfl,g1,g2⟩:=hne (by simp_all);have hpos:0<bs.length:=je.2 h0;have he1:bN=1:=(g1 0 [AV.int .u8 (bs[0].toNat:Int)] (by grind)).symm;subst he1;have hcell:∀q,q<bs.length->w.cell? ((⟨b,off,none⟩:Addr).add q)=some (((bs.map λb=>(b.toNat:Int))[q]?).elim undef (Value.int .u8)):=λq hq=>by obtain⟨-,g3,-,g4⟩:=g2 q [AV.int .u8 (bs[q].toNat:Int)] 0 _ (by grind) rfl;rw[Addr.add_lit,show off+q=off+q*1+0 from oO,g3];generalize cell q 0=cc at g4;cases g4;grind
  have :=run_loadCells (P:=E.C.P) w ⟨b,off,none⟩ bs.length _ hcell;have aie:(loadCells ⟨b,off,none⟩ bs.length).run E.C.P w=.ok ((bs.map λb=>(b.toNat:Int)).map (Value.int .u8)).toArray w:=by rw[this];congr 1;apply iH.1;apply fP;intro q;by_cases hq:q<bs.length;grind;grind
  rw[run_bytesToString w _ _ _ _ aie,foldl_push];congr 2;simp
 simp[execOp,ho,hv,run_convert_bytes_string w src dst e ad bs.length c hse hue hu,hrun];simp_all;simp_all;simp_all
theorem yN (hs:bp E G S a w){t:TypeId}{x:Operand}(ho:o.op=.makeInterface t x)(h:match bP E.C.js t with
 |some ⟨_,_,.iface,_⟩=>False
 |some _=>match(S.val x).fe with|some y=>K (.p (.iface t y))|none=>False
 |none=>False):Yields E G a w o K:=by
 have hx:=aQ.val hs x;generalize S.val x=vx at h hx;split at h;simp_all;rename_i i hne hi;obtain⟨d,hd,hsh⟩:=(E.C.ok hi).yL;split at h;rename_i y hy;have hr:=hx.fe hy;refine Yields.same (v:=.iface t (a.eval x)) ?_ h (.p _ _ (.iface _ _ _ hr));cases d<;>first|(simp[execOp,ho,Instr.makeInterface,run_underlying hd];done)|(exfalso;obtain⟨s,b,sh,z⟩:=i;simp only[shapeOf]at hsh;simp_all)
 simp_all;simp_all
theorem xV (hs:bp E G S a w){fn:Fn}{first captured:Array Operand}(ho:o.op=.makeFunc fn first captured)(h:K (.fn fn (first.toList.map S.val) (captured.toList.map S.val))):Yields E G a w o K:=by
 refine Yields.same (v:=.func fn (first.toList.map a.eval).toArray (captured.toList.map a.eval).toArray) ?_ h (.fn fn _ _ _ _ (by simp) (by simp) (λi c x hc hx=>?_) (λi c x hc hx=>?_));simp[execOp,ho,Instr.makeFunc,<-Cq];rw[aM]at hc hx;cases h0:first.toList[i]?with
 |none=>simp_all
 |some y=>simp[h0]at hc hx;subst hc;subst hx;exact aQ.val hs y
 rw[aM]at hc hx;cases h0:captured.toList[i]?with
 |none=>simp_all
 |some y=>simp[h0]at hc hx;subst hc;subst hx;exact aQ.val hs y
theorem Gh (hs:bp E G S a w){x:Operand}(ho:o.op=.nilCheck x)(h:match S.val x with|.ptr b off=>K (.ptr b off)|.p (.imp xs)=>K (.p (.imp xs))|.ic o base off=>K (.ic o base off)|.p (.fn (.func f) a b)=>K (.p (.fn (.func f) a b))|.fn (.func f) a b=>K (.fn (.func f) a b)|_=>False):Yields E G a w o K:=by have hx:=aQ.val hs x;generalize S.val x=vx at h hx;split at h;obtain⟨b,hv,-⟩:=hx.oG;exact Yields.same (by simp[execOp,ho,hv]) h (hv▸hx);obtain⟨b,off,hv,-⟩:=hx.plain.Cm;exact Yields.same (by simp[execOp,ho,hv]) h (hv▸hx);obtain⟨b,hv,-⟩:=hx.yM.oG;exact Yields.same (by simp[execOp,ho,hv]) h (hv▸hx);have h1:=hx.plain;generalize hv:a.eval x=v at hx h1;cases h1;exact Yields.same (by simp[execOp,ho,hv]) h hx;generalize hv:a.eval x=v at hx;have hx':=hx;cases hx';exact Yields.same (by simp[execOp,ho,hv]) h hx;simp_all
theorem tq {P:Program}{w:World}{b off:Nat}{g:Field}{n:Nat}(h:(Go.sizeOf g.type).run P w=.ok n w)(hn:n≠0):(fieldPlace ⟨b,off,none⟩ g).run P w=.ok ⟨b,off+g.offset,none⟩ w:=by simp[fieldPlace,h,hn,Addr.add_lit]
theorem Eh (hs:bp E G S a w){s:TypeId}{x:Operand}{f:Nat}(ho:o.op=.fieldAddr s x f)(h:ni E.C s (S.val x) f K):Yields E G a w o K:=by have hx:=aQ.val hs x;generalize S.val x=vx at h hx;unfold ni at h;split at h;rename_i hi;split at h;simp_all;rename_i off' t r hd;obtain⟨gs,g,h1,h2,h3,h4⟩:=(E.C.ok hi).field hd;split at h;simp_all;rename_i j hj;split at h;simp_all;rename_i n hn;have hsz:=(E.C.ok hj).sizeOf w;rw[<-h4]at hsz;split at h;rename_i b0 off;obtain⟨b,hv,hl⟩:=hx.oG;refine Yields.same (v:=.pointer (some ⟨b,off+off',none⟩)) ?_ h (.ptr _ _ _ hl);simp[execOp,ho,hv,Instr.fieldAt,run_underlying h1,h2,Instr.sureAddr,tq hsz oO,h3];rename_i xs;obtain⟨b,off,hv,hc⟩:=hx.plain.Cm;refine Yields.same (v:=.pointer (some ⟨b,off+off',none⟩)) ?_ h (.p _ _ (cZ.SN λk y hy=>?_));simp[execOp,ho,hv,Instr.fieldAt,run_underlying h1,h2,Instr.sureAddr,tq hsz oO,h3];rw[nk,lS]at hy;grind;rename_i b0 base off;obtain⟨b,hv,hl⟩:=hx.yM.oG;refine Yields.same (v:=.pointer (some ⟨b,base+(off+off'),none⟩)) ?_ h (.ic _ _ _ _ hl);simp[execOp,ho,hv,Instr.fieldAt,run_underlying h1,h2,Instr.sureAddr,tq hsz oO,h3,gj];simp_all;simp_all
theorem Cr {P:Program}{w:World}{t:TypeId}{i:jL}(hok:fL P t i)(hagg:i.shape.isAgg=true)(cs:Array Value)(off:Nat):(part t cs off).run P w=.ok (.agg (cs.extract off (off+i.size))) w:=by simp[part,hok.isAgg,hagg,hok.sizeOf]
theorem Cs {P:Program}{w:World}{t:TypeId}{i:jL}(hok:fL P t i)(hagg:i.shape.isAgg=false)(cs:Array Value)(off:Nat)(v:Value)(hv:cs[off]?=some v):(part t cs off).run P w=.ok v w:=by simp[part,hok.isAgg,hagg,hv]
theorem MW (hs:bp E G S a w){s:TypeId}{x:Operand}{f:Nat}(ho:o.op=.field s x f)(h:wg E.C s (S.val x) f K):Yields E G a w o K:=by
 have hx:=aQ.val hs x;generalize S.val x=vx at h hx;unfold wg at h;split at h;rename_i hi;split at h;simp_all;rename_i off' t r hd;obtain⟨gs,g,h1,h2,h3,h4⟩:=(E.C.ok hi).field hd;split at h;simp_all;rename_i j hj;have hok:=E.C.ok hj;subst h3;subst h4;split at h;rename_i xs;generalize hv:a.eval x=v at hx;cases hx with
 |agg cs xs hl hc=>
  split at h;rename_i hagg;split at h;rename_i ys hys;rw[nk]at hys;obtain⟨rfl,hle⟩:=wA hys;refine Yields.same (v:=.agg ((cs.drop g.offset).take j.size).toArray) ?_ h (.agg _ _ (by grind) λk c y hk hy=>?_);have e1:cs.toArray.extract g.offset (g.offset+j.size)=((cs.drop g.offset).take j.size).toArray:=by simp[wB,wC]
  simp[execOp,ho,hv,Instr.field,run_underlying h1,h2,asAgg,Cr hok hagg,e1];grind;simp_all;rename_i hagg;split at h;rename_i y ys hys;have hy:=lV hys;have hlt:g.offset<cs.length:=by rw[hl];exact(aC.1 hy).1
  refine Yields.same (v:=cs[g.offset]) ?_ h (hc _ _ _ (aq hlt) hy);simp[execOp,ho,hv,Instr.field,run_underlying h1,h2,asAgg,Cs hok hagg cs.toArray g.offset cs[g.offset] (by simp_all)];simp_all
 rename_i xs;have hx:=hx.plain;generalize hv:a.eval x=v at hx;cases hx with
 |agg cs xs hl hone hc=>
  split at h;rename_i hagg;split at h;rename_i ys hys;rw[nk]at hys;obtain⟨rfl,hle⟩:=Bi hys;refine Yields.same (v:=.agg ((cs.drop g.offset).take j.size).toArray) ?_ h (.p _ _ (.agg _ _ (by grind) (λz hz=>hone z (Ct (Cu hz))) λk c y hk hy=>?_));have e1:cs.toArray.extract g.offset (g.offset+j.size)=((cs.drop g.offset).take j.size).toArray:=by simp[wB,wC]
  simp[execOp,ho,hv,Instr.field,run_underlying h1,h2,asAgg,Cr hok hagg,e1];grind;simp_all;rename_i hagg;split at h;rename_i y ys hys;have hy:=lV hys;have hlt:g.offset<cs.length:=by rw[hl];exact(aC.1 hy).1
  refine Yields.same (v:=cs[g.offset]) ?_ h (.p _ _ (hc _ _ _ (aq hlt) hy));simp[execOp,ho,hv,Instr.field,run_underlying h1,h2,asAgg,Cs hok hagg cs.toArray g.offset cs[g.offset] (by simp_all)];simp_all
 simp_all;simp_all
theorem gD {P:Program}{w:World}(k:IntKind)(n:Int):(asIntOf (.int k n)).run P w=.ok (k,n) w:=rfl
theorem Ei (hs:bp E G S a w){t:TypeId}{x i:Operand}(ho:o.op=.indexAddr t x i)(h:jk E.C S.aJ t (S.val x) (S.val i) K):Yields E G a w o K:=by
 have hx:=aQ.val hs x;have hi:=aQ.val hs i;generalize S.val x=vx at h hx;generalize S.val i=vi at h hi;unfold jk at h;split at h;rename_i k n;have ei:=hi.fJ;split at h;rename_i e _ ht;have hu:=(E.C.ok ht).slice;split at h;simp_all;rename_i j hj;have hsz:=(E.C.ok hj).sizeOf w;split at h;rename_i ob T bN;split at h;rename_i cells hcells hbe;obtain⟨m,base,rfl,rfl,hle,h⟩:=h;have hbe:=aK hbe;generalize hv:a.eval x=v at hx;cases hx with
 |fc _ _ _ n c b h1 h2 h3 h4=>
  obtain⟨-,-,h5⟩:=hs.ck _ _ _ _ h1 h2;have h6:=h5 cells hcells;simp only at h6;have hlt:m<n:=by
   rw[h6]at hle;have :(m+1)*bN<=n*bN:=by rw[bD,jT];exact hle
   exact Nat.le_of_mul_le_mul_right this h4
  refine Yields.same (v:=.pointer (some ⟨b,m*bN+0,none⟩)) ?_ h (.ic _ _ _ _ h1);have hin:(0:Int)<=(m:Int)/\(m:Int)<(n:Int):=⟨oO,oO⟩;simp[execOp,ho,ei,hv,Instr.indexAt,gD,run_underlying hu,hin,hsz,Addr.add_lit,hbe]
 simp_all;rename_i ob bx T bN;split at h;rename_i cells hcells hbe;obtain⟨m,base,rfl,rfl,hle,h⟩:=h;have hbe:=aK hbe;generalize hv:a.eval x=v at hx;cases hx with
 |tX _ _ _ _ n c b off h1 h2 h0 h3 h4=>
  obtain⟨-,-,h5⟩:=hs.ck _ _ _ _ h1 h2;have h6:=h5 cells hcells;simp only at h6;have hlt:bx+m<n:=by
   rw[h6]at hle;have :(bx+m+1)*bN<=n*bN:=by rw[bD (bx+m) 1,jT];exact hle
   exact Nat.le_of_mul_le_mul_right this h4
  obtain rfl:=h0.2 oO;refine Yields.same (v:=.pointer (some ⟨b,(bx+m)*bN+0,none⟩)) ?_ h (.ic _ _ _ _ h1);have hin:(0:Int)<=(m:Int)/\(m:Int)<((n-bx:Nat):Int):=⟨oO,oO⟩;have anf:bx*bN+m*bN=(bx+m)*bN:=by rw[bD]
  simp[execOp,ho,ei,hv,Instr.indexAt,gD,run_underlying hu,hin,hsz,Addr.add_lit,hbe];simp_all
 simp_all;split at h;simp_all;rename_i xs hxs;obtain⟨h0,ys,hys,hlen,h⟩:=h;obtain⟨ad,c,hv,hcap,hne⟩:=(hx.elems hxs).kS;have hlt:n.toNat<xs.length:=(aC.1 hys).1;obtain⟨b,off,bN,cell,rfl,h1,h2⟩:=hne (by grind);have ZA:bN=j.size:=(h1 _ _ hys).symm.trans hlen;refine Yields.same (v:=.pointer (some ⟨b,off+n.toNat*bN,none⟩)) ?_ h (.p _ _ (cZ.SN λm y hy=>?_));have hin:0<=n/\n<(xs.length:Int):=⟨h0,oO⟩;simp[execOp,ho,ei,hv,Instr.indexAt,gD,run_underlying hu,hin,hsz,Addr.add_lit,ZA];grind;rename_i len e _ ht;have hu:=(E.C.ok ht).array;split at h;simp_all;rename_i j hj;have hsz:=(E.C.ok hj).sizeOf w;obtain⟨m,rfl,hm,h⟩:=h;have hin:(0:Int)<=(m:Int)/\(m:Int)<(len:Int):=⟨oO,oO⟩;split at h;rename_i b0 off;obtain⟨b,hv,hl⟩:=hx.oG;obtain⟨sym,h⟩:=h;cases sym with
 |true=>obtain⟨base,rfl,h⟩:=h;exact Yields.same (v:=.pointer (some ⟨b,off+m*j.size+0,none⟩)) (by simp[execOp,ho,ei,hv,Instr.indexAt,gD,run_underlying hu,Instr.sureAddr,hin,hsz,Addr.add_lit]) h (.ic _ _ _ _ hl)
 |false=>exact Yields.same (v:=.pointer (some ⟨b,off+m*j.size,none⟩)) (by simp[execOp,ho,ei,hv,Instr.indexAt,gD,run_underlying hu,Instr.sureAddr,hin,hsz,Addr.add_lit]) h (.ptr _ _ _ hl)
 rename_i b0 b1 off;obtain⟨b,hv,hl⟩:=hx.yM.oG;obtain⟨base,rfl,h⟩:=h;refine Yields.same (v:=.pointer (some ⟨b,b1+(off+m*j.size)+0,none⟩)) ?_ h (.ic _ _ _ _ hl);simp[execOp,ho,ei,hv,Instr.indexAt,gD,run_underlying hu,Instr.sureAddr,hin,hsz,Addr.add_lit,gj];rename_i xs;obtain⟨b,off,hv,hc⟩:=hx.plain.Cm;obtain⟨ys,rfl,h⟩:=h;refine Yields.same (v:=.pointer (some ⟨b,off+m*j.size,none⟩)) ?_ h (.p _ _ (cZ.SN λk y hy=>?_));simp[execOp,ho,ei,hv,Instr.indexAt,gD,run_underlying hu,Instr.sureAddr,hin,hsz,Addr.add_lit];rw[nk,lS]at hy;grind;simp_all;simp_all;simp_all
theorem MX (hs:bp E G S a w){t:TypeId}{x i:Operand}(ho:o.op=.index t x i)(h:wh E.C t (S.val x) (S.val i) K):Yields E G a w o K:=by
 have hx:=aQ.val hs x;have hi:=aQ.val hs i;generalize S.val x=vx at h hx;generalize S.val i=vi at h hi;unfold wh at h;split at h;rename_i k n;have ei:=hi.fJ;split at h;rename_i ht;have hu:=(E.C.ok ht).str;split at h;rename_i s;have ex:=hx.jD;obtain⟨h0,c,hc,h⟩:=h;have hlt:=(aC.1 hc).1;have hg:(⟨s.toArray⟩:ByteArray)[n.toNat]?=some c:=by
  have :n.toNat<(⟨s.toArray⟩:ByteArray).size:=by simpa[ByteArray.size]using hlt
  refine(getElem?_pos (⟨s.toArray⟩:ByteArray) n.toNat this).trans ?_;have h2:=aC.1 hc;simpa[ByteArray.getElem_eq_getElem_data]using h2.2
 exact Yields.same (v:=.int .u8 c.toNat) (by simp[execOp,ho,ei,ex,Instr.index,gD,run_underlying hu,h0,hg]) h (.p _ _ (.int _ _));simp_all;rename_i len e _ ht;have hu:=(E.C.ok ht).array;split at h;simp_all;rename_i j hj;have hok:=E.C.ok hj;split at h;rename_i hagg;obtain⟨m,rfl,hm,h⟩:=h;have h0:(0:Int)<=(m:Int):=oO
 split at h;rename_i xs;generalize hv:a.eval x=v at hx;cases hx with
 |agg cs xs hl hc=>
  split at h;rename_i ys hys;rw[nk]at hys;obtain⟨rfl,hle⟩:=wA hys;refine Yields.same (v:=.agg ((cs.drop (m*j.size)).take j.size).toArray) ?_ h (.agg _ _ (by grind) λk c y hk hy=>?_);have e1:cs.toArray.extract (m*j.size) (m*j.size+j.size)=((cs.drop (m*j.size)).take j.size).toArray:=by simp[wB,wC]
  simp[execOp,ho,hv,ei,Instr.index,gD,run_underlying hu,h0,hm,hok.sizeOf,Cr hok hagg,e1];grind;simp_all
 rename_i xs;have hx:=hx.plain;generalize hv:a.eval x=v at hx;cases hx with
 |agg cs xs hl hone hc=>
  split at h;rename_i ys hys;rw[nk]at hys;obtain⟨rfl,hle⟩:=Bi hys;refine Yields.same (v:=.agg ((cs.drop (m*j.size)).take j.size).toArray) ?_ h (.p _ _ (.agg _ _ (by grind) (λz hz=>hone z (Ct (Cu hz))) λk c y hk hy=>?_));have e1:cs.toArray.extract (m*j.size) (m*j.size+j.size)=((cs.drop (m*j.size)).take j.size).toArray:=by simp[wB,wC]
  simp[execOp,ho,hv,ei,Instr.index,gD,run_underlying hu,h0,hm,hok.sizeOf,Cr hok hagg,e1];grind;simp_all
 simp_all;rename_i hagg;obtain⟨m,rfl,hm,h⟩:=h;have h0:(0:Int)<=(m:Int):=oO
 have h1:(m:Int)<(len:Int):=oO
 split at h;rename_i xs;generalize hv:a.eval x=v at hx;cases hx with
 |agg cs xs hl hc=>
  split at h;rename_i y ys hys;have hy:=lV hys;have hlt:m*j.size<cs.length:=by rw[hl];exact(aC.1 hy).1
  refine Yields.same (v:=cs[m*j.size]) ?_ h (hc _ _ _ (aq hlt) hy);simp[execOp,ho,hv,ei,Instr.index,gD,run_underlying hu,h0,hm,hok.sizeOf,Cs hok hagg cs.toArray (m*j.size) cs[m*j.size] (by simp_all)];simp_all
 rename_i xs;have hx:=hx.plain;generalize hv:a.eval x=v at hx;cases hx with
 |agg cs xs hl hone hc=>
  split at h;rename_i y ys hys;have hy:=lV hys;have hlt:m*j.size<cs.length:=by rw[hl];exact(aC.1 hy).1
  refine Yields.same (v:=cs[m*j.size]) ?_ h (.p _ _ (hc _ _ _ (aq hlt) hy));simp[execOp,ho,hv,ei,Instr.index,gD,run_underlying hu,h0,hm,hok.sizeOf,Cs hok hagg cs.toArray (m*j.size) cs[m*j.size] (by simp_all)];simp_all
 simp_all;simp_all;simp_all
theorem Hx (hs:bp E G S a w){x:Operand}{i:Nat}(ho:o.op=.extract x i)(h:match S.val x with
 |.eY xs=>match fT i xs with|y::_=>K y|[]=>False
 |.p (.eY xs)=>match fT i xs with|y::_=>K (.p y)|[]=>False
 |_=>False):Yields E G a w o K:=by
 have hx:=aQ.val hs x;generalize S.val x=vx at h hx;split at h;generalize hv:a.eval x=v at hx;cases hx with
 |eY cs xs hl hc=>
  split at h;rename_i y ys hys;have hy:=lV hys;have hlt:i<cs.length:=by rw[hl];exact(aC.1 hy).1
  exact Yields.same (v:=cs[i]) (by simp[execOp,ho,hv,Instr.extract,hlt]) h (hc _ _ _ (aq hlt) hy);simp_all
 have hx:=hx.plain;generalize hv:a.eval x=v at hx;cases hx with
 |eY cs xs hl hc=>
  split at h;rename_i y ys hys;have hy:=lV hys;have hlt:i<cs.length:=by rw[hl];exact(aC.1 hy).1
  exact Yields.same (v:=cs[i]) (by simp[execOp,ho,hv,Instr.extract,hlt]) h (.p _ _ (hc _ _ _ (aq hlt) hy));simp_all
 simp_all
end
section
variable {E:Env}{G:aV}{S:ah}{a:Act}{w:World}{o:Oper}{K:FV->Prop}
theorem pg (hs:bp E G S a w){x:Option Operand}{d:Nat}{K:Nat->Prop}(h:tY (x.map S.val) d K):∃m,K m/\((x=none/\m=d)\/∃y k,x=some y/\a.eval y=.int k m):=by
 cases x with
 |none=>exact⟨d,h,.inl ⟨rfl,rfl⟩⟩
 |some y=>have hy:=aQ.val hs y;simp only[eC,tY]at h;generalize S.val y=vy at h hy;split at h;simp_all;rename_i k n heq;obtain rfl:=an heq;obtain⟨m,rfl,h⟩:=h;exact⟨m,h,.inr ⟨y,k,rfl,hy.fJ⟩⟩;simp_all
theorem mA {P:Program}{w:World}(isSlice:Bool)(len cap:Nat)(lo hi:Option Value)(l h:Nat)(hl:l<=h)(hh:h<=cap)(h1:(lo=none/\l=0)\/∃k:IntKind,lo=some (.int k l))(h2:(hi=none/\h=len)\/∃k:IntKind,hi=some (.int k h)):(Instr.sliceBounds isSlice len cap lo hi none).run P w=.ok (l,h,cap) w:=by
 have b1:∀(k:IntKind)(m y:Nat)(c:BoundsCode),m<=y->(Instr.sliceBound (.int k m) y c).run P w=.ok m w:=λk m y c hm=>by have :(0:Int)<=(m:Int)/\(m:Int)<=(y:Int):=⟨oO,oO⟩;simp[Instr.sliceBound,gD,this]
 rcases h2 with⟨rfl,rfl⟩|⟨k2,rfl⟩<;>rcases h1 with⟨rfl,rfl⟩|⟨k1,rfl⟩;rfl;simp[Instr.sliceBounds,b1 k1 l _ _ hl];simp[Instr.sliceBounds,b1 k2 h _ _ hh];simp[Instr.sliceBounds,b1 k2 h _ _ hh,b1 k1 l _ _ hl]
theorem kU {a:Act}{x:Option Operand}{m d:Nat}(h:(x=none/\m=d)\/∃y k,x=some y/\a.eval y=.int k m):(x.map a.eval=none/\m=d)\/∃k:IntKind,x.map a.eval=some (.int k m):=by grind
theorem AP (s:List UInt8)(l h:Nat)(hh:h<=s.length):(⟨s.toArray⟩:ByteArray).extract l h=⟨((s.take h).drop l).toArray⟩:=by apply ByteArray.ext;rw[ByteArray.data_extract];grind
theorem MY (hs:bp E G S a w){t:TypeId}{x:Operand}{lo hi:Option Operand}(ho:o.op=.slice t x lo hi none)(h:ML E.C t (S.val x) (lo.map S.val) (hi.map S.val) K):Yields E G a w o K:=by
 have hx:=aQ.val hs x;generalize S.val x=vx at h hx;unfold ML at h;split at h;rename_i ht;have hu:=(E.C.ok ht).str;split at h;rename_i s;have ex:=hx.jD;obtain⟨m,h,h2⟩:=pg hs h;obtain⟨l,⟨hl,hm,s',rfl,h⟩,h1⟩:=pg hs h;have hsz:(⟨s.toArray⟩:ByteArray).size=s.length:=by simp[ByteArray.size]
 have hb:=mA (P:=E.C.P) (w:=w) false s.length s.length _ _ l m hl hm (kU h1) (kU h2);refine Yields.same (v:=.string ⟨((s.take m).drop l).toArray⟩) ?_ h (.p _ _ (.str _));simp[execOp,ho,ex,Instr.sliceAt,run_underlying hu,Instr.slice,hsz,hb,AP s l m hm];simp_all;rename_i e _ ht;have hu:=(E.C.ok ht).slice;split at h;simp_all;rename_i j hj;have hjs:=(E.C.ok hj).sizeOf w;split at h;simp_all;rename_i xs hxs;obtain⟨ad,c,hv,hcap,hne⟩:=(hx.elems hxs).kS;obtain⟨m,h,h2⟩:=pg hs h;obtain⟨l,⟨hl,hm,hall,s',rfl,h⟩,h1⟩:=pg hs h;have hb:=mA (P:=E.C.P) (w:=w) true xs.length c _ _ l m hl oO (kU h1) (kU h2);have hrun:(execOp a.eval o).run E.C.P w=.ok (.value (.slice (if c=l then ad else ad.map (·.add (l*j.size))) (m-l) (c-l))) w:=by simp[execOp,ho,hv,Instr.sliceAt,run_underlying hu,Instr.slice,hb,hjs]
 have hlen:((xs.take m).drop l).length=m-l:=by simp;omega
 refine Yields.same hrun h (.p _ _ ?_);by_cases hz:m-l=0;have :(xs.take m).drop l=[]:=bJ.1 oO;rw[this,hz];exact .WE _ _;obtain⟨b,off,bN,cell,rfl,g1,g2⟩:=hne (by grind);have hpos:0<xs.length:=oO
 have ZA:bN=j.size:=(g1 0 _ (aq hpos)).symm.trans (hall _ (aL hpos));have jE:¬c=l:=oO
 rw[aa jE,<-hlen];simp only[eC,Addr.add_lit,<-ZA];refine cZ.Px oO (bN:=bN) (λi ys hys=>?_) (λi ys k y hys hy=>?_);grind;grind;rename_i len e _ ht;have hu:=(E.C.ok ht).array;split at h;simp_all;rename_i j hj;have hjs:=(E.C.ok hj).sizeOf w;split at h;rename_i xs;obtain⟨b,off,hv,hc⟩:=hx.plain.Cm;obtain⟨m,h,h2⟩:=pg hs h;obtain⟨l,⟨hl,hm,hj1,hxl,s',rfl,h⟩,h1⟩:=pg hs h;have hb:=mA (P:=E.C.P) (w:=w) false len len _ _ l m hl hm (kU h1) (kU h2);have hrun:(execOp a.eval o).run E.C.P w=.ok (.value (.slice (some (if len=l then⟨b,off,none⟩else(⟨b,off,none⟩:Addr).add (l*j.size))) (m-l) (len-l))) w:=by simp[execOp,ho,hv,Instr.sliceAt,Instr.sureAddr,run_underlying hu,hb,hjs]
 have hlen:(((xs.take m).drop l).map λx=>[x]).length=m-l:=by simp;omega
 refine Yields.same hrun h (.p _ _ ?_);by_cases hz:m-l=0;have :(((xs.take m).drop l).map λx=>[x])=[]:=bJ.1 oO;rw[this,hz];exact .WE _ _;rw[aa oO,<-hlen];simp only[Addr.add_lit,hj1];refine cZ.Px oO (bN:=1) (λi ys hys=>?_) (λi ys k y hys hy=>?_);grind;rw[aM]at hys;cases hq:((xs.take m).drop l)[i]?with
 |none=>simp_all
 |some q=>simp[hq]at hys;subst hys;match k,hy with|0,hy=>grind
 simp_all;simp_all
theorem yO (hs:bp E G S a w){b:Builtin}{args:Array Operand}{types:Array TypeId}(ho:o.op=.call ⟨.builtin b,args,types⟩)(h:jv E.C S.aJ b (args.toList.map S.val) types.toList K):Yields E G a w o K:=by
 have hx:=λx=>aQ.val hs x;obtain⟨args⟩:=args;obtain⟨types⟩:=types;simp only at h;unfold jv at h;split at h;split at h;rename_i x t hargs;cases args with
 |nil=>simp_all
 |cons y args=>
  cases args with
  |cons z args=>simp_all
  |nil=>
   simp only[cE,iG,jV,and_true]at hargs;have hy:=hx y;rw[hargs]at hy;split at h;simp_all;rename_i ht;have hu:=(E.C.ok ht).str;split at h;rename_i s;have ey:=hy.jD;have hsz:(⟨s.toArray⟩:ByteArray).size=s.length:=by simp[ByteArray.size]
   exact Yields.same (v:=.int .i64 s.length) (by simp[execOp,ho,resolve,invoke,builtin,ey,Builtin.len_,run_underlying hu,hsz,goInt]) h (.p _ _ (.int _ _));simp_all;rename_i e _ ht;have hu:=(E.C.ok ht).slice;split at h;rename_i ob T bN;split at h;rename_i cells hcells;obtain⟨n,hn,h⟩:=h;generalize hv:a.eval y=v at hy;cases hy with
   |fc _ _ _ n' c b h1 h2 h3 h4=>obtain⟨-,-,h5⟩:=hs.ck _ _ _ _ h1 h2;have h6:=h5 cells hcells;simp only at h6;obtain rfl:n=n':=gm h4 (hn.symm.trans h6);exact Yields.same (v:=.int .i64 n) (by simp[execOp,ho,resolve,invoke,builtin,hv,Builtin.len_,run_underlying hu,goInt]) h (.p _ _ (.int _ _))
   simp_all;rename_i ob bx T bN;split at h;rename_i cells hcells;obtain⟨n,hn,h⟩:=h;generalize hv:a.eval y=v at hy;cases hy with
   |tX _ _ _ _ n' c b off h1 h2 h0 h3 h4=>
    obtain⟨-,-,h5⟩:=hs.ck _ _ _ _ h1 h2;have h6:=h5 cells hcells;simp only at h6;have e:bx+n=n':=gm h4 (hn.symm.trans h6);obtain rfl:n=n'-bx:=oO
    exact Yields.same (v:=.int .i64 ((n'-bx:Nat):Int)) (by simp[execOp,ho,resolve,invoke,builtin,hv,Builtin.len_,run_underlying hu,goInt]) h (.p _ _ (.int _ _))
   simp_all;split at h;rename_i xs hxs;obtain⟨ad,c,hv,hcap,hne⟩:=(hy.elems hxs).kS;exact Yields.same (v:=.int .i64 xs.length) (by simp[execOp,ho,resolve,invoke,builtin,hv,Builtin.len_,run_underlying hu,goInt]) h (.p _ _ (.int _ _));simp_all;simp_all
 simp_all
 ·split at h
  ·rename_i k m k' n hargs;cases args with
   |nil=>simp_all
   |cons y args=>
    cases args with
    |nil=>simp_all
    |cons z args=>
     cases args with
     |cons z args=>simp_all
     |nil=>
      simp only[cE,iG,jV,and_true]at hargs;have hy:=hx y;have hz:=hx z;rw[hargs.1]at hy;rw[hargs.2]at hz;have ey:=hy.fJ;have ez:=hz.fJ;split at h;case h_2=>simp_all
      rename_i hk;obtain rfl:=rI hk;obtain⟨c,rfl,h⟩:=h;exact Yields.same (v:=.int k (if n<m then n else m)) (by simp[execOp,ho,resolve,invoke,builtin,ey,ez,Builtin.min_,Builtin.min2]) h (.p _ _ (.int _ _))
  simp_all
 ·split at h
  ·rename_i k m k' n hargs;cases args with
   |nil=>simp_all
   |cons y args=>
    cases args with
    |nil=>simp_all
    |cons z args=>
     cases args with
     |cons z args=>simp_all
     |nil=>
      simp only[cE,iG,jV,and_true]at hargs;have hy:=hx y;have hz:=hx z;rw[hargs.1]at hy;rw[hargs.2]at hz;have ey:=hy.fJ;have ez:=hz.fJ;split at h;case h_2=>simp_all
      rename_i hk;obtain rfl:=rI hk;obtain⟨c,rfl,h⟩:=h;exact Yields.same (v:=.int k (if n>m then n else m)) (by simp[execOp,ho,resolve,invoke,builtin,ey,ez,Builtin.max_,Builtin.max2]) h (.p _ _ (.int _ _))
  simp_all
 simp_all
end
section
variable {E:Env}{G:aV}{S:ah}{a:Act}{w:World}{o:Oper}{K:FV->Prop}
def yP (G:aV)(w:World)(cs:List Value)(xs:List FV):Prop:=cs.length=xs.length/\∀(i:Nat)(c:Value)(x:FV),cs[i]?=some c->xs[i]?=some x->aQ G w c x
theorem eO (xs:List AV):aF xs=xs.map FV.p:=by
 induction xs with
 |nil=>rfl
 |cons x xs ih=>simp[aF,ih]
theorem oP {xs:List FV}:iW xs=true↔∀x,x∈xs->x.one=true:=by
 induction xs with
 |nil=>simp[iW]
 |cons x xs ih=>simp only[iW];grind
theorem qJ {v:Value}{x:FV}(h:aQ G w v x)(h1:iW x.cells=true):yP G w v.cells.toList x.cells/\(∀u,u∈v.cells.toList->u.oneCell'=true):=by
 have one:∀{cs:List Value}{xs:List FV},yP G w cs xs->iW xs=true->∀u,u∈cs->u.oneCell'=true:=λ{cs xs} hr ho u hu=>by
  obtain⟨i,hi⟩:=List.mem_iff_getElem?.1 hu;have hl:i<xs.length:=by rw[<-hr.1];exact(aC.1 hi).1
  exact(hr.2 i u _ hi (aq hl)).Zx (oP.1 ho _ (aL hl))
 have single:∀{v:Value}{x:FV},aQ G w v x->v.cells=#[v]->yP G w v.cells.toList [x]:=λ{v x} h hv=>by rw[hv];refine⟨rfl,λi c y hc hy=>?_⟩;grind
 have key:yP G w v.cells.toList x.cells:=by
  cases h with
  |p v x h=>
   cases h with
   |agg cs xs hl ho hc=>
    simp only[FV.cells,Value.cells,eO];refine⟨by grind,λi c y h2 h3=>?_⟩;rw[aM]at h3;cases hx:xs[i]?with
    |none=>simp_all
    |some z=>simp[hx]at h3;subst h3;exact .p _ _ (hc i c z oO hx)
   |eY cs xs hl hc=>simp[FV.cells,iW,FV.one,AV.one]at h1
   |_=>exact single (.p _ _ (by constructor<;>assumption)) rfl
  |agg cs xs hl hc=>exact⟨by simpa[Value.cells,FV.cells]using hl,λi c y h2 h3=>hc i c y (by simpa[Value.cells]using h2) h3⟩
  |eY cs xs hl hc=>simp[FV.cells,iW,FV.one]at h1
  |dr v=>simp[FV.cells,iW,FV.one]at h1
  |ptr o off b h=>exact single (.ptr o off b h) rfl
  |eU t T bN xs a c h3 h4=>exact single (.eU t T bN xs a c h3 h4) rfl
  |mZ l k h=>exact single (.mZ l k h) rfl
  |fc o T bN n c b q1 q2 q3 q4=>exact single (.fc o T bN n c b q1 q2 q3 q4) rfl
  |tX o x T bN n c b off q1 q2 q0 q3 q4=>exact single (.tX o x T bN n c b off q1 q2 q0 q3 q4) rfl
  |ic o base off b h=>exact single (.ic o base off b h) rfl
  |fK o b h=>exact single (.fK o b h) rfl
  |AL o b h=>exact single (.AL o b h) rfl
  |full xs a h=>exact single (.full xs a h) rfl
  |fn f fs cs first captured a b c d=>exact single (.fn f fs cs first captured a b c d) rfl
 grind
theorem KT {α:Type}{xs zs:List α}{n:Nat}{y:α}(h:JV xs n y=some zs):n<xs.length/\zs=xs.set n y:=by
 induction xs generalizing n zs with
 |nil=>simp[JV]at h
 |cons x xs ih=>
  cases n with
  |zero=>simp[JV]at h;grind
  |succ n=>simp only[JV]at h;grind
theorem ry {α:Type}{xs zs:List α}{n:Nat}{ys:List α}(h:gC xs n ys=some zs):zs.length=xs.length/\(ys≠[]->n+ys.length<=xs.length)/\∀(i:Nat),zs[i]?=if n<=i/\i<n+ys.length then ys[i-n]?else xs[i]?:=by
 induction ys generalizing xs n with
 |nil=>simp only[gC,bM]at h;grind
 |cons y ys ih=>simp only[gC]at h;split at h;rename_i us hu;obtain⟨h1,rfl⟩:=KT hu;obtain⟨h2,h3,h4⟩:=ih h;refine⟨by simp_all,λ_=>?_,λi=>?_⟩;grind;rw[h4 i];by_cases hi:i=n;subst hi;grind;by_cases hlt:n+1<=i/\i<n+1+ys.length;rw[af hlt,af (by grind)];grind;rw[aa hlt,aa (by grind),Cv (dM hi)];simp_all
theorem Hy (vs:List Value)(off:Nat):∀(k:Nat)(cs:Array Value),let r:=(vs.zipIdx k).foldl (λcs (c,j)=>cs.setIfInBounds (off+j) c) cs;r.size=cs.size/\∀i,i<cs.size->r[i]?=if off+k<=i/\i<off+k+vs.length then vs[i-(off+k)]?else cs[i]?:=by
 induction vs with
 |nil=>simp_all
 |cons v vs ih=>intro k cs;simp only[List.zipIdx_cons,eD];obtain⟨h1,h2⟩:=ih (k+1) (cs.setIfInBounds (off+k) v);refine⟨by simp_all,λi hi=>?_⟩;rw[h2 i (by simp_all)];by_cases he:i=off+k;grind;by_cases hlt:off+(k+1)<=i/\i<off+(k+1)+vs.length;grind;grind
theorem PI {place:Nat->Option (Nat×Nat)}{cells:Array Value}{i off size:Nat}{v:Value}{rest:List (Nat×Value)}(hp:place i=some (off,size))(hs:v.cells.size=size)(hb:off+size<=cells.size):Instr.fill place cells ((i,v)::rest)=Instr.fill place (v.cells.zipIdx.foldl (λcs (c,j)=>cs.setIfInBounds (off+j) c) cells) rest:=by
 have hne:¬(v.cells.size≠size\/off+v.cells.size>cells.size):=by rw[hs];omega
 simp only[Instr.fill,hp];grind
theorem KU {cells:Array Value}{xs zs:List FV}{off:Nat}{v:Value}{x:FV}(hr:yP G w cells.toList xs)(hv:aQ G w v x)(h1:iW x.cells=true)(Bj:gC xs off x.cells=some zs)(hne:v.cells.size=0->off<=cells.size):off+v.cells.size<=cells.size/\yP G w (v.cells.zipIdx.foldl (λcs (c,j)=>cs.setIfInBounds (off+j) c) cells).toList zs:=by
 obtain⟨KV,hco⟩:=qJ hv h1;obtain⟨g1,g2,g3⟩:=ry Bj;have hlen:v.cells.size=x.cells.length:=by rw[<-KV.1];simp
 have hsz:cells.size=xs.length:=by rw[<-hr.1];simp
 have hb:off+v.cells.size<=cells.size:=by by_cases h0:x.cells=[];simp_all;simp_all
 refine⟨hb,?_⟩;have hf:=Hy v.cells.toList off 0 cells;have he:v.cells.zipIdx.foldl (λcs (c,j)=>cs.setIfInBounds (off+j) c) cells=(v.cells.toList.zipIdx 0).foldl (λcs (c,j)=>cs.setIfInBounds (off+j) c) cells:=by rw[<-Array.foldl_toList,Array.toList_zipIdx]
 rw[he];obtain⟨f1,f2⟩:=hf;refine⟨by simp_all,λi c y hc hy=>?_⟩;have hi:i<cells.size:=by have :=(aC.1 hy).1;omega
 rw[g3 i]at hy;rw[sD,f2 i hi]at hc;simp only[Nat.add_zero]at hc;by_cases hin:off<=i/\i<off+x.cells.length;rw[af hin]at hy;rw[af (by simp_all)]at hc;exact KV.2 _ _ _ hc hy;rw[aa hin]at hy;rw[aa (by simp_all)]at hc;exact hr.2 i c y (by simp_all) hy
theorem qK (zs:List Value):yP G w zs (zs.map FV.gP):=⟨by simp,λi c x hc hx=>by rw[aM,hc]at hx;simp only[eC,bM]at hx;subst hx;exact uf _ _ _⟩
theorem Gi (hs:bp E G S a w){fs:List (Nat×TypeId)}{gs:Array Field}(OS:fs=gs.toList.map λf=>(f.offset,f.type)):∀(parts:List (Nat×Operand))(cells:Array Value)(xs zs:List FV),yP G w cells.toList xs->nj fs E.C.js S parts xs=some zs->∃cs,Instr.fill ((gs.map λf=>(f.offset,E.C.P.cellsOf f.type))[·]?) cells (parts.map λ(i,x)=>(i,a.eval x))=some cs/\yP G w cs.toList zs:=by
 intro parts;induction parts with
 |nil=>intro cells xs zs hr h;simp only[nj,bM]at h;exact⟨cells,rfl,h▸hr⟩
 |cons p parts ih=>
  obtain⟨i,x⟩:=p;intro cells xs zs hr h;simp only[nj]at h;split at h;grind;rename_i off t r hd;split at h;grind;rename_i j hj;split at h;rename_i hz hlen h1;split at h;grind;rename_i us hu;have hv:=aQ.val hs x;have hlen':(S.val x).cells.length=j.size:=aK hlen;have hgi:gs.toList[i]?.map (λf=>(f.offset,f.type))=some (off,t):=by have :=lV hd;rwa[OS,aM]at this
  obtain⟨inf,z,Cw,hsz,-⟩:=(E.C.ok hj).info';have hcs:E.C.P.cellsOf t=j.size:=by simp[Program.cellsOf,Cw,hsz]
  have hp:(gs.map λf=>(f.offset,E.C.P.cellsOf f.type))[i]?=some (off,j.size):=by
   rw[Array.getElem?_map];cases hg:gs[i]?with
   |none=>simp_all
   |some g=>simp_all
  have KV:=(qJ hv h1).1;have hvs:(a.eval x).cells.size=j.size:=by rw[<-hlen',<-KV.1];simp
  have h0:j.size≠0:=bt hz;obtain⟨hb,hr'⟩:=KU hr hv h1 hu (λe=>oO);obtain⟨cs,h3,h4⟩:=ih _ _ _ hr' h;refine⟨cs,?_,h4⟩;rw[cE,PI hp hvs oO];omega;simp_all
theorem rZ (hs:bp E G S a w){size:Nat}:∀(parts:List (Nat×Operand))(cells:Array Value)(xs zs:List FV),yP G w cells.toList xs->fM size S parts xs=some zs->∃cs,Instr.fill (λi=>some (i*size,size)) cells (parts.map λ(i,x)=>(i,a.eval x))=some cs/\yP G w cs.toList zs:=by
 intro parts;induction parts with
 |nil=>intro cells xs zs hr h;simp only[fM,bM]at h;exact⟨cells,rfl,h▸hr⟩
 |cons p parts ih=>
  obtain⟨i,x⟩:=p;intro cells xs zs hr h;simp only[fM]at h;split at h;rename_i hz hlen h1;split at h;grind;rename_i us hu;have hv:=aQ.val hs x;have hlen':(S.val x).cells.length=size:=aK hlen;have KV:=(qJ hv h1).1;have hvs:(a.eval x).cells.size=size:=by rw[<-hlen',<-KV.1];simp
  have h0:size≠0:=bt hz;obtain⟨hb,hr'⟩:=KU hr hv h1 hu (λe=>oO);obtain⟨cs,h3,h4⟩:=ih _ _ _ hr' h;refine⟨cs,?_,h4⟩;rw[cE,PI rfl hvs oO];omega;simp_all
theorem fL.zeroV {P:Program}{t:TypeId}{i:jL}(h:fL P t i)(w:World):∃z,(zeroValue t).run P w=.ok z w/\z.cells.toList=i.zero:=by obtain⟨inf,z,h1,-,-,h2,h3⟩:=h.info';exact⟨z,by simp[zeroValue,run_typeInfo w h1,h2],h3⟩
theorem Kb (C:Ctx){fs:List (Nat×TypeId)}{ps:List (Nat×Nat)}(h:placesOf C.js fs=some ps):∀(gs:List Field),fs=gs.map (λf=>(f.offset,f.type))->gs.mapM (λf=>(C.P.info? f.type).map λi=>(f.offset,i.size))=some ps/\ps=gs.map λf=>(f.offset,C.P.cellsOf f.type):=by
 induction fs generalizing ps with
 |nil=>intro gs hg;simp only[placesOf,bM]at h;simp_all
 |cons p fs ih=>
  obtain⟨o,t⟩:=p;intro gs hg;cases gs with
  |nil=>simp_all
  |cons g gs=>simp only[cE,jV,Prod.mk.injEq]at hg;obtain⟨⟨rfl,rfl⟩,hg⟩:=hg;simp only[placesOf]at h;split at h;grind;rename_i j hj;split at h;grind;rename_i qs hqs;obtain rfl:=an h;obtain⟨h1,h2⟩:=ih hqs gs hg;obtain⟨inf,z,Cw,hsz,-⟩:=(C.ok hj).info';simp only[List.mapM_cons,Cw,eC,h1];simp[hsz,h2,Program.cellsOf,Cw]
theorem MZ (hs:bp E G S a w){t:TypeId}{parts:Array (Nat×Operand)}(ho:o.op=.build t parts)(h:Gw E.C S t parts.toList K):Yields E G a w o K:=by
 unfold Gw at h;split at h;rename_i fs zero ht;have hok:=E.C.ok ht;obtain⟨gs,hu,OS⟩:=hok.struct;obtain⟨inf,z,Cw,-,-,hz,GA⟩:=hok.info';split at h;simp_all;rename_i ps hps;split at h;rename_i cs hcs;rw[jN]at h;obtain⟨p1,p2⟩:=Kb E.C hps gs.toList OS;obtain⟨us,h3,h4⟩:=Gi hs OS parts.toList z.cells _ _ (GA▸qK _) hcs;have hb:E.C.P.built t (parts.toList.map λ(i,x)=>(i,a.eval x))=some us:=by unfold Program.built;simp only[Cw,hu,hz,p1];rw[p2];simpa using h3
 have hrun:=run_build (P:=E.C.P) w t (parts.map λ(i,x)=>(i,a.eval x)) us (by simp_all);exact Yields.same (by simp only[execOp,ho,Sem.run_bind,hrun,Result.andThen_ok];rfl) h (by simpa using aQ.agg us.toList cs h4.1 h4.2);simp_all;rename_i n e zero ht;have hok:=E.C.ok ht;have hu:=hok.array;obtain⟨inf,z,Cw,-,-,hz,GA⟩:=hok.info';split at h;simp_all;rename_i j hj;obtain⟨anh,z',Vf,akt,-⟩:=(E.C.ok hj).info';split at h;rename_i cs hcs;rw[jN]at h;obtain⟨us,h3,h4⟩:=rZ hs parts.toList z.cells _ _ (GA▸qK _) hcs;have hb:E.C.P.built t (parts.toList.map λ(i,x)=>(i,a.eval x))=some us:=by unfold Program.built;simp only[Cw,hu,hz,Vf,akt];exact h3
 have hrun:=run_build (P:=E.C.P) w t (parts.map λ(i,x)=>(i,a.eval x)) us (by simp_all);exact Yields.same (by simp only[execOp,ho,Sem.run_bind,hrun,Result.andThen_ok];rfl) h (by simpa using aQ.agg us.toList cs h4.1 h4.2);simp_all;simp_all
theorem rL {α:Type}(xs:List α)(n:Nat):(od n xs).length=n*xs.length/\∀i,i<n*xs.length->(od n xs)[i]?=xs[i%xs.length]?:=by
 induction n with
 |zero=>simp[od]
 |succ n ih=>refine⟨by simp[od,ih.1,bD,pQ],λi hi=>?_⟩;simp only[od];by_cases h:i<xs.length;rw[cm h,lX h];rw[dN oO,ih.2 _ (by grind)];congr 1;exact(Nat.mod_eq_sub_mod oO).symm
theorem Hz {α β:Type}(f:α->β)(xs:List α)(n:Nat):od n (xs.map f)=(od n xs).map f:=by
 induction n with
 |zero=>rfl
 |succ n ih=>simp[od,ih]
theorem WK {α:Type}(size:Nat):∀(n:Nat)(xs:List α),(chunk size n xs).length=n/\∀i zs,(chunk size n xs)[i]?=some zs->zs=(xs.drop (i*size)).take size:=by
 intro n;induction n with
 |zero=>intro xs;simp[chunk]
 |succ n ih=>
  intro xs;obtain⟨h1,h2⟩:=ih (xs.drop size);refine⟨by simp[chunk,h1],λi zs h=>?_⟩;cases i with
  |zero=>simp[chunk]at h;grind
  |succ i=>simp only[chunk,lY]at h;rw[h2 i zs h,wD,bD,jT,pQ]
theorem ZB {x:FV}{y:AV}(h:x.one=true)(hy:x.fe=some y):y.one=true:=by
 cases x with
 |p z=>simp only[FV.fe,bM]at hy;subst hy;exact h
 |agg xs=>simp[FV.one]at h
 |eY xs=>simp[FV.one]at h
 |ptr o off=>simp[FV.fe]at hy
 |eU t T e xs=>simp only[FV.fe,bM]at hy;subst hy;rfl
 |mZ l=>simp[FV.fe]at hy
 |fc o T e=>simp[FV.fe]at hy
 |tX o x T e=>simp[FV.fe]at hy
 |ic o b off=>simp[FV.fe]at hy
 |fK o=>simp[FV.fe]at hy
 |AL o=>simp[FV.fe]at hy
 |full xs=>simp only[FV.fe,bM]at hy;subst hy;rfl
 |fn f a b=>simp only[FV.fe]at hy;split at hy;split at hy;obtain rfl:=an hy;rfl;simp_all;simp_all
 |dr=>simp[FV.one]at h
theorem xW (hs:bp E G S a w){t:TypeId}{len:Nat}{parts:Array (Nat×Operand)}(ho:o.op=.buildSlice t len parts)(h:lT E.C S t len parts.toList K):∃(xs:List (List AV)) (us:Array Value) (e:TypeId) (j:jL),(∃a b z,bP E.C.js t=some ⟨a,b,.slice e,z⟩)/\bP E.C.js e=some j/\K (.full xs)/\(execOp a.eval o).run E.C.P w=.ok (.value (.slice (some ⟨w.heap.size,0,none⟩) xs.length xs.length)) (w.alloc (.cells us e))/\(∀zs,zs∈xs->zs.length=j.size)/\cZ (λb o=>G.aZ b o\/(w.heap.size<=b/\b<(w.alloc (.cells us e)).heap.size/\o<xs.length*j.size)) (w.alloc (.cells us e)) (.slice (some ⟨w.heap.size,0,none⟩) xs.length xs.length) (.sl xs):=by
 unfold lT at h;split at h;rename_i e _ ht;have hu:=(E.C.ok ht).slice;split at h;simp_all;rename_i j hj;have hok:=E.C.ok hj;split at h;simp_all;rename_i hle;have hle':len*j.size<=1000000:=gQ hle;split at h;rename_i cs hcs;split at h;simp_all;rename_i h1;split at h;rename_i ys hys;obtain⟨z,hzr,GA⟩:=hok.zeroV w;have akv:z.cells.size=j.size:=by rw[<-jf,GA,hok.len]
 have hbase:∀zz:Array Value,(len*j.size=0\/zz=z.cells)->((Array.range (len*j.size)).map (zz[·%zz.size]!)).toList=od len j.zero:=λzz hzz=>by obtain⟨r1,r2⟩:=rL j.zero len;rw[hok.len]at r1 r2;apply fP;grind
 have hrl:∀zz:Array Value,(len*j.size=0\/zz=z.cells)->yP G w ((Array.range (len*j.size)).map (zz[·%zz.size]!)).toList (od len (j.zero.map FV.gP)):=λzz hzz=>by rw[hbase zz hzz,Hz];exact qK _
 obtain⟨us,WL,om⟩:∃us,(∀zz:Array Value,(len*j.size=0\/zz=z.cells)->Instr.fill (λi=>some (i*j.size,j.size)) ((Array.range (len*j.size)).map (zz[·%zz.size]!)) (parts.toList.map λ(i,x)=>(i,a.eval x))=some us)/\yP G w us.toList cs:=by obtain⟨us,h3,h4⟩:=rZ hs parts.toList _ _ _ (hrl z.cells (.inr rfl)) hcs;grind
 have ZC:¬len*j.size>2^24:=oO
 have hrun:(execOp a.eval o).run E.C.P w=.ok (.value (.slice (some ⟨w.heap.size,0,none⟩) len len)) (w.alloc (.cells us e)):=by
  by_cases h0:len*j.size=0;have h5:=WL #[] (.inl h0);have h5':Instr.fill (λi=>some (i*j.size,j.size)) #[] (List.map (λx=>(x.1,a.eval x.2)) parts.toList)=some us:=by
   have h6:(Array.range (len*j.size)).map ((#[]:Array Value)[·%(#[]:Array Value).size]!)=#[]:=by rw[h0];simp
   rw[h6]at h5;exact h5
  have hm0:∀f:Nat->Value,(Array.range 0).map f=#[]:=λf=>by simp
  simp only[execOp,ho,Instr.buildSlice,Sem.run_bind,run_underlying hu,Result.andThen_ok,hok.sizeOf,ZC,if_false,h0,if_true,Sem.run_pure,nJ];simp only[show¬(0>2^24)from oO,if_false,Sem.run_pure,Result.andThen_ok,hm0,h5'];rfl;have h5:=WL z.cells (.inr rfl);simp only[execOp,ho,Instr.buildSlice,Sem.run_bind,run_underlying hu,Result.andThen_ok,hok.sizeOf,ZC,if_false,h0,Sem.run_pure,hzr,nJ];simp only[h5];rfl
 obtain⟨y1,y2⟩:=FV.iT hys;have hlen:us.size=len*j.size:=by
  have h6:us.size=cs.length:=by rw[<-om.1];simp
  have h7:∀(parts:List (Nat×Operand))(xs zs:List FV),fM j.size S parts xs=some zs->zs.length=xs.length:=by
   intro parts;induction parts with
   |nil=>intro xs zs h;simp only[fM,bM]at h;rw[h]
   |cons p parts ih=>obtain⟨i,x⟩:=p;intro xs zs h;simp only[fM]at h;split at h;split at h;grind;rename_i us WL;rw[ih _ _ h,(ry WL).1];simp_all
  rw[h6,h7 _ _ _ hcs,(rL _ _).1];simp[hok.len]
 have hal:Below w.heap.size w (w.alloc (.cells us e)):=(Below.refl _ _).alloc (ay _) _;obtain⟨c1,c2⟩:=WK j.size len ys;have hcell:∀i,(w.alloc (.cells us e)).cell? ⟨w.heap.size,i,none⟩=us[i]?:=λi=>World.cell?_alloc_new w us e i;have aih:∀(i:Nat)(zs:List AV),(chunk j.size len ys)[i]?=some zs->zs.length=j.size:=λi zs hzs=>by
  have hi:i<len:=by rw[<-c1];exact(aC.1 hzs).1
  rw[c2 i zs hzs,aH,cL,y1,<-om.1,jf,hlen];have :(i+1)*j.size<=len*j.size:=ec _ hi;grind
 have ani:cZ (λb o=>G.aZ b o\/(w.heap.size<=b/\b<(w.alloc (.cells us e)).heap.size/\o<len*j.size)) (w.alloc (.cells us e)) (.slice (some ⟨w.heap.size,0,none⟩) (chunk j.size len ys).length len) (.sl (chunk j.size len ys)):=by
  refine cZ.Px (bN:=j.size) oO aih (λi zs k y hzs hy=>?_);have hi:i<len:=by rw[<-c1];exact(aC.1 hzs).1
  have hk:k<j.size:=by have h8:=(aC.1 hy).1;rw[c2 i zs hzs,aH]at h8;omega
  rw[c2 i zs hzs,Cy hk,lS]at hy;obtain⟨x,hx,hxy⟩:=y2 _ _ hy;have hlt:i*j.size+k<us.size:=by have h9:=(aC.1 hx).1;rw[<-jf,om.1];exact h9
  have hr:=om.2 (i*j.size+k) us[i*j.size+k] x (by simp_all) hx;have hxo:=oP.1 h1 x (bA hx);refine⟨us[i*j.size+k],ZB hxo hxy,?_,.inr ⟨ay _,by simp,oO⟩,?_⟩;simp_all;refine(hr.fe hxy).keep (λb o hi=>.inl hi) (λb o c hi hc=>?_) (Ch _ _ _);rw[World.cell?_alloc_lt _ _ _ (hs.fq b o hi)];omega
 refine⟨chunk j.size len ys,us,e,j,⟨_,_,_,ht⟩,hj,h,by simp_all,λzs hz=>?_,by simp_all⟩;obtain⟨q,hq⟩:=iI hz;grind;simp_all;simp_all;simp_all
theorem Cz (hs:bp E G S a w){t:TypeId}{len:Nat}{parts:Array (Nat×Operand)}(ho:o.op=.buildSlice t len parts)(h:lT E.C S t len parts.toList K):Yields E G a w o K:=by obtain⟨xs,us,e,j,-,-,hK,hrun,-,hr⟩:=xW hs ho h;exact⟨_,_,_,hrun,hK,(Below.refl _ _).alloc (ay _) _,.full xs _ (hr.keep (λb o h=>h.imp id λh=>⟨h.1,h.2.1⟩) (λ_ _ _ _ h=>h) (.refl _ _))⟩
end
theorem fL.map {P:Program}{t k e:TypeId}{a b:Nat}{z:List Value}(h:fL P t ⟨a,b,.map k e,z⟩):P.underlying t=some (.map k e):=by obtain⟨d,h1,h2⟩:=h.yL;cases d<;>simp[shapeOf]at h2;simp_all
theorem nK {α:Type}(l:List (AV×α)):gA l=l.map (·.1):=by
 induction l with
 |nil=>rfl
 |cons p l ih=>obtain⟨k,x⟩:=p;simp[gA,ih]
theorem Aa {α:Type}(l:List (AV×α)):tj l=l.map (·.2):=by
 induction l with
 |nil=>rfl
 |cons p l ih=>obtain⟨k,x⟩:=p;simp[tj,ih]
theorem ZD {α:Type}{ks:List AV}{xs:List α}(h:ks.length=xs.length):(BZ ks xs).length=ks.length/\∀(i:Nat)(p:AV×α),(BZ ks xs)[i]?=some p->ks[i]?=some p.1/\xs[i]?=some p.2:=by
 induction ks generalizing xs with
 |nil=>cases xs<;>simp_all[BZ]
 |cons k ks ih=>
  cases xs with
  |nil=>grind
  |cons x xs=>
   obtain⟨h1,h2⟩:=ih (by simpa using h);refine⟨by simp[BZ,h1],λi p hp=>?_⟩;cases i with
   |zero=>simp[BZ]at hp;grind
   |succ i=>simp[BZ]at hp;grind
theorem CA {α:Type}(k:AV)(l:List (AV×α)):rJ k l=(iw k (gA l)).bind λj=>(l[j]?).map (·.2):=by
 induction l with
 |nil=>rfl
 |cons p l ih=>
  obtain⟨k',x⟩:=p;simp only[rJ,gA,iw];cases hs:jR k k' with
  |true=>simp
  |false=>
   simp only[ih];cases iw k (gA l)with
   |none=>rfl
   |some j=>simp
section
variable {E:Env}{G:aV}{S:ah}{a:Act}{w:World}{o:Oper}{K:FV->Prop}
theorem PJ (hs:bp E G S a w){v:Value}{x:FV}{l:List (AV×FV)}(hx:aQ G w v x)(h:x.entries S.maps=some l):∃es:List MapEntry,((v=.map none/\es=[])\/∃b fZ,v=.map (some b)/\w.heap[b]?=some (.map es.toArray fZ))/\es.length=l.length/\∀(i:Nat)(e:MapEntry)(p:AV×FV),es[i]?=some e->l[i]?=some p->cZ G.aZ w e.key p.1/\aQ G w e.val p.2:=by
 cases x with
 |fK ob=>
  cases hx with
  |fK _ b hb=>obtain⟨b',fZ,es,h1,h2,h3,h4,h5⟩:=hs.ext'.mps.at_ ob l h;grind
 |p y=>
  cases hx with
  |p _ _ hx=>
   cases hx with
   |kQ=>simp only[FV.entries,bM]at h;simp_all
   |mp b fZ es ks vs h1 h2 h3 h4 h5 h6 h7=>
    simp only[FV.entries,bM]at h;subst h;obtain⟨z1,z2⟩:=ZD (ks:=ks) (xs:=aF vs) (by rw[eO,ai];omega);refine⟨es,.inr ⟨b,fZ,rfl,h4⟩,oO,λi e p he hp=>?_⟩;obtain⟨q1,q2⟩:=z2 i p hp;refine⟨h6 i e _ he q1,?_⟩;rw[eO,aM]at q2;cases hv:vs[i]?with
    |none=>simp_all
    |some y=>simp only[hv,eC,bM]at q2;rw[<-q2];exact .p _ _ (h7 i e y he hv)
   |_=>simp[FV.entries]at h
 |_=>simp[FV.entries]at h
theorem Na {l:List (AV×FV)}{es:List MapEntry}{agg:Bool}{L:List gI}{aZ:Nat->Nat->Prop}(hl:es.length=l.length)(hr:∀(i:Nat)(e:MapEntry)(p:AV×FV),es[i]?=some e->l[i]?=some p->cZ aZ w e.key p.1)(hf:∀p,p∈l->gz agg L p.1=true):sy agg L es (gA l):=by
 refine⟨by rw[nK,ai];omega,λi e x he hx=>?_⟩;rw[nK,aM]at hx;cases hp:l[i]?with
 |none=>simp_all
 |some p=>simp only[hp,eC,bM]at hx;subst hx;have :=hf p (bA hp);exact⟨sX (hr i e p he hp) this,this⟩
theorem HA {P:Program}{w:World}{e:TypeId}{z:Value}(h:(P.info? e).map (·.zero)=some (some z)):(zeroValue e).run P w=.ok z w:=by
 cases hi:P.info? e with
 |none=>simp_all
 |some i=>simp only[hi,eC,bM]at h;simp[zeroValue,run_typeInfo w hi,h]
theorem Vg {ok:Bool}{v:Value}{x:FV}(h:aQ G w v x)(b:Bool):aQ G w (if ok then .tuple #[v,.bool b]else v) (okV ok x b):=by
 cases ok with
 |false=>exact h
 |true=>
  refine .eY [v,.bool b] [x,.p (.bool b)] rfl λi c y h1 h2=>?_;match i,h1,h2 with
   |0,h1,h2=>simp_all
   |1,h1,h2=>cases h1;cases h2;exact .p _ _ (.bool b)
theorem Kc (hs:bp E G S a w){t:TypeId}{x i:Operand}{ok:Bool}(ho:o.op=.lookup t x i ok)(h:Hh E.C S.maps t (S.val x) (S.val i) ok K):Yields E G a w o K:=by
 have hx:=aQ.val hs x;have hi:=aQ.val hs i;unfold Hh at h;split at h;rename_i kT eT _ ht;have hu:=(E.C.ok ht).map;split at h;rename_i ki kk l hki hkk hl;obtain⟨L,hL,hk,hall,r,hr,h⟩:=h;have hagg:=(E.C.ok hki).gJ;rw[<-hagg]at hk hall;have hkey:=sX (hi.fe hkk) hk;obtain⟨es,hv,hlen,hent⟩:=PJ hs hx hl;have hka:=Na (w:=w) hlen (λi e p a b=>(hent i e p a b).1) hall;have Ej:=λem=>(sx (P:=E.C.P) (em:=em) 40).1 kT L 10000 w kk.cells dD hL (lK hk);have hfind:=wz (w:=w) dD hL hk hka;rw[CA]at hr;have hrun:∀res:Option (Nat×Value),found es 0 (iw kk (gA l))=res->∀v,(match res with|some (_,v')=>v=(if ok then .tuple #[v',.bool true]else v')|none=>∃z,(E.C.P.info? eT).map (·.zero)=some (some z)/\v=(if ok then .tuple #[z,.bool false]else z))->(Instr.lookup t (a.eval x) (a.eval i) ok).run E.C.P w=.ok v w:=by
  intro res hres v hvv;rw[hres]at hfind;rw[hkey];rcases hv with⟨e1,rfl⟩|⟨b,fZ,e1,e2⟩;rw[e1];cases res with
  |none=>obtain⟨z,hz,rfl⟩:=hvv;simp[Instr.lookup,run_underlying hu,Ej,hfind,HA hz]
  |some q=>simp[found]at hres
  rw[e1];have hg:(Go.getObj b).run E.C.P w=.ok (.map es.toArray fZ) w:=by simp[Go.getObj,Sem.run,e2]
  cases res with
  |none=>obtain⟨z,hz,rfl⟩:=hvv;simp[Instr.lookup,run_underlying hu,hg,Ej,hfind,HA hz]
  |some q=>obtain⟨j,v'⟩:=q;subst hvv;simp[Instr.lookup,run_underlying hu,hg,Ej,hfind]
 cases gb:iw kk (gA l)with
 |none=>rw[gb]at hr;simp only[Option.bind_none]at hr;subst hr;obtain⟨z,hz,hK⟩:=h;have :=hrun none (by rw[gb];rfl) _ ⟨z,hz,rfl⟩;exact Yields.same (by simp[execOp,ho,this]) hK (Vg (Hp _ _ _) false)
 |some j=>
  rw[gb]at hr;have hj:j<(gA l).length:=by
   have :∀(ks:List AV)(j:Nat),iw kk ks=some j->j<ks.length:=by
    intro ks;induction ks with
    |nil=>intro j h;simp[iw]at h
    |cons x ks ih=>
     intro j h;simp only[iw]at h;split at h;grind;cases hq:iw kk ks with
     |none=>simp_all
     |some m=>grind
   exact this _ _ gb
  rw[nK,ai]at hj;have SQ:j<es.length:=oO
  simp only[nL,aq hj,eC]at hr;subst hr;have :=hrun (some (j,es[j].val)) (by rw[gb];simp[found,SQ]) _ rfl;exact Yields.same (by simp[execOp,ho,this]) h (Vg (hent j _ _ (aq SQ) (aq hj)).2 true)
 simp_all;simp_all
end
section
variable {E:Env}{G:aV}{S:ah}{a:Act}{w:World}{o:Oper}
def Env.kG (E:Env):Fence:=match E.mu with|none=>Fence.wide|some l=>Fence.wide.inRound l
theorem Env.gd (f:FuncId):E.kG.fn f:=by unfold Env.kG;split<;>trivial
theorem Env.lM:E.kG.depth=none:=by unfold Env.kG;split<;>rfl
theorem Env.yQ:E.kG.round=E.mu:=by unfold Env.kG;split<;>rename_i h<;>rw[h]<;>rfl
theorem oz {P:Program}{f:FuncId}{args:Array Value}{w:World}{R:Ending->World->Prop}(h:Calls P f args w R):CallsIn E.kG 0 P f args w R:=by unfold Env.kG;split;exact callsIn_wide.2 h;exact CallsIn.inRound _ (callsIn_wide.2 h)
abbrev CB (E:Env)(o:Oper)(a:Act)(w:World)(next:Act->World->Prop)(Q:Exit->Act->World->Prop):Prop:=o.wpIn E.kG 0 E.C.P a w next Q
theorem WM {P:Program}{ρ:Operand->Value}{v:Value}{w':World}(h:(execOp ρ o).run P w=.ok (.value v) w'):∀c,o.op≠.defer c:=λc hc=>by unfold execOp at h;rw[hc]at h;simp only[Sem.run_bind]at h;cases hr:(resolve ρ c o.type).run P w<;>simp[hr,Result.andThen]at h
theorem wp_value {v:Value}{w':World}{next:Act->World->Prop}{Q:Exit->Act->World->Prop}(h:(execOp a.eval o).run E.C.P w=.ok (.value v) w')(hn:next (a.put o.dst v) w'):CB E o a w next Q:=by refine⟨λf _=>Env.gd f,?_⟩;rw[Oper.semAt_eq _ _ _ (WM h),h];exact hn
theorem wp_of_yields {K:FV->Prop}(hs:bp E G S a w)(h:Yields E G a w o K){next:Act->World->Prop}{Q:Exit->Act->World->Prop}(hn:∀x v G' w',K x->bp E G' S a w'->aQ G' w' v x->next (a.put o.dst v) w'):CB E o a w next Q:=by obtain⟨v,x,w',h1,h2,h3,h4⟩:=h;exact wp_value h1 (hn x v _ w' h2 (hs.ext h3) h4)
theorem tu (hs:bp E G S a w)(args:List Operand):(args.map a.eval).length=(args.map S.val).length/\∀(i:Nat)(c:Value)(x:FV),(args.map a.eval)[i]?=some c->(args.map S.val)[i]?=some x->aQ G w c x:=by
 refine⟨by simp,λi c x hc hx=>?_⟩;rw[aM]at hc hx;cases h0:args[i]?with
 |none=>simp_all
 |some y=>simp[h0]at hc hx;subst hc;subst hx;exact aQ.val hs y
theorem mI {cs:List Value}{xs:List FV}{ys:List AV}(h:cs.length=xs.length/\∀(i:Nat)(c:Value)(x:FV),cs[i]?=some c->xs[i]?=some x->aQ G w c x)(hy:FV.fF xs=some ys):cs.length=ys.length/\∀(i:Nat)(c:Value)(y:AV),cs[i]?=some c->ys[i]?=some y->cZ G.aZ w c y:=by obtain⟨h1,h2⟩:=FV.iT hy;refine⟨oO,λi c y hc hy=>?_⟩;obtain⟨x,hx,hxy⟩:=h2 i y hy;exact(h.2 i c x hc hx).fe hxy
theorem wE {aZ:Nat->Nat->Prop}{cs ds:List Value}{xs ys:List AV}(h:cs.length=xs.length/\∀(i:Nat)(c:Value)(x:AV),cs[i]?=some c->xs[i]?=some x->cZ aZ w c x)(h':ds.length=ys.length/\∀(i:Nat)(c:Value)(x:AV),ds[i]?=some c->ys[i]?=some x->cZ aZ w c x):(cs++ds).length=(xs++ys).length/\∀(i:Nat)(c:Value)(x:AV),(cs++ds)[i]?=some c->(xs++ys)[i]?=some x->cZ aZ w c x:=by grind
theorem vj {P:Program}{ρ:Operand->Value}{f:Operand}{args:Array Operand}{types:Array TypeId}{g:FuncId}{first captured:Array Value}{fn:Func}(ho:o.op=.call ⟨.value f,args,types⟩)(hf:ρ f=.func (.func g) first captured)(h1:P.funcs[g]?=some fn)(h2:fn.body.isNone=false)(h3:(fn.name== "runtime.NumGoroutine")=false):(execOp ρ o).run P w=.ok (.enter g (first++args.map ρ++captured)) w:=by
 have h3':¬fn.name= "runtime.NumGoroutine" :=by simpa using h3
 have h2':¬fn.body=none:=λe=>by simp_all
 simp[execOp,ho,resolve,hf,Deferred.ofValue,invoke,callFunc,h1,h2',h3']
theorem wp_call (hs:bp E G S a w){f:Operand}{args:Array Operand}{types:Array TypeId}{g:FuncId}{first captured:Array Value}{xs:List AV}{R:dh->Prop}(ho:o.op=.call ⟨.value f,args,types⟩)(hf:a.eval f=.func (.func g) first captured)(hr:(first++args.map a.eval++captured).toList.length=xs.length/\∀(i:Nat)(c:Value)(x:AV),(first++args.map a.eval++captured).toList[i]?=some c->xs[i]?=some x->cZ G.aZ w c x)(hc:aj E.C g xs R){next:Act->World->Prop}{Q:Exit->Act->World->Prop}(hn:∀r v w',R r->Below w.heap.size w w'->ng G.aZ w.heap.size w' v r->next (a.put o.dst v) w'):CB E o a w next Q:=by obtain⟨⟨fn,h1,h2,h3⟩,hc⟩:=hc;have hJ:=hs.J;have :=hc G.aZ w (first++args.map a.eval++captured).toList hJ.1 hJ.2 hs.fq hr.1 hr.2;refine⟨λf _=>Env.gd f,?_⟩;rw[Oper.semAt_eq _ _ _ (λc=>by simp_all),vj ho hf h1 h2 h3,Oper.uponIn_enter];refine⟨λh=>(by rw[Env.lM]at h;grind),oz (Calls.mono this ?_)⟩;grind
theorem ZE {α:Type}{e:Nat}:∀{l:List (List α)},(∀zs,zs∈l->zs.length=e)->∀{i j:Nat}{zs:List α}{z:α},l[i]?=some zs->zs[j]?=some z->l.flatten[i*e+j]?=some z:=by
 intro l;induction l with
 |nil=>simp_all
 |cons y ys ih=>
  intro he i j zs z h1 h2;have hy:=he y (by simp);rw[nH];cases i with
  |zero=>grind
  |succ i=>grind
theorem ng.SR {G:aV}{B:Nat}{w':World}{v:Value}{r:dh}(h:ng G.aZ B w' v r):aQ {G with aZ:=λb o=>G.aZ b o\/(B<=b/\b<w'.heap.size)} w' v r.plain:=by
 have conv:∀{qF:Nat->Nat->Prop}{v:Value}{x:AV},(∀b o,qF b o->G.aZ b o\/B<=b)->cZ qF w' v x->cZ (λb o=>G.aZ b o\/(B<=b/\b<w'.heap.size)) w' v x:=λh1 h2=>h2.yy (λb o c hi hc=>⟨(h1 b o hi).imp id λh=>⟨h,World.block_lt_of_cell? w' _ hc⟩,hc⟩) λb es k hi hb=>⟨(h1 b 0 hi).imp id λh=>⟨h,(bC.1 hb).1⟩,hb⟩;cases r with
 |val x=>exact .p _ _ (conv (λb o h=>h) h)
 |fresh T bN xs=>refine .p _ _ ?_;obtain⟨ad,c,rfl,h|⟨b,off,cs,fr,-,-,-,-,-,-,h⟩⟩:=h;exact conv (λb o h=>h) h.2.2;grind
 |own rest T bN xss=>
  obtain⟨b,c,cs,fr,us,rfl,h1,h2,h3,h4,h5,h6,h7,h8,h9,h10⟩:=h;have hI:∀b' o,Ze G.aZ B b b' o->G.aZ b' o\/B<=b':=λb' o h=>h.imp id λh=>h.1;have Sv:cZ (λb o=>G.aZ b o\/(B<=b/\b<w'.heap.size)) w' (.slice (some ⟨b,0,none⟩) xss.length c) (.sl xss):=cZ.Px (bN:=bN) h4 (λi ys hys=>(h5 ys (bA hys)).1) λi ys j y q1 q2=>by have q3:=ZE (λzs hz=>(h5 zs hz).1) q1 q2;obtain⟨u,q4,q5⟩:=h9 _ _ q3;exact⟨u,(h5 ys (bA q1)).2 y (bA q2),by simp_all,.inr ⟨h1,h2⟩,conv hI q5⟩
  cases rest with
  |none=>exact .p _ _ Sv
  |some r=>obtain⟨g1,g2⟩:=h10 r rfl;refine .p _ _ (.eY (_::us) (_::r) (by grind) λi u x q1 q2=>?_);grind
 |vf x=>refine aQ.yy (G:=bare (mz G.aZ B)) h (λb o c hi hc=>⟨?_,hc⟩) (λb es k hi hb=>⟨hi.imp id λh=>⟨h,(bC.1 hb).1⟩,hb⟩) (λo b h=>by cases h) (λt r h=>by cases h) (λl k h=>by cases h) (λl k h=>by cases h) (λl k h=>by cases h);exact hi.imp id λh=>⟨h,World.block_lt_of_cell? w' _ hc⟩
theorem SS {v:Value}{g:FuncId}{first captured:List AV}(h:aQ G w v (.p (.fn (.func g) first captured))):∃fs cs:List Value,v=.func (.func g) fs.toArray cs.toArray/\(fs.length=first.length/\∀(i:Nat)(c:Value)(x:AV),fs[i]?=some c->first[i]?=some x->cZ G.aZ w c x)/\(cs.length=captured.length/\∀(i:Nat)(c:Value)(x:AV),cs[i]?=some c->captured[i]?=some x->cZ G.aZ w c x):=by
 cases h with
 |p v x h=>
  cases h with
  |fn f fs cs first captured h1 h2 h3 h4=>grind
theorem Nb {v:Value}{g:FuncId}{first captured:List FV}(h:aQ G w v (.fn (.func g) first captured)):∃fs cs:List Value,v=.func (.func g) fs.toArray cs.toArray/\(fs.length=first.length/\∀(i:Nat)(c:Value)(x:FV),fs[i]?=some c->first[i]?=some x->aQ G w c x)/\(cs.length=captured.length/\∀(i:Nat)(c:Value)(x:FV),cs[i]?=some c->captured[i]?=some x->aQ G w c x):=by
 cases h with
 |fn f fs cs first captured h1 h2 h3 h4=>grind
theorem lN {cs ds:List Value}{xs ys:List FV}(h:cs.length=xs.length/\∀(i:Nat)(c:Value)(x:FV),cs[i]?=some c->xs[i]?=some x->aQ G w c x)(h':ds.length=ys.length/\∀(i:Nat)(c:Value)(x:FV),ds[i]?=some c->ys[i]?=some x->aQ G w c x):(cs++ds).length=(xs++ys).length/\∀(i:Nat)(c:Value)(x:FV),(cs++ds)[i]?=some c->(xs++ys)[i]?=some x->aQ G w c x:=by grind
theorem WN (hs:bp E G S a w){f:Operand}{args:Array Operand}{types:Array TypeId}(ho:o.op=.call ⟨.value f,args,types⟩){KK:FuncId->List AV->Prop}(h:match S.val f with
 |.p (.fn (.func g) first captured)=>match FV.fF (args.toList.map S.val)with|some xs=>KK g (first++xs++captured)|none=>False
 |.fn (.func g) first captured=>match FV.fF (first++args.toList.map S.val++captured)with|some xs=>KK g xs|none=>False
 |_=>False):∃g first captured xs,a.eval f=.func (.func g) first captured/\KK g xs/\((first++args.map a.eval++captured).toList.length=xs.length/\∀(i:Nat)(c:Value)(x:AV),(first++args.map a.eval++captured).toList[i]?=some c->xs[i]?=some x->cZ G.aZ w c x):=by have hf:=aQ.val hs f;generalize S.val f=vf at h hf;split at h;split at h;rename_i xs hxs;obtain⟨fs,cs,hv,h1,h2⟩:=SS hf;refine⟨_,fs.toArray,cs.toArray,_,hv,h,?_⟩;have h3:=wE (wE h1 (mI (tu hs args.toList) hxs)) h2;grind;simp_all;split at h;rename_i xs hxs;obtain⟨fs,cs,hv,h1,h2⟩:=Nb hf;refine⟨_,fs.toArray,cs.toArray,_,hv,h,?_⟩;have h3:=mI (lN (lN h1 (tu hs args.toList)) h2) hxs;grind;simp_all;simp_all
theorem wp_callV (hs:bp E G S a w){f:Operand}{args:Array Operand}{types:Array TypeId}(ho:o.op=.call ⟨.value f,args,types⟩){K:FV->Prop}(h:zV E.C (S.val f) (args.toList.map S.val) K){next:Act->World->Prop}{Q:Exit->Act->World->Prop}(hn:∀x v G' w',K x->bp E G' S a w'->aQ G' w' v x->next (a.put o.dst v) w'):CB E o a w next Q:=by obtain⟨g,first,captured,xs,hv,⟨R,hc,hk⟩,hr⟩:=WN hs ho (KK:=λg xs=>∃R,aj E.C g xs R/\∀r,R r->K r.plain) (by unfold zV at h;omega);refine wp_call hs ho hv hr hc λr v w' hR hb hok=>?_;exact hn _ v _ w' (hk r hR) (hs.ext hb) hok.SR
theorem Fo (hs:bp E G S a w){K:FV->Prop}(h:eB E.C S o.op K){next:Act->World->Prop}{Q:Exit->Act->World->Prop}(hn:∀x v G' w',K x->bp E G' S a w'->aQ G' w' v x->next (a.put o.dst v) w'):CB E o a w next Q:=by
 cases hop:o.op with
 |move x=>rw[hop]at h;simp only[eB,force_eq]at h;exact wp_of_yields hs (Yields.same (by simp[execOp,hop]) h (aQ.val hs x)) hn
 |assign x=>rw[hop]at h;simp only[eB,force_eq]at h;exact wp_of_yields hs (Yields.same (by simp[execOp,hop]) h (aQ.val hs x)) hn
 |pick c x y=>rw[hop]at h;exact wp_of_yields hs (PF hs hop h) hn
 |binOp op t x y yt=>rw[hop]at h;simp only[eB]at h;split at h;rename_i hy;exact wp_of_yields hs (Pz hs hop hy h) hn;split at h;rename_i hy;exact wp_of_yields hs (PB hs hop hy h) hn;exact wp_of_yields hs (SO hs hop h) hn
 |unOp op t x=>rw[hop]at h;exact wp_of_yields hs (PG hs hop h) hn
 |convert src dst x=>rw[hop]at h;exact wp_of_yields hs (Hw hs hop h) hn
 |makeInterface t x=>rw[hop]at h;exact wp_of_yields hs (yN hs hop h) hn
 |makeFunc fn first captured=>rw[hop]at h;simp only[eB,jN]at h;exact wp_of_yields hs (xV hs hop h) hn
 |build t parts=>rw[hop]at h;exact wp_of_yields hs (MZ hs hop h) hn
 |buildSlice t len parts=>rw[hop]at h;exact wp_of_yields hs (Cz hs hop h) hn
 |load t x=>rw[hop]at h;exact wp_of_yields hs (PE hs hop h) hn
 |nilCheck x=>rw[hop]at h;exact wp_of_yields hs (Gh hs hop h) hn
 |fieldAddr s x f=>rw[hop]at h;exact wp_of_yields hs (Eh hs hop h) hn
 |field s x f=>rw[hop]at h;exact wp_of_yields hs (MW hs hop h) hn
 |indexAddr t x i=>rw[hop]at h;exact wp_of_yields hs (Ei hs hop h) hn
 |index t x i=>rw[hop]at h;exact wp_of_yields hs (MX hs hop h) hn
 |lookup t x i ok=>rw[hop]at h;exact wp_of_yields hs (Kc hs hop h) hn
 |slice t x lo hi mx=>
  rw[hop]at h;cases mx with
  |none=>exact wp_of_yields hs (MY hs hop h) hn
  |some m=>exact h.elim
 |extract x i=>rw[hop]at h;exact wp_of_yields hs (Hx hs hop h) hn
 |call c=>
  rw[hop]at h;obtain⟨callee,args,types⟩:=c;cases callee with
  |value f=>exact wp_callV hs hop h hn
  |invoke r m=>exact h.elim
  |builtin b=>exact wp_of_yields hs (yO hs hop h) hn
 |_=>rw[hop]at h;exact h.elim
end
end Qv
