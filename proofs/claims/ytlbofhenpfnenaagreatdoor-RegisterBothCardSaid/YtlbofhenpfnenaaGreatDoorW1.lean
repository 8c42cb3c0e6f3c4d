/- Part 1 of the proof: its lemmas. No condition. -/
import Derived.Tactics
import Derived.KernelRfl
import Derived.Below
import Derived.Deep.Quiet
import Derived.RangeFuncNested
import Derived.RangeFuncCalls
import Derived.RangeFuncLeaves
import Derived.RangeFuncBound
import Derived.TacticsIn
import Derived.OrdersIn
set_option maxRecDepth 10000
set_option maxHeartbeats 80000000
set_option linter.all false
namespace Qv
open Go
def aq:=@List.getElem?_eq_getElem
def ai:=@List.length_map
def au:=@List.length_append
def aC:=@List.getElem?_eq_some_iff
def ak:=@decide_eq_false
def aa:=@if_neg
def an:=@Option.some.inj
def af:=@if_pos
def av:=@decide_eq_true
def aK:=@Nat.eq_of_beq_eq_true
def aH:=@List.length_take
def aI:=@List.length_cons
def aO:=@List.mem_singleton
def aM:=@List.getElem?_map
def aL:=@List.getElem_mem
def bC:=@Array.getElem?_eq_some_iff
def aA:=@List.mem_map
def aP:=@List.take_length
def ay:=@Nat.le_refl
def aN:=@List.map_append
def bt:=@Nat.ne_of_beq_eq_false
def bh:=@List.mem_cons_of_mem
def aG:=@List.mem_cons
def bQ:=@List.drop_eq_getElem_cons
def bJ:=@List.length_eq_zero_iff
def bA:=@List.mem_of_getElem?
def aY:=@Bool.and_eq_true
def aW:=@List.mem_append
def br:=@List.append_assoc
def bg:=@List.append_nil
def bk:=@List.length_nil
def cm:=@List.getElem?_append_left
def ef:=@List.take_succ_eq_append_getElem
def bM:=@Option.some.injEq
def cF:=@List.take_of_length_le
def dN:=@List.getElem?_append_right
def bU:=@List.all_eq_true
def dG:=@List.drop_eq_nil_of_le
def dw:=@List.take_append_drop
def dO:=@List.length_filter_le
def eS:=@List.take_append_getElem
def bH:=@Nat.le_trans
def de:=@List.pairwise_cons
def bD:=@Nat.add_mul
def cL:=@List.length_drop
def aS:=@congrArg
def ec:=@Nat.mul_le_mul_right
def gm:=@Nat.eq_of_mul_eq_mul_right
def fo:=@List.length_singleton
def iO:=@List.eq_nil_of_length_eq_zero
def dH:=@List.mem_flatMap
def ee:=@Classical.not_not
def cE:=@List.map_cons
def gR:=@Classical.byContradiction
def fG:=@List.mem_append_left
def dZ:=@List.cons_append
def cz:=@Nat.zero_add
def eP:=@Bool.not_eq_true'
def fR:=@List.map_congr_left
def eC:=@Option.map_some
def eD:=@List.foldl_cons
def gQ:=@Nat.le_of_ble_eq_true
def gV:=@List.singleton_append
def fO:=@Nat.lt_of_lt_of_le
def fP:=@List.ext_getElem?
def iJ:=@Array.getElem?_modify
def gq:=@List.mem_cons_self
def ji:=@Int.eq_ofNat_of_zero_le
def ia:=@List.getElem_of_mem
def iI:=@List.getElem?_of_mem
def fQ:=@List.not_mem_nil
def fS:=@List.any_eq_true
def eR:=@List.cons.inj
def nI:=@List.take_append_of_le_length
def gW:=@List.nodup_append
def jj:=@Bool.or_eq_false_iff
def me:=@Option.isSome_iff_exists
def je:=@List.length_pos_iff
def jf:=@Array.length_toList
def gr:=@List.mem_filter
def gu:=@Nat.not_lt_zero
def lY:=@List.getElem?_cons_succ
def oa:=@List.getD_eq_getElem?_getD
def nY:=@List.mem_of_find?_eq_some
def iH:=@Array.toList_inj
def gj:=@Nat.add_assoc
def ko:=@List.filter_append
def nZ:=@List.filter_cons_of_neg
def mg:=@List.flatMap_append
def iL:=@List.mem_range
def qp:=@List.pairwise_iff_getElem
def nN:=@List.getElem?_eq_none
def jh:=@List.nodup_cons
def lS:=@List.getElem?_drop
def qw:=@List.filter_cons_of_pos
def gT:=@Nat.beq_refl
def gY:=@List.map_map
def lW:=@Int.toNat_natCast
def jU:=@List.nil_append
def jV:=@List.cons.injEq
def nO:=@Nat.mul_le_mul_left
def kg:=@Bool.eq_iff_iff
def pU:=@Option.map_eq_some_iff
def sF:=@Array.getElem?_append_left
def lX:=@Nat.mod_eq_of_lt
def mj:=@List.cons_ne_nil
def iG:=@List.map_nil
def jd:=@Bool.true_and
def pZ:=@List.mem_append_right
def nW:=@List.find?_eq_none
def gU:=@Prod.mk.inj
def nH:=@List.flatten_cons
def sS:=@List.getElem_append_left
def mo:=@List.find?_cons
def mq:=@List.find?_some
def sV:=@List.pairwise_singleton
def nJ:=@Array.toList_map
def nL:=@Option.bind_some
def nP:=@Nat.shiftLeft_eq
def dM:=@Ne.symm
def qy:=@BitVec.toNat_ofNat
def sD:=@Array.getElem?_toList
def nR:=@List.sum_append
def nV:=@Nat.min_eq_left
def pT:=@List.length_range
def mc:=@List.map_take
def qm:=@of_decide_eq_true
def qv:=@List.flatMap_cons
def xM:=@Int.tmod_eq_emod_of_nonneg
def wC:=@List.extract_eq_take_drop
def wM:=@Array.getElem?_eq_getElem
def xB:=@List.getElem_append_right
def qj:=@List.drop_length
def jT:=@Nat.one_mul
def sK:=@List.mem_map_of_mem
def sw:=@Bool.false_eq_true
def pV:=@Bool.or_eq_true
def nQ:=@List.map_drop
def jX:=@Nat.mod_lt
def qi:=@Bool.false_and
def qq:=@List.nodup_nil
def Co:=@List.drop_append_of_le_length
def Dh:=@Nat.shiftLeft_add_eq_or_of_lt
def wB:=@List.extract_toArray
def wJ:=@List.getElem?_append
def xK:=@List.mem_iff_getElem
def pW:=@Bool.false_or
def qa:=@List.sum_cons
def Cg:=@Array.getElem_setIfInBounds
def wN:=@beq_eq_false_iff_ne
def CQ:=@Array.getD_eq_getD_getElem?
def wT:=@List.getElem?_range
def xy:=@List.flatten_append
def Dd:=@Int.fdiv_eq_ediv_of_nonneg
def DG:=@List.nodup_iff_pairwise_ne
def pQ:=@Nat.add_comm
def wI:=@Nat.pos_of_ne_zero
def wP:=@List.mem_filterMap
def xD:=@of_decide_eq_false
def Cy:=@List.getElem?_take_of_lt
def xh:=@List.foldl_append
def sR:=@Nat.lt_irrefl
def wH:=@Option.getD_some
def wL:=@List.mem_flatten
def wQ:=@List.filter_cons
def xg:=@List.getElem_map
def Cn:=@List.drop_of_length_le
def CM:=@Array.getElem?_eq_none
def sE:=@Nat.mul_comm
def CL:=@List.getElem?_toArray
def CY:=@List.contains_iff_mem
def wZ:=@List.range_succ
def Ci:=@List.range_eq_range'
def Ct:=@List.mem_of_mem_drop
def Cu:=@List.mem_of_mem_take
def Cv:=@List.getElem?_set_ne
def CE:=@Nat.div_lt_of_lt_mul
def CH:=@Array.toArray_toList
def wD:=@List.drop_drop
def wR:=@List.drop_zero
def wW:=@UInt8.toNat_lt
def xL:=@List.take_zero
def Cp:=@List.take_succ_cons
def sG:=@Nat.mul_one
def Db:=@List.getElem?_take
def De:=@Int.natCast_nonneg
def xm:=@List.any_cons
def DC:=@Nat.add_sub_cancel
def Df:=@Nat.or_lt_two_pow
def DH:=@List.pairwise_map
def Ow:=@List.eq_nil_iff_forall_not_mem
def Cq:=@List.map_toArray
def DO:=@Nat.lt_succ_self
def Nk:=@Array.getElem?_setIfInBounds
def vZ:=@Sum.inl.inj
def CF:=@Nat.div_add_mod
def Nd:=@Array.getElem?_append_right
theorem oO {p:Prop}(h:p:=by omega):p:=h
theorem kK {p:Prop}(h:p:=by kernel_rfl):p:=h
theorem dD {p:Prop}(h:p:=by decide):p:=h
theorem zL {n:Nat}:0<=n:=Nat.zero_le n
inductive AV where|bool (b:Bool)|int (k:IntKind)(n:Int)|str (s:List UInt8)|vX|Bd|rW|kQ|iface (t:TypeId)(x:AV)|agg (xs:List AV)|eY (xs:List AV)|sl (xs:List (List AV))|imp (xs:List AV)|fn (f:Fn)(first captured:List AV)|mp (ks vs:List AV) deriving Inhabited
def AV.one:AV->Bool|.agg _=>false|.eY _=>false|_=>true
def AV.cells:AV->List AV|.agg xs=>xs|x=>[x]
structure nG (es:List MapEntry)(fZ:Nat):Prop where
 lt:∀e,e∈es->e.born<fZ
 nd:(es.map (·.born)).Nodup
def vY (aZ:Nat->Nat->Prop)(w w':World):Prop:=∀(b:Nat)(es:Array MapEntry)(k:Nat),aZ b 0->w.heap[b]?=some (.map es k)->w'.heap[b]?=some (.map es k)
theorem vY.refl (aZ:Nat->Nat->Prop)(w:World):vY aZ w w:=λ_ _ _ _ h=>h
inductive cZ (aZ:Nat->Nat->Prop)(w:World):Value->AV->Prop|bool (b:Bool):cZ aZ w (.bool b) (.bool b)|int (k:IntKind)(n:Int):cZ aZ w (.int k n) (.int k n)|str (s:List UInt8):cZ aZ w (.string ⟨s.toArray⟩) (.str s)|vX:cZ aZ w (.pointer none) .vX|Bd:cZ aZ w .nilFunc .Bd|rW:cZ aZ w .nilIface .rW|kQ:cZ aZ w (.map none) .kQ|iface (t:TypeId)(v:Value)(x:AV):cZ aZ w v x->cZ aZ w (.iface t v) (.iface t x)|agg (cs:List Value)(xs:List AV):cs.length=xs.length->(∀x,x∈xs->x.one=true)->(∀(i:Nat)(c:Value)(x:AV),cs[i]?=some c->xs[i]?=some x->cZ aZ w c x)->cZ aZ w (.agg cs.toArray) (.agg xs)|eY (cs:List Value)(xs:List AV):cs.length=xs.length->(∀(i:Nat)(c:Value)(x:AV),cs[i]?=some c->xs[i]?=some x->cZ aZ w c x)->cZ aZ w (.tuple cs.toArray) (.eY xs)|WE (a:Option Addr)(c:Nat):cZ aZ w (.slice a 0 c) (.sl [])|sl (b off c bN:Nat)(xs:List (List AV))(cell:Nat->Nat->Value):(∀(i:Nat)(ys:List AV),xs[i]?=some ys->ys.length=bN)->(∀(i:Nat)(ys:List AV)(j:Nat)(y:AV),xs[i]?=some ys->ys[j]?=some y->y.one=true)->(∀(i:Nat)(ys:List AV)(j:Nat)(y:AV),xs[i]?=some ys->ys[j]?=some y->w.cell? ⟨b,off+i*bN+j,none⟩=some (cell i j))->(∀(i:Nat)(ys:List AV)(j:Nat)(y:AV),xs[i]?=some ys->ys[j]?=some y->aZ b (off+i*bN+j))->(∀(i:Nat)(ys:List AV)(j:Nat)(y:AV),xs[i]?=some ys->ys[j]?=some y->cZ aZ w (cell i j) y)->xs.length<=c->cZ aZ w (.slice (some ⟨b,off,none⟩) xs.length c) (.sl xs)|imp (b off:Nat)(xs:List AV)(cell:Nat->Value):(∀(j:Nat)(y:AV),xs[j]?=some y->y.one=true)->(∀(j:Nat)(y:AV),xs[j]?=some y->w.cell? ⟨b,off+j,none⟩=some (cell j))->(∀(j:Nat)(y:AV),xs[j]?=some y->aZ b (off+j))->(∀(j:Nat)(y:AV),xs[j]?=some y->cZ aZ w (cell j) y)->cZ aZ w (.pointer (some ⟨b,off,none⟩)) (.imp xs)|fn (f:Fn)(fs cs:List Value)(first captured:List AV):fs.length=first.length->cs.length=captured.length->(∀(i:Nat)(c:Value)(x:AV),fs[i]?=some c->first[i]?=some x->cZ aZ w c x)->(∀(i:Nat)(c:Value)(x:AV),cs[i]?=some c->captured[i]?=some x->cZ aZ w c x)->cZ aZ w (.func f fs.toArray cs.toArray) (.fn f first captured)|mp (b fZ:Nat)(es:List MapEntry)(ks vs:List AV):ks.length=es.length->vs.length=es.length->aZ b 0->w.heap[b]?=some (.map es.toArray fZ)->nG es fZ->(∀(i:Nat)(e:MapEntry)(x:AV),es[i]?=some e->ks[i]?=some x->cZ aZ w e.key x)->(∀(i:Nat)(e:MapEntry)(x:AV),es[i]?=some e->vs[i]?=some x->cZ aZ w e.val x)->cZ aZ w (.map (some b)) (.mp ks vs)
theorem cZ.keep {aZ qF:Nat->Nat->Prop}{w w':World}{v:Value}{x:AV}(h:cZ aZ w v x)(hi:∀b o,aZ b o->qF b o)(hc:∀b o c,aZ b o->w.cell? ⟨b,o,none⟩=some c->w'.cell? ⟨b,o,none⟩=some c)(hm:vY aZ w w'):cZ qF w' v x:=by
 induction h with
 |bool b=>exact .bool b
 |int k n=>exact .int k n
 |str s=>exact .str s
 |vX=>exact .vX
 |Bd=>exact .Bd
 |rW=>exact .rW
 |kQ=>exact .kQ
 |iface t v x _ ih=>exact .iface t v x ih
 |agg cs xs hl ho _ ih=>exact .agg cs xs hl ho λi c x h1 h2=>ih i c x h1 h2
 |eY cs xs hl _ ih=>exact .eY cs xs hl λi c x h1 h2=>ih i c x h1 h2
 |WE a c=>exact .WE a c
 |sl b off c bN xs cell h1 h2 h3 h4 _ h6 ih=>exact .sl b off c bN xs cell h1 h2 (λi ys j y a1 a2=>hc _ _ _ (h4 i ys j y a1 a2) (h3 i ys j y a1 a2)) (λi ys j y a1 a2=>hi _ _ (h4 i ys j y a1 a2)) (λi ys j y a1 a2=>ih i ys j y a1 a2) h6
 |imp b off xs cell h2 h3 h4 _ ih=>exact .imp b off xs cell h2 (λj y a2=>hc _ _ _ (h4 j y a2) (h3 j y a2)) (λj y a2=>hi _ _ (h4 j y a2)) (λj y a2=>ih j y a2)
 |fn f fs cs first captured hl hl' _ _ ih GU=>exact .fn f fs cs first captured hl hl' (λi c x h1 h2=>ih i c x h1 h2) (λi c x h1 h2=>GU i c x h1 h2)
 |mp b fZ es ks vs h1 h2 h3 h4 h5 _ _ ih GU=>exact .mp b fZ es ks vs h1 h2 (hi _ _ h3) (hm _ _ _ h3 h4) h5 (λi c x a1 a2=>ih i c x a1 a2) (λi c x a1 a2=>GU i c x a1 a2)
theorem cZ.yy {aZ qF:Nat->Nat->Prop}{w w':World}{v:Value}{x:AV}(h:cZ aZ w v x)(hc:∀b o c,aZ b o->w.cell? ⟨b,o,none⟩=some c->qF b o/\w'.cell? ⟨b,o,none⟩=some c)(hm:∀(b:Nat)(es:Array MapEntry)(k:Nat),aZ b 0->w.heap[b]?=some (.map es k)->qF b 0/\w'.heap[b]?=some (.map es k)):cZ qF w' v x:=by
 induction h with
 |bool b=>exact .bool b
 |int k n=>exact .int k n
 |str s=>exact .str s
 |vX=>exact .vX
 |Bd=>exact .Bd
 |rW=>exact .rW
 |kQ=>exact .kQ
 |iface t v x _ ih=>exact .iface t v x ih
 |agg cs xs hl ho _ ih=>exact .agg cs xs hl ho λi c x h1 h2=>ih i c x h1 h2
 |eY cs xs hl _ ih=>exact .eY cs xs hl λi c x h1 h2=>ih i c x h1 h2
 |WE a c=>exact .WE a c
 |sl b off c bN xs cell h1 h2 h3 h4 _ h6 ih=>exact .sl b off c bN xs cell h1 h2 (λi ys j y a1 a2=>(hc _ _ _ (h4 i ys j y a1 a2) (h3 i ys j y a1 a2)).2) (λi ys j y a1 a2=>(hc _ _ _ (h4 i ys j y a1 a2) (h3 i ys j y a1 a2)).1) (λi ys j y a1 a2=>ih i ys j y a1 a2) h6
 |imp b off xs cell h2 h3 h4 _ ih=>exact .imp b off xs cell h2 (λj y a2=>(hc _ _ _ (h4 j y a2) (h3 j y a2)).2) (λj y a2=>(hc _ _ _ (h4 j y a2) (h3 j y a2)).1) (λj y a2=>ih j y a2)
 |fn f fs cs first captured hl hl' _ _ ih GU=>exact .fn f fs cs first captured hl hl' (λi c x h1 h2=>ih i c x h1 h2) (λi c x h1 h2=>GU i c x h1 h2)
 |mp b fZ es ks vs h1 h2 h3 h4 h5 _ _ ih GU=>exact .mp b fZ es ks vs h1 h2 (hm _ _ _ h3 h4).1 (hm _ _ _ h3 h4).2 h5 (λi c x a1 a2=>ih i c x a1 a2) (λi c x a1 a2=>GU i c x a1 a2)
inductive FV where|p (x:AV)|agg (xs:List FV)|eY (xs:List FV)|ptr (o off:Nat)|eU (t:Nat)(T:TypeId)(bN:Nat)(xs:List (List AV))|full (xs:List (List AV))|fn (f:Fn)(first captured:List FV)|mZ (l:Nat)|fc (o:Nat)(T:TypeId)(bN:Nat)|tX (o base:Nat)(T:TypeId)(bN:Nat)|ic (o base off:Nat)|fK (o:Nat)|AL (q:Nat)|dr deriving Inhabited
abbrev Nm:=Nat⊕(Nat×Nat)
instance:Coe Nat Nm:=⟨Sum.inl⟩
theorem UT {i d:Nat}(h:i≠d):(Sum.inl i:Nm)≠Sum.inl d:=λe=>h (vZ e)
structure aV where
 aZ:Nat->Nat->Prop
 loc:Nat->Option Nat
 tail:Nm->Option (Nat×Nat×Nat×TypeId)
 yl:Nat->Option Nat
 row:Nat->Option Nat
 mp:Nat->Option Nat
 it:Nat->Option Nat
inductive aQ (G:aV)(w:World):Value->FV->Prop|p (v:Value)(x:AV):cZ G.aZ w v x->aQ G w v (.p x)|agg (cs:List Value)(xs:List FV):cs.length=xs.length->(∀(i:Nat)(c:Value)(x:FV),cs[i]?=some c->xs[i]?=some x->aQ G w c x)->aQ G w (.agg cs.toArray) (.agg xs)|eY (cs:List Value)(xs:List FV):cs.length=xs.length->(∀(i:Nat)(c:Value)(x:FV),cs[i]?=some c->xs[i]?=some x->aQ G w c x)->aQ G w (.tuple cs.toArray) (.eY xs)|ptr (o off b:Nat):G.loc o=some b->aQ G w (.pointer (some ⟨b,off,none⟩)) (.ptr o off)|eU (t:Nat)(T:TypeId)(bN:Nat)(xs:List (List AV))(a:Option Addr)(c:Nat):cZ G.aZ w (.slice a xs.length c) (.sl xs)->((xs=[]/\c=0)\/∃b off,a=some ⟨b,off,none⟩/\(∀ys,ys∈xs->ys.length=bN)/\G.tail t=some (b,off+xs.length*bN,off+c*bN,T))->aQ G w (.slice a xs.length c) (.eU t T bN xs)|full (xs:List (List AV))(a:Option Addr):cZ G.aZ w (.slice a xs.length xs.length) (.sl xs)->aQ G w (.slice a xs.length xs.length) (.full xs)|fn (f:Fn)(fs cs:List Value)(first captured:List FV):fs.length=first.length->cs.length=captured.length->(∀(i:Nat)(c:Value)(x:FV),fs[i]?=some c->first[i]?=some x->aQ G w c x)->(∀(i:Nat)(c:Value)(x:FV),cs[i]?=some c->captured[i]?=some x->aQ G w c x)->aQ G w (.func f fs.toArray cs.toArray) (.fn f first captured)|mZ (l k:Nat):G.yl l=some k->aQ G w (.func (.yield k) #[] #[]) (.mZ l)|fc (o:Nat)(T:TypeId)(bN n c b:Nat):G.loc o=some b->G.tail o=some (b,n*bN,c*bN,T)->n<=c->0<bN->aQ G w (.slice (some ⟨b,0,none⟩) n c) (.fc o T bN)|tX (o base:Nat)(T:TypeId)(bN n c b off:Nat):G.loc o=some b->G.tail o=some (b,n*bN,c*bN,T)->base<=n/\(base<c->off=base*bN)->n<=c->0<bN->aQ G w (.slice (some ⟨b,off,none⟩) (n-base) (c-base)) (.tX o base T bN)|ic (o base off b:Nat):G.loc o=some b->aQ G w (.pointer (some ⟨b,base+off,none⟩)) (.ic o base off)|fK (o b:Nat):G.mp o=some b->aQ G w (.map (some b)) (.fK o)|AL (q r:Nat):G.it q=some r->aQ G w (.pointer (some ⟨r,0,none⟩)) (.AL q)|dr (v:Value):aQ G w v .dr
theorem aQ.keep {G G':aV}{w w':World}{v:Value}{x:FV}(h:aQ G w v x)(hi:∀b o,G.aZ b o->G'.aZ b o)(hc:∀b o c,G.aZ b o->w.cell? ⟨b,o,none⟩=some c->w'.cell? ⟨b,o,none⟩=some c)(hm:vY G.aZ w w')(hl:∀o b,G.loc o=some b->G'.loc o=some b)(ht:∀(t:Nat) r,G.tail t=some r->G'.tail t=some r)(hy:∀l k,G.yl l=some k->G'.yl l=some k:=by intro _ _ h;exact h)(hmp:∀o b,G.mp o=some b->G'.mp o=some b:=by intro _ _ h;exact h)(hit:∀o b,G.it o=some b->G'.it o=some b:=by intro _ _ h;exact h):aQ G' w' v x:=by
 induction h with
 |p v x h=>exact .p v x (h.keep hi hc hm)
 |agg cs xs hn _ ih=>exact .agg cs xs hn λi c x h1 h2=>ih i c x h1 h2
 |eY cs xs hn _ ih=>exact .eY cs xs hn λi c x h1 h2=>ih i c x h1 h2
 |ptr o off b h=>exact .ptr o off b (hl _ _ h)
 |eU t T bN xs a c h1 h2=>refine .eU t T bN xs a c (h1.keep hi hc hm) ?_;grind
 |full xs a h=>exact .full xs a (h.keep hi hc hm)
 |fn f fs cs first captured hn hn' _ _ ih GU=>exact .fn f fs cs first captured hn hn' (λi c x h1 h2=>ih i c x h1 h2) (λi c x h1 h2=>GU i c x h1 h2)
 |mZ l k h=>exact .mZ l k (hy _ _ h)
 |fc o T bN n c b h1 h2 h3 h4=>exact .fc o T bN n c b (hl _ _ h1) (ht _ _ h2) h3 h4
 |tX o x T bN n c b off h1 h2 h0 h3 h4=>exact .tX o x T bN n c b off (hl _ _ h1) (ht _ _ h2) h0 h3 h4
 |ic o base off b h=>exact .ic o base off b (hl _ _ h)
 |fK o b h=>exact .fK o b (hmp _ _ h)
 |AL q r h=>exact .AL q r (hit _ _ h)
 |dr v=>exact .dr v
theorem aQ.yy {G G':aV}{w w':World}{v:Value}{x:FV}(h:aQ G w v x)(hc:∀b o c,G.aZ b o->w.cell? ⟨b,o,none⟩=some c->G'.aZ b o/\w'.cell? ⟨b,o,none⟩=some c)(hm:∀(b:Nat)(es:Array MapEntry)(k:Nat),G.aZ b 0->w.heap[b]?=some (.map es k)->G'.aZ b 0/\w'.heap[b]?=some (.map es k))(hl:∀o b,G.loc o=some b->G'.loc o=some b)(ht:∀(t:Nat) r,G.tail t=some r->G'.tail t=some r)(hy:∀l k,G.yl l=some k->G'.yl l=some k:=by intro _ _ h;exact h)(hmp:∀o b,G.mp o=some b->G'.mp o=some b:=by intro _ _ h;exact h)(hit:∀o b,G.it o=some b->G'.it o=some b:=by intro _ _ h;exact h):aQ G' w' v x:=by
 induction h with
 |p v x h=>exact .p v x (h.yy hc hm)
 |agg cs xs hn _ ih=>exact .agg cs xs hn λi c x h1 h2=>ih i c x h1 h2
 |eY cs xs hn _ ih=>exact .eY cs xs hn λi c x h1 h2=>ih i c x h1 h2
 |ptr o off b h=>exact .ptr o off b (hl _ _ h)
 |eU t T bN xs a c h1 h2=>refine .eU t T bN xs a c (h1.yy hc hm) ?_;grind
 |full xs a h=>exact .full xs a (h.yy hc hm)
 |fn f fs cs first captured hn hn' _ _ ih GU=>exact .fn f fs cs first captured hn hn' (λi c x h1 h2=>ih i c x h1 h2) (λi c x h1 h2=>GU i c x h1 h2)
 |mZ l k h=>exact .mZ l k (hy _ _ h)
 |fc o T bN n c b h1 h2 h3 h4=>exact .fc o T bN n c b (hl _ _ h1) (ht _ _ h2) h3 h4
 |tX o x T bN n c b off h1 h2 h0 h3 h4=>exact .tX o x T bN n c b off (hl _ _ h1) (ht _ _ h2) h0 h3 h4
 |ic o base off b h=>exact .ic o base off b (hl _ _ h)
 |fK o b h=>exact .fK o b (hmp _ _ h)
 |AL q r h=>exact .AL q r (hit _ _ h)
 |dr v=>exact .dr v
mutual def FV.kill (d:Nat):FV->FV
 |.ptr o off=>match Nat.beq o d with|true=>.dr|false=>.ptr o off
 |.eU t T e xs=>match Nat.beq t d with|true=>.p (.sl xs)|false=>.eU t T e xs
 |.agg xs=>.agg (FV.eL d xs)
 |.eY xs=>.eY (FV.eL d xs)
 |.fn f first captured=>.fn f (FV.eL d first) (FV.eL d captured)
 |.p x=>.p x
 |.full xs=>.full xs
 |.mZ l=>match Nat.beq l d with|true=>.dr|false=>.mZ l
 |.fc o T e=>match Nat.beq o d with|true=>.dr|false=>.fc o T e
 |.tX o x T e=>match Nat.beq o d with|true=>.dr|false=>.tX o x T e
 |.ic o b off=>match Nat.beq o d with|true=>.dr|false=>.ic o b off
 |.fK o=>match Nat.beq o d with|true=>.dr|false=>.fK o
 |.AL o=>match Nat.beq o d with|true=>.dr|false=>.AL o
 |.dr=>.dr def FV.eL (d:Nat):List FV->List FV|[]=>[]|x::xs=>FV.kill d x::FV.eL d xs end
theorem FV.fA (d:Nat)(xs:List FV):FV.eL d xs=xs.map (FV.kill d):=by
 induction xs with
 |nil=>rfl
 |cons x xs ih=>simp[FV.eL,ih]
theorem aQ.kill {G G':aV}{w:World}{v:Value}{x:FV}(d:Nat)(h:aQ G w v x)(hi:G'.aZ=G.aZ)(hl:∀o b,o≠d->G.loc o=some b->G'.loc o=some b)(ht:∀(t:Nat) r,t≠d->G.tail t=some r->G'.tail t=some r)(hy:∀l k,l≠d->G.yl l=some k->G'.yl l=some k:=by intro _ _ _ h;exact h)(hmp:∀o b,o≠d->G.mp o=some b->G'.mp o=some b:=by intro _ _ _ h;exact h)(hit:∀o b,o≠d->G.it o=some b->G'.it o=some b:=by intro _ _ _ h;exact h):aQ G' w v (x.kill d):=by
 induction h with
 |p v x h=>exact .p v x (hi▸h)
 |agg cs xs hn _ ih=>simp only[FV.kill,FV.fA];refine .agg cs _ (by simp_all) λi c x h1 h2=>?_;grind
 |eY cs xs hn _ ih=>simp only[FV.kill,FV.fA];refine .eY cs _ (by simp_all) λi c x h1 h2=>?_;grind
 |ptr o off b h=>simp only[FV.kill];split;exact .dr _;rename_i hb;exact .ptr o off b (hl o b (bt hb) h)
 |eU t T bN xs a c h1 h2=>simp only[FV.kill];split;exact .p _ _ (hi▸h1);rename_i hb;refine .eU t T bN xs a c (hi▸h1) ?_;rcases h2 with h2|⟨b,off,e1,e2,e3⟩;simp_all;exact .inr ⟨b,off,e1,e2,ht _ _ (bt hb) e3⟩
 |full xs a h=>exact .full xs a (hi▸h)
 |fn f fs cs first captured hn hn' _ _ ih GU=>simp only[FV.kill,FV.fA];refine .fn f fs cs _ _ (by simp_all) (by simp_all) (λi c x h1 h2=>?_) (λi c x h1 h2=>?_);grind;grind
 |mZ l k h=>simp only[FV.kill];split;exact .dr _;rename_i hb;exact .mZ l k (hy l k (bt hb) h)
 |fc o T bN n c b h1 h2 h3 h4=>simp only[FV.kill];split;exact .dr _;rename_i hb;have hne:=bt hb;exact .fc o T bN n c b (hl o b hne h1) (ht o _ hne h2) h3 h4
 |tX o x T bN n c b off h1 h2 h0 h3 h4=>simp only[FV.kill];split;exact .dr _;rename_i hb;have hne:=bt hb;exact .tX o x T bN n c b off (hl o b hne h1) (ht o _ hne h2) h0 h3 h4
 |ic o base off b h=>simp only[FV.kill];split;exact .dr _;rename_i hb;exact .ic o base off b (hl o b (bt hb) h)
 |fK o b h=>simp only[FV.kill];split;exact .dr _;rename_i hb;exact .fK o b (hmp o b (bt hb) h)
 |AL o b h=>simp only[FV.kill];split;exact .dr _;rename_i hb;exact .AL o b (hit o b (bt hb) h)
 |dr v=>exact .dr v
mutual def FV.fe:FV->Option AV
 |.p x=>some x
 |.eU _ _ _ xs=>some (.sl xs)
 |.full xs=>some (.sl xs)
 |.agg xs=>match FV.fF xs with
  |some ys=>match ys.all AV.one with|true=>some (.agg ys)|false=>none
  |none=>none
 |.eY xs=>match FV.fF xs with|some ys=>some (.eY ys)|none=>none
 |.fn f first captured=>match FV.fF first with
  |some a=>match FV.fF captured with|some b=>some (.fn f a b)|none=>none
  |none=>none
 |.ptr _ _=>none
 |.mZ _=>none
 |.fc _ _ _=>none
 |.tX _ _ _ _=>none
 |.ic _ _ _=>none
 |.fK _=>none
 |.AL _=>none
 |.dr=>none def FV.fF:List FV->Option (List AV)
 |[]=>some []
 |x::xs=>match FV.fe x with
  |some y=>match FV.fF xs with|some ys=>some (y::ys)|none=>none
  |none=>none end
theorem FV.iT {xs:List FV}{ys:List AV}(h:FV.fF xs=some ys):ys.length=xs.length/\∀(i:Nat)(y:AV),ys[i]?=some y->∃x,xs[i]?=some x/\x.fe=some y:=by
 induction xs generalizing ys with
 |nil=>simp[FV.fF]at h;simp_all
 |cons x xs ih=>simp only[FV.fF]at h;grind
theorem aQ.fe {G:aV}{w:World}{v:Value}{x:FV}(h:aQ G w v x):∀{y:AV},x.fe=some y->cZ G.aZ w v y:=by
 induction h with
 |p v x h=>intro y hy;simp only[FV.fe,bM]at hy;simp_all
 |agg cs xs hn _ ih=>intro y hy;simp only[FV.fe]at hy;split at hy;rename_i ys hys;split at hy;rename_i hall;obtain rfl:=an hy;obtain⟨h1,h2⟩:=FV.iT hys;refine .agg cs ys oO (λx hx=>bU.1 hall x hx) λi c x hc hx=>?_;grind;simp_all;simp_all
 |eY cs xs hn _ ih=>intro y hy;simp only[FV.fe]at hy;split at hy;rename_i ys hys;obtain rfl:=an hy;obtain⟨h1,h2⟩:=FV.iT hys;refine .eY cs ys oO λi c x hc hx=>?_;grind;simp_all
 |ptr o off b h=>intro y hy;simp[FV.fe]at hy
 |eU t T bN xs a c h1 h2=>intro y hy;simp only[FV.fe,bM]at hy;simp_all
 |full xs a h=>intro y hy;simp only[FV.fe,bM]at hy;simp_all
 |fn f fs cs first captured hn hn' _ _ ih GU=>intro y hy;simp only[FV.fe]at hy;split at hy;rename_i ys hys;split at hy;rename_i zs hzs;obtain rfl:=an hy;obtain⟨h1,h2⟩:=FV.iT hys;obtain⟨h3,h4⟩:=FV.iT hzs;refine .fn f fs cs ys zs oO oO (λi c x hc hx=>?_) (λi c x hc hx=>?_);grind;grind;simp_all;simp_all
 |mZ l k h=>intro y hy;simp[FV.fe]at hy
 |fc o T bN n c b h1 h2 h3 h4=>intro y hy;simp[FV.fe]at hy
 |tX o x T bN n c b off h1 h2 h0 h3 h4=>intro y hy;simp[FV.fe]at hy
 |ic o base off b h=>intro y hy;simp[FV.fe]at hy
 |fK o b h=>intro y hy;simp[FV.fe]at hy
 |AL o b h=>intro y hy;simp[FV.fe]at hy
 |dr v=>intro y hy;simp[FV.fe]at hy
mutual def FV.fz (d:Nat)(ys:List AV):FV->FV
 |.ptr o off=>match Nat.beq o d with|true=>.p (.imp (ys.drop off))|false=>.ptr o off
 |.eU t T e xs=>.eU t T e xs
 |.agg xs=>.agg (FV.OR d ys xs)
 |.eY xs=>.eY (FV.OR d ys xs)
 |.fn f first captured=>.fn f (FV.OR d ys first) (FV.OR d ys captured)
 |.p x=>.p x
 |.full xs=>.full xs
 |.mZ l=>.mZ l
 |.fc o T e=>match Nat.beq o d with|true=>.dr|false=>.fc o T e
 |.tX o x T e=>match Nat.beq o d with|true=>.dr|false=>.tX o x T e
 |.ic o b off=>match Nat.beq o d with|true=>.dr|false=>.ic o b off
 |.fK o=>.fK o
 |.AL o=>.AL o
 |.dr=>.dr def FV.OR (d:Nat)(ys:List AV):List FV->List FV|[]=>[]|x::xs=>FV.fz d ys x::FV.OR d ys xs end
theorem FV.uH (d:Nat)(ys:List AV)(xs:List FV):FV.OR d ys xs=xs.map (FV.fz d ys):=by
 induction xs with
 |nil=>rfl
 |cons x xs ih=>simp[FV.OR,ih]
theorem ME {R:Value->FV->Prop}{d:Nat}{ys:List AV}{cs:List Value}{xs:List FV}(ih:∀(i:Nat)(c:Value)(x:FV),cs[i]?=some c->xs[i]?=some x->R c (x.fz d ys)):∀(i:Nat)(c:Value)(x:FV),cs[i]?=some c->(FV.OR d ys xs)[i]?=some x->R c x:=λi c x h1 h2=>by rw[FV.uH,aM]at h2;grind
theorem aQ.fz {G G':aV}{w:World}{v:Value}{x:FV}{d B:Nat}{ys:List AV}(h:aQ G w v x)(hi:∀b o,G.aZ b o->G'.aZ b o)(hB:∀b,G.loc d=some b->b=B)(hc:∀(j:Nat)(y:AV),ys[j]?=some y->y.one=true/\G'.aZ B j/\∃c,w.cell? ⟨B,j,none⟩=some c/\cZ G'.aZ w c y)(hl:∀o b,o≠d->G.loc o=some b->G'.loc o=some b)(ht:∀(t:Nat) r,G.tail t=some r->G'.tail t=some r)(hy:∀l k,G.yl l=some k->G'.yl l=some k:=by intro _ _ h;exact h)(hmp:∀o b,G.mp o=some b->G'.mp o=some b:=by intro _ _ h;exact h)(hit:∀o b,G.it o=some b->G'.it o=some b:=by intro _ _ h;exact h):aQ G' w v (x.fz d ys):=by
 induction h with
 |p v x h=>exact .p v x (h.keep hi (λ_ _ _ _ h=>h) (.refl _ _))
 |agg cs xs hn _ ih=>exact .agg cs _ (by simpa[FV.uH]using hn) (ME ih)
 |eY cs xs hn _ ih=>exact .eY cs _ (by simpa[FV.uH]using hn) (ME ih)
 |ptr o off b h=>
  simp only[FV.fz];split
  ·rename_i hb;obtain rfl:=aK hb;obtain rfl:=hB b h;refine .p _ _ (.imp b off _ (λj=>(w.cell? ⟨b,off+j,none⟩).getD undef) ?_ ?_ ?_ ?_);all_goals intro j y hj;rw[lS]at hj;obtain⟨h1,h2,c,h3,h4⟩:=hc _ _ hj
   exact h1;rw[h3];rfl;exact h2;rw[h3];exact h4
  rename_i hb;exact .ptr o off b (hl o b (bt hb) h)
 |eU t T bN xs a c h1 h2=>refine .eU t T bN xs a c (h1.keep hi (λ_ _ _ _ h=>h) (.refl _ _)) ?_;grind
 |full xs a h=>exact .full xs a (h.keep hi (λ_ _ _ _ h=>h) (.refl _ _))
 |fn f fs cs first captured hn hn' _ _ ih GU=>exact .fn f fs cs _ _ (by simpa[FV.uH]using hn) (by simpa[FV.uH]using hn') (ME ih) (ME GU)
 |mZ l k h=>exact .mZ l k (hy _ _ h)
 |fc o T bN n c b h1 h2 h3 h4=>simp only[FV.fz];split;exact .dr _;rename_i hb;have hne:=bt hb;exact .fc o T bN n c b (hl o b hne h1) (ht o _ h2) h3 h4
 |tX o x T bN n c b off h1 h2 h0 h3 h4=>simp only[FV.fz];split;exact .dr _;rename_i hb;have hne:=bt hb;exact .tX o x T bN n c b off (hl o b hne h1) (ht o _ h2) h0 h3 h4
 |ic o base off b h=>simp only[FV.fz];split;exact .dr _;rename_i hb;exact .ic o base off b (hl o b (bt hb) h)
 |fK o b h=>exact .fK o b (hmp _ _ h)
 |AL o b h=>exact .AL o b (hit _ _ h)
 |dr v=>exact .dr v
mutual def FV.fm (d:Nat)(x:AV):FV->FV
 |.fK o=>match Nat.beq o d with|true=>.p x|false=>.fK o
 |.ptr o off=>.ptr o off
 |.eU t T e xs=>.eU t T e xs
 |.agg xs=>.agg (FV.YT d x xs)
 |.eY xs=>.eY (FV.YT d x xs)
 |.fn f first captured=>.fn f (FV.YT d x first) (FV.YT d x captured)
 |.p y=>.p y
 |.full xs=>.full xs
 |.mZ l=>.mZ l
 |.fc o T e=>.fc o T e
 |.tX o x T e=>.tX o x T e
 |.ic o b off=>.ic o b off
 |.AL o=>.AL o
 |.dr=>.dr def FV.YT (d:Nat)(x:AV):List FV->List FV|[]=>[]|y::ys=>FV.fm d x y::FV.YT d x ys end
theorem FV.we (d:Nat)(y:AV)(xs:List FV):FV.YT d y xs=xs.map (FV.fm d y):=by
 induction xs with
 |nil=>rfl
 |cons x xs ih=>simp[FV.YT,ih]
theorem MF {R:Value->FV->Prop}{d:Nat}{z:AV}{cs:List Value}{xs:List FV}(ih:∀(i:Nat)(c:Value)(x:FV),cs[i]?=some c->xs[i]?=some x->R c (x.fm d z)):∀(i:Nat)(c:Value)(x:FV),cs[i]?=some c->(FV.YT d z xs)[i]?=some x->R c x:=λi c x h1 h2=>by rw[FV.we,aM]at h2;grind
theorem aQ.fm {G G':aV}{w:World}{v:Value}{x:FV}{d:Nat}{z:AV}(h:aQ G w v x)(hi:∀b o,G.aZ b o->G'.aZ b o)(hz:∀b,G.mp d=some b->cZ G'.aZ w (.map (some b)) z)(hl:∀o b,G.loc o=some b->G'.loc o=some b)(ht:∀(t:Nat) r,G.tail t=some r->G'.tail t=some r)(hy:∀l k,G.yl l=some k->G'.yl l=some k)(hmp:∀o b,o≠d->G.mp o=some b->G'.mp o=some b)(hit:∀o b,G.it o=some b->G'.it o=some b):aQ G' w v (x.fm d z):=by
 induction h with
 |p v x h=>exact .p v x (h.keep hi (λ_ _ _ _ h=>h) (.refl _ _))
 |agg cs xs hn _ ih=>exact .agg cs _ (by simpa[FV.we]using hn) (MF ih)
 |eY cs xs hn _ ih=>exact .eY cs _ (by simpa[FV.we]using hn) (MF ih)
 |ptr o off b h=>exact .ptr o off b (hl _ _ h)
 |eU t T bN xs a c h1 h2=>refine .eU t T bN xs a c (h1.keep hi (λ_ _ _ _ h=>h) (.refl _ _)) ?_;grind
 |full xs a h=>exact .full xs a (h.keep hi (λ_ _ _ _ h=>h) (.refl _ _))
 |fn f fs cs first captured hn hn' _ _ ih GU=>exact .fn f fs cs _ _ (by simpa[FV.we]using hn) (by simpa[FV.we]using hn') (MF ih) (MF GU)
 |mZ l k h=>exact .mZ l k (hy _ _ h)
 |fc o T bN n c b h1 h2 h3 h4=>exact .fc o T bN n c b (hl _ _ h1) (ht _ _ h2) h3 h4
 |tX o x T bN n c b off h1 h2 h0 h3 h4=>exact .tX o x T bN n c b off (hl _ _ h1) (ht _ _ h2) h0 h3 h4
 |ic o base off b h=>exact .ic o base off b (hl _ _ h)
 |fK o b h=>simp only[FV.fm];split;rename_i hb;obtain rfl:=aK hb;exact .p _ _ (hz b h);rename_i hb;exact .fK o b (hmp o b (bt hb) h)
 |AL o b h=>exact .AL o b (hit _ _ h)
 |dr v=>exact .dr v
def KM:Nat->Option (List AV):=λ_=>none
def oM (aZ:Nat->Nat->Prop)(w:World):Prop:=∀(g:Nat)(xs:List AV),KM g=some xs->cZ aZ w (.pointer (some ⟨g,0,none⟩)) (.imp xs)
end Qv
namespace Qv
universe u
open Go
inductive Shape where|int (k:IntKind)|bool|str|slice (e:TypeId)|struct (fs:List (Nat×TypeId))|array (n:Nat)(e:TypeId)|map (k e:TypeId)|ptr (e:TypeId)|iface|func|other deriving Inhabited
def Shape.isAgg:Shape->Bool|.struct _=>true|.array _ _=>true|_=>false
structure jL where
 size:Nat
 bytes:Nat
 shape:Shape
 zero:List Value deriving Inhabited
def shapeOf:TypeDesc->Shape|.bool=>.bool|.int k=>.int k|.string=>.str|.pointer e=>.ptr e|.slice e=>.slice e|.array n e=>.array n e|.map k e=>.map k e|.struct fs=>.struct (fs.toList.map λf=>(f.offset,f.type))|.func _ _ _=>.func|.interface _=>.iface|_=>.other
structure fL (P:Program)(t:TypeId)(i:jL):Prop where
 info:(P.info? t).map (λinf=>(inf.size,inf.bytes,inf.zero.map λv=>v.cells.toList))=some (i.size,i.bytes,some i.zero)
 und:(P.underlying t).map shapeOf=some i.shape
 len:i.zero.length=i.size
structure Extra where
 opens:List Nat
 Be:List Nat
 full:Bool
 inl:List FuncId:=[]
 frm:List Nat:=[]
 fzo:List Nat:=[]
 JU:List (Nat×(TypeId×Nat×Option AV)):=[]
 rmr:List Nat:=[]
 rel:List FuncId:=[]
structure Ctx where
 P:Program
 js:List (TypeId×jL)
 ah3:∀t i,(t,i)∈js->fL P t i
 J:World->Prop
 ov:Nat
 mixed:P.follows .mixedOrders=true
 bT:TypeId
 bE:TypeId
 ags:∀w w':World,(∀k,k<ov->w'.heap[k]?=w.heap[k]?)->J w->J w'
 ah4:List Nat
 ex:Extra
def Ctx.cut (C:Ctx)(l:List Nat):Ctx:={C with ah4:=l}
def Ctx.open (C:Ctx)(e:Extra):Ctx:={C with ex:=e}
def bP:List (TypeId×jL)->TypeId->Option jL|[],_=>none|(u,i)::r,t=>match Nat.beq u t with|true=>some i|false=>bP r t
inductive dh where|val (x:AV)|fresh (T:TypeId)(bN:Nat)(xs:List (List AV))|vf (x:FV)|own (rest:Option (List AV))(T:TypeId)(bN:Nat)(xss:List (List AV))
def agt (rest:Option (List AV))(s:Value)(us:List Value):Value:=match rest with|none=>s|some _=>.tuple (s::us).toArray
def Ze (aZ:Nat->Nat->Prop)(B b:Nat):Nat->Nat->Prop:=λb' o=>aZ b' o\/(B<=b'/\b'≠b)
def bare (aZ:Nat->Nat->Prop):aV:=⟨aZ,λ_=>none,λ_=>none,λ_=>none,λ_=>none,λ_=>none,λ_=>none⟩
def mz (aZ:Nat->Nat->Prop)(B:Nat):Nat->Nat->Prop:=λb o=>aZ b o\/B<=b
def ng (aZ:Nat->Nat->Prop)(B:Nat)(w':World)(v:Value):dh->Prop|.val x=>cZ (mz aZ B) w' v x|.fresh T bN xs=>∃a c,v=.slice a xs.length c/\((xs=[]/\c=0/\cZ (mz aZ B) w' v (.sl xs))\/∃b off cs fr,a=some ⟨b,off,none⟩/\B<=b/\b<w'.heap.size/\(∀ys,ys∈xs->ys.length=bN)/\w'.heap[b]?=some (.cells cs T fr)/\(∀i,off+xs.length*bN<=i->i<off+c*bN->(∃u,w'.cell? ⟨b,i,none⟩=some u)/\w'.frozen? ⟨b,i,none⟩=false)/\cZ (λb' o=>aZ b' o\/(B<=b'/\¬(b'=b/\off+xs.length*bN<=o/\o<off+c*bN))) w' v (.sl xs))|.vf x=>aQ (bare (mz aZ B)) w' v x|.own rest T bN xss=>∃(b c:Nat) (cs:Array Value) (fr:Nat×Nat) (us:List Value),v=agt rest (.slice (some ⟨b,0,none⟩) xss.length c) us/\B<=b/\b<w'.heap.size/\0<bN/\xss.length<=c/\(∀ys,ys∈xss->ys.length=bN/\∀y,y∈ys->y.one=true)/\w'.heap[b]?=some (.cells cs T fr)/\(∀i,w'.frozen? ⟨b,i,none⟩=false)/\(∀i,i<c*bN->∃u,w'.cell? ⟨b,i,none⟩=some u)/\(∀(i:Nat)(x:AV),xss.flatten[i]?=some x->∃u,w'.cell? ⟨b,i,none⟩=some u/\cZ (Ze aZ B b) w' u x)/\∀r,rest=some r->us.length=r.length/\∀(i:Nat)(u:Value)(x:AV),us[i]?=some u->r[i]?=some x->cZ (Ze aZ B b) w' u x
def aj (C:Ctx)(f:FuncId)(args:List AV)(R:dh->Prop):Prop:=(∃fn,C.P.funcs[f]?=some fn/\fn.body.isNone=false/\(fn.name== "runtime.NumGoroutine")=false)/\∀(aZ:Nat->Nat->Prop)(w:World)(vs:List Value),C.J w/\oM aZ w->C.ov<=w.heap.size->(∀b o,aZ b o->b<w.heap.size)->vs.length=args.length->(∀(i:Nat)(v:Value)(x:AV),vs[i]?=some v->args[i]?=some x->cZ aZ w v x)->Calls C.P f vs.toArray w λe w'=>∃v r,e=.returned v/\R r/\ng aZ w.heap.size w' v r/\RowKit.Below w.heap.size w w'
def GV (C:Ctx)(f:FuncId)(cells args:List AV)(R:AV->List AV->Prop):Prop:=(∃fn,C.P.funcs[f]?=some fn/\fn.body.isNone=false/\(fn.name== "runtime.NumGoroutine")=false)/\∀(aZ:Nat->Nat->Prop)(w:World)(b:Nat)(vs:List Value),C.J w/\oM aZ w->C.ov<=w.heap.size->(∀b o,aZ b o->b<w.heap.size)->C.ov<=b->b<w.heap.size->(∀i,¬aZ b i/\w.frozen? ⟨b,i,none⟩=false)->(∀(i:Nat)(x:AV),cells[i]?=some x->∃c,w.cell? ⟨b,i,none⟩=some c/\cZ aZ w c x)->vs.length=args.length->(∀(i:Nat)(v:Value)(x:AV),vs[i]?=some v->args[i]?=some x->cZ aZ w v x)->Calls C.P f (.pointer (some ⟨b,0,none⟩)::vs).toArray w λe w'=>∃v r cells',e=.returned v/\R r cells'/\cells'.length=cells.length/\cZ (mz aZ w.heap.size) w' v r/\(∀(i:Nat)(x:AV),cells'[i]?=some x->∃c,w'.cell? ⟨b,i,none⟩=some c/\cZ (mz aZ w.heap.size) w' c x)/\w'.os=w.os/\w'.tape=w.tape/\w'.output=w.output/\w.heap.size<=w'.heap.size/\(∀k,k<w.heap.size->k≠b->w'.heap[k]?=w.heap[k]?)/\(∀cs T fr,w.heap[b]?=some (.cells cs T fr)->∃cs',w'.heap[b]?=some (.cells cs' T fr)/\cs'.size=cs.size)
def Zf (C:Ctx)(f:FuncId)(T:TypeId)(bN:Nat)(cells args:List AV)(R:Bool->List AV->Prop):Prop:=(∃fn,C.P.funcs[f]?=some fn/\fn.body.isNone=false/\(fn.name== "runtime.NumGoroutine")=false)/\∀(aZ:Nat->Nat->Prop)(w:World)(b n c:Nat)(vs:List Value),C.J w/\oM aZ w->C.ov<=w.heap.size->(∀b o,aZ b o->b<w.heap.size)->C.ov<=b->b<w.heap.size->(∀i,¬aZ b i/\w.frozen? ⟨b,i,none⟩=false)->(∃cs fr,w.heap[b]?=some (.cells cs T fr))->cells.length=n*bN->n<=c->0<bN->(∀(i:Nat)(x:AV),cells[i]?=some x->∃c,w.cell? ⟨b,i,none⟩=some c/\cZ aZ w c x)->vs.length=args.length->(∀(i:Nat)(v:Value)(x:AV),vs[i]?=some v->args[i]?=some x->cZ aZ w v x)->Calls C.P f (.slice (some ⟨b,0,none⟩) n c::vs).toArray w λe w'=>∃(v:Value) (r:Bool) (ys full:List AV),e=.returned v/\R r ys/\full.length=cells.length/\(match r with|false=>v=.tuple #[]/\ys=full|true=>∃m:Nat,v=.slice (some ⟨b,0,none⟩) m c/\m<=n/\ys=full.take (m*bN))/\(∀(i:Nat)(x:AV),full[i]?=some x->∃c,w'.cell? ⟨b,i,none⟩=some c/\cZ (mz aZ w.heap.size) w' c x)/\w'.os=w.os/\w'.tape=w.tape/\w'.output=w.output/\w.heap.size<=w'.heap.size/\(∀k,k<w.heap.size->k≠b->w'.heap[k]?=w.heap[k]?)/\(∀cs T fr,w.heap[b]?=some (.cells cs T fr)->∃cs',w'.heap[b]?=some (.cells cs' T fr)/\cs'.size=cs.size)
structure Fr where
 n:Nat
 off:Nat
 tmps:Nat->FV
inductive yg where|ready|busy|MG|GW (id:Nat)
def yz (C:Ctx)(w:World)(b:Nat)(row:Option Nat)(bs:List UInt8):Prop:=∃(p:Option Addr) (v:Value),(p=none\/p=some ⟨b,0,none⟩)/\w.heap[b]?=some (.cells #[.pointer p,v] C.bT (0,0))/\match row with|none=>v=.slice none 0 0/\bs=[]|some r=>b≠r/\∃(cap:Nat) (cur:Array Value),v=.slice (some ⟨r,0,none⟩) bs.length cap/\w.heap[r]?=some (.cells cur C.bE (0,0))/\bs.length<=cap/\cap<=9223372036854775807/\cur.size=cap/\cur.toList.take bs.length=bs.map λc=>Value.int .u8 (c.toNat:Int)
def uY (C:Ctx)(f:FuncId)(args:List AV)(bs:List UInt8)(out:Option (List UInt8))(r:AV):Prop:=(∃fn,C.P.funcs[f]?=some fn/\fn.body.isNone=false/\(fn.name== "runtime.NumGoroutine")=false)/\∀(aZ:Nat->Nat->Prop)(w:World)(b:Nat)(row:Option Nat)(vs:List Value),C.J w/\oM aZ w->C.ov<=w.heap.size->(∀b o,aZ b o->b<w.heap.size)->C.ov<=b->(∀r,row=some r->C.ov<=r)->(∀i,¬aZ b i)->(∀r i,row=some r->¬aZ r i)->yz C w b row bs->vs.length=args.length->(∀(i:Nat)(v:Value)(x:AV),vs[i]?=some v->args[i]?=some x->cZ aZ w v x)->Calls C.P f (.pointer (some ⟨b,0,none⟩)::vs).toArray w λe w'=>∃v,e=.returned v/\cZ (λ_ _=>False) w' v r/\(match out with|some bs'=>∃row',yz C w' b row' bs'/\(row'=row\/row'=none\/∃x,row'=some x/\w.heap.size<=x)|none=>∃p v,w'.heap[b]?=some (.cells #[p,v] C.bT (0,0)))/\w'.os=w.os/\w'.tape=w.tape/\w'.output=w.output/\w.heap.size<=w'.heap.size/\∀k,k<w.heap.size->k≠b->row≠some k->w'.heap[k]?=w.heap[k]?
structure ah where
 n:Nat
 off:Nat
 tmps:Nat->FV
 aJ:List (Nat×List FV)
 bF:List Fr
 bV:List yg
 cw:List (Nat×List UInt8)
 maps:List (Nat×List (AV×FV)):=[]
 iF:List (Nat×(Option (AV×AV)×List (AV×AV))):=[]
def ah.Pb (S:ah)(m:List (Nat×List (AV×FV))):ah:={S with maps:=m}
def ltB (i n:Nat):Bool:=match n with|0=>false|m+1=>Nat.ble i m
@[simp] theorem ads (i n:Nat):(ltB i n=true)=(i<n):=by
 cases n with
 |zero=>simp[ltB]
 |succ m=>simp[ltB,Nat.lt_succ_iff]
def ah.get (S:ah)(i:Nat):FV:=match ltB i S.n with|true=>S.tmps i|false=>.dr
def ah.put (S:ah)(dst:Option Nat)(v:FV):ah:=match dst with|none=>S|some d=>{S with tmps:=λi=>match Nat.beq i d with|true=>v|false=>S.tmps i}
def getObj:List (Nat×List FV)->Nat->Option (List FV)|[],_=>none|(u,i)::r,t=>match Nat.beq u t with|true=>some i|false=>getObj r t
def AD (l:List (Nat×List FV))(d:Nat):Option (List FV):=match Nat.beq d 999999 with|true=>none|false=>getObj l d
def setObj:List (Nat×List FV)->Nat->List FV->List (Nat×List FV)|[],_,_=>[]|(u,i)::r,t,c=>match Nat.beq u t with|true=>(u,c)::r|false=>(u,i)::setObj r t c
def eo (d:Nat):List (Nat×List FV)->List (Nat×List FV)|[]=>[]|(u,i)::r=>match Nat.beq u d with|true=>eo d r|false=>(u,FV.eL d i)::eo d r
def lH:List (Nat×List UInt8)->Nat->Option (List UInt8)|[],_=>none|(u,i)::r,t=>match Nat.beq u t with|true=>some i|false=>lH r t
def Zg:List (Nat×List UInt8)->Nat->List UInt8->List (Nat×List UInt8)|[],_,_=>[]|(u,i)::r,t,c=>match Nat.beq u t with|true=>(u,c)::r|false=>(u,i)::Zg r t c
def BU (d:Nat):List (Nat×List UInt8)->List (Nat×List UInt8)|[]=>[]|(u,i)::r=>match Nat.beq u d with|true=>BU d r|false=>(u,i)::BU d r
def BV (f:FV->FV):List (AV×FV)->List (AV×FV)|[]=>[]|(k,x)::r=>(k,f x)::BV f r
theorem MH (f:FV->FV)(l:List (AV×FV)):BV f l=l.map λp=>(p.1,f p.2):=by
 induction l with
 |nil=>rfl
 |cons p l ih=>obtain⟨k,x⟩:=p;simp[BV,ih]
def xR (f:FV->FV):List (Nat×List (AV×FV))->List (Nat×List (AV×FV))|[]=>[]|(u,l)::r=>(u,BV f l)::xR f r
def getM {α:Type}:List (Nat×α)->Nat->Option α|[],_=>none|(u,i)::r,t=>match Nat.beq u t with|true=>some i|false=>getM r t
def uZ {α:Type}:List (Nat×α)->Nat->α->List (Nat×α)|[],_,_=>[]|(u,i)::r,t,c=>match Nat.beq u t with|true=>(u,c)::r|false=>(u,i)::uZ r t c
def va {α:Type}(d:Nat):List (Nat×α)->List (Nat×α)|[]=>[]|(u,i)::r=>match Nat.beq u d with|true=>va d r|false=>(u,i)::va d r
def Fr.map (f:FV->FV)(r:Fr):Fr:={r with tmps:=λi=>f (r.tmps i)}
def yB (f:FV->FV):List Fr->List Fr|[]=>[]|r::rs=>r.map f::yB f rs
theorem GX (f:FV->FV)(rs:List Fr):yB f rs=rs.map (Fr.map f):=by
 induction rs with
 |nil=>rfl
 |cons r rs ih=>simp[yB,ih]
def ah.kill (S:ah)(d:Nat):ah:={S with tmps:=λi=>(S.tmps i).kill d,aJ:=eo d S.aJ,bF:=yB (FV.kill d) S.bF,cw:=BU d S.cw,maps:=xR (FV.kill d) (va d S.maps),iF:=va d S.iF}
def FV.one:FV->Bool|.agg _=>false|.eY _=>false|.p x=>x.one|.dr=>false|_=>true
def iW:List FV->Bool|[]=>true|x::xs=>match x.one with|true=>iW xs|false=>false
def aF:List AV->List FV|[]=>[]|x::xs=>.p x::aF xs
def FV.cells:FV->List FV|.agg xs=>xs|.p (.agg xs)=>aF xs|x=>[x]
def takeN:Nat->List FV->Option (List FV)|0,_=>some []|_+1,[]=>none|n+1,x::xs=>match takeN n xs with|some ys=>some (x::ys)|none=>none
def Fi:Nat->List AV->Option (List AV)|0,_=>some []|_+1,[]=>none|n+1,x::xs=>match Fi n xs with|some ys=>some (x::ys)|none=>none
def fT {α:Type}:Nat->List α->List α|0,xs=>xs|_+1,[]=>[]|n+1,_::xs=>fT n xs
def JV {α:Type}:List α->Nat->α->Option (List α)|[],_,_=>none|_::xs,0,y=>some (y::xs)|x::xs,n+1,y=>match JV xs n y with|some zs=>some (x::zs)|none=>none
def gC {α:Type}:List α->Nat->List α->Option (List α)|xs,_,[]=>some xs|xs,n,y::ys=>match JV xs n y with|some zs=>gC zs (n+1) ys|none=>none
def FV.gP:Value->FV|.bool b=>.p (.bool b)|.int k n=>.p (.int k n)|.string s=>.p (.str s.data.toList)|.pointer none=>.p .vX|.nilFunc=>.p .Bd|.nilIface=>.p .rW|.map none=>.p .kQ|.slice none 0 0=>.full []|_=>.dr
def FV.Pc:Value->FV|.agg cs=>.agg (cs.toList.map FV.gP)|.tuple ⟨[]⟩=>.p (.eY [])|v=>FV.gP v
def ah.val (S:ah):Operand->FV|.tmp t=>S.get t|.const v=>FV.Pc v|.func f=>.p (.fn (.func f) [] [])|.global g=>match KM g with|some xs=>.p (.imp xs)|none=>.dr
structure Al {α:Sort u}(p:α->Prop):Prop where
 out:∀x,p x
def force (v:FV)(K:FV->Prop):Prop:=match v with|.p x=>K (.p x)|.agg xs=>K (.agg xs)|.eY xs=>K (.eY xs)|.ptr o off=>K (.ptr o off)|.eU t T e xs=>K (.eU t T e xs)|.full xs=>K (.full xs)|.fn f a b=>K (.fn f a b)|.mZ l=>K (.mZ l)|.fc o T e=>K (.fc o T e)|.tX o x T e=>K (.tX o x T e)|.ic o b off=>K (.ic o b off)|.fK o=>K (.fK o)|.AL o=>K (.AL o)|.dr=>K .dr
theorem force_eq (v:FV)(K:FV->Prop):force v K=K v:=by cases v<;>rfl
def pN:List FV->(List FV->Prop)->Prop|[],K=>K []|x::xs,K=>force x λy=>pN xs λys=>K (y::ys)
theorem jN (xs:List FV)(K:List FV->Prop):pN xs K=K xs:=by
 induction xs generalizing K with
 |nil=>rfl
 |cons x xs ih=>simp only[pN,force_eq,ih]
def FV.elems:FV->Option (List (List AV))|.p (.sl xs)=>some xs|.eU _ _ _ xs=>some xs|.full xs=>some xs|_=>none
def Gv (a b:List UInt8):Bool:=Op.bytesLess a b
def yh (op:BinOp)(k:IntKind)(x y:Int):Int:=k.wrap (match op with|.and=>BitVec.ofInt k.bits x&&&BitVec.ofInt k.bits y|.or=>BitVec.ofInt k.bits x|||BitVec.ofInt k.bits y|.xor=>BitVec.ofInt k.bits x^^^BitVec.ofInt k.bits y|_=>BitVec.ofInt k.bits x&&&~~~BitVec.ofInt k.bits y).toNat
def adt:BinOp->Bool|.shl=>true|.shr=>true|_=>false
def BW (op:BinOp)(k:IntKind)(a b:Int)(K:FV->Prop):Prop:=match op with|.shl=>0<=b/\∃c,k.wrap (a*2^(min b.toNat k.bits))=c/\K (.p (.int k c))|.shr=>0<=b/\∃c,a.fdiv (2^(min b.toNat k.bits))=c/\K (.p (.int k c))|_=>False
def Pd (op:BinOp)(k:IntKind)(a b:Int)(K:FV->Prop):Prop:=match op with|.add=>∃c,k.wrap (a+b)=c/\K (.p (.int k c))|.sub=>∃c,k.wrap (a-b)=c/\K (.p (.int k c))|.mul=>∃c,k.wrap (a*b)=c/\K (.p (.int k c))|.quo=>b≠0/\∃c,k.wrap (a.tdiv b)=c/\K (.p (.int k c))|.rem=>b≠0/\∃c,a.tmod b=c/\K (.p (.int k c))|.and=>∃c,yh .and k a b=c/\K (.p (.int k c))|.or=>∃c,yh .or k a b=c/\K (.p (.int k c))|.xor=>∃c,yh .xor k a b=c/\K (.p (.int k c))|.andNot=>∃c,yh .andNot k a b=c/\K (.p (.int k c))|.eql=>Al λt:Bool=>t=(a==b)->K (.p (.bool t))|.neq=>Al λt:Bool=>t=(a !=b)->K (.p (.bool t))|.lss=>Al λt:Bool=>t=decide (a<b)->K (.p (.bool t))|.leq=>Al λt:Bool=>t=decide (a<=b)->K (.p (.bool t))|.gtr=>Al λt:Bool=>t=decide (a>b)->K (.p (.bool t))|.geq=>Al λt:Bool=>t=decide (a≥b)->K (.p (.bool t))|_=>False
def Pe (op:BinOp)(a b:List UInt8)(K:FV->Prop):Prop:=match op with|.add=>a.length+b.length<2^62/\K (.p (.str (a++b)))|.eql=>Al λt:Bool=>t=(a==b)->K (.p (.bool t))|.neq=>Al λt:Bool=>t=!(a==b)->K (.p (.bool t))|.lss=>Al λt:Bool=>t=Gv a b->K (.p (.bool t))|.leq=>Al λt:Bool=>t=(Gv a b||a==b)->K (.p (.bool t))|.gtr=>Al λt:Bool=>t=!(Gv a b||a==b)->K (.p (.bool t))|.geq=>Al λt:Bool=>t=!Gv a b->K (.p (.bool t))|_=>False
def Zh:IntKind->Nat|.i8=>0|.i16=>1|.i32=>2|.i64=>3|.u8=>4|.u16=>5|.u32=>6|.u64=>7
def AM (k k':IntKind):Bool:=Nat.beq (Zh k) (Zh k')
theorem rI {k k':IntKind}(h:AM k k'=true):k=k':=by have :=aK h;cases k<;>cases k'<;>first|rfl|(simp[Zh]at this)
inductive gI where|bool|int (k:IntKind)|str deriving Inhabited
def adu (P:Program)(t:TypeId):Option (List gI)->Option (List gI)|none=>none|some l=>match Nat.beq (P.cellsOf t) l.length with|true=>some l|false=>none
mutual def eM (P:Program):Nat->TypeId->Option (List gI)
 |0,_=>none
 |d+1,t=>match P.underlying t with
  |some .bool=>some [.bool]
  |some (.int k)=>some [.int k]
  |some .string=>some [.str]
  |some (.struct fs)=>match P.stoodInHeld t with|true=>none|false=>adu P t (ow P d 0 fs.toList)
  |some (.array n e)=>match eM P d e with|none=>none|some l=>match Nat.beq (P.cellsOf e) l.length with|true=>adu P t (some (List.replicate n l).flatten)|false=>none
  |_=>none def ow (P:Program):Nat->Nat->List Field->Option (List gI)
 |0,_,_=>none
 |_+1,_,[]=>some []
 |d+1,off,f::fs=>match f.name== "_",Nat.beq f.offset off with
  |false,true=>match eM P d f.type with|none=>none|some l=>match ow P d (off+l.length) fs with|none=>none|some r=>some (l++r)
  |_,_=>none end
def gI.fits:gI->AV->Bool|.bool,.bool _=>true|.int k,.int k' _=>AM k k'|.str,.str _=>true|_,_=>false
def fB:List gI->List AV->Bool
 |[],[]=>true
 |l::ls,x::xs=>match l.fits x with|true=>fB ls xs|false=>false
 |_,_=>false
def gz (agg:Bool)(L:List gI)(x:AV):Bool:=match agg,x with|true,.agg xs=>fB L xs|true,_=>false|false,.agg _=>false|false,x=>fB L [x]
def rX:AV->AV->Bool|.bool a,.bool b=>a==b|.int k a,.int k' b=>AM k k'&&a==b|.str a,.str b=>a==b|_,_=>false
def sameAs:List AV->List AV->Bool|[],[]=>true|x::xs,y::ys=>rX x y&&sameAs xs ys|_,_=>false
def jR:AV->AV->Bool|.agg a,.agg b=>sameAs a b|x,y=>rX x y
def DX (C:Ctx)(t:TypeId)(op:BinOp)(x y:FV)(K:FV->Prop):Prop:=match bP C.js t with|none=>False|some i=>match i.shape.isAgg,x.fe,y.fe with|true,some (.agg xs),some (.agg ys)=>∃L,eM C.P 40 t=some L/\C.P.eqGuardType C.P.depth t=false/\fB L xs=true/\fB L ys=true/\(match op with|.eql=>Al λb:Bool=>b=sameAs xs ys->K (.p (.bool b))|.neq=>Al λb:Bool=>b=!sameAs xs ys->K (.p (.bool b))|_=>False)|_,_,_=>False
def GY (C:Ctx)(t:TypeId)(op:BinOp)(x y:FV)(K:FV->Prop):Prop:=match x,y with
 |.p (.int k a),.p (.int k' b)=>match adt op with|true=>BW op k a b K|false=>match AM k k' with|true=>Pd op k a b K|false=>False
 |.p (.str a),.p (.str b)=>Pe op a b K
 |.ptr _ _,.p .vX=>match op,bP C.js t with|.eql,some ⟨_,_,.ptr _,_⟩=>K (.p (.bool false))|.neq,some ⟨_,_,.ptr _,_⟩=>K (.p (.bool true))|_,_=>False
 |.p .vX,.p .vX=>match op,bP C.js t with|.eql,some ⟨_,_,.ptr _,_⟩=>K (.p (.bool true))|.neq,some ⟨_,_,.ptr _,_⟩=>K (.p (.bool false))|_,_=>False
 |.ptr o f,.ptr o' f'=>match Nat.beq o o',Nat.beq f f',op,bP C.js t with
  |true,true,.eql,some ⟨_,_,.ptr e,_⟩=>match bP C.js e with|some _=>K (.p (.bool true))|none=>False
  |true,true,.neq,some ⟨_,_,.ptr e,_⟩=>match bP C.js e with|some _=>K (.p (.bool false))|none=>False
  |_,_,_,_=>False
 |.p (.bool a),.p (.bool b)=>match bP C.js t with
  |some ⟨_,_,.bool,_⟩=>match op with|.eql=>Al λt:Bool=>t=(a==b)->K (.p (.bool t))|.neq=>Al λt:Bool=>t=!(a==b)->K (.p (.bool t))|_=>False
  |_=>False
 |x,y=>DX C t op x y K
def MI:Operand->Bool|.const .nilIface=>true|_=>false
def Bf (C:Ctx)(t:TypeId)(op:BinOp)(x:FV)(K:FV->Prop):Prop:=match bP C.js t with
 |some ⟨_,_,.iface,_⟩=>match op,x with|.eql,.p .rW=>K (.p (.bool true))|.eql,.p (.iface _ _)=>K (.p (.bool false))|.neq,.p .rW=>K (.p (.bool false))|.neq,.p (.iface _ _)=>K (.p (.bool true))|_,_=>False
 |_=>False
def MJ:Operand->Bool|.const (.slice none 0 0)=>true|_=>false
def MK (C:Ctx)(t:TypeId)(op:BinOp)(x:FV)(K:FV->Prop):Prop:=match bP C.js t with
 |some ⟨_,_,.slice _,_⟩=>match x with
  |.fc _ _ _=>match op with|.eql=>K (.p (.bool false))|.neq=>K (.p (.bool true))|_=>False
  |x=>match x.elems with|none=>False|some xs=>match op with|.eql=>Al λb:Bool=>(xs≠[]->b=false)->K (.p (.bool b))|.neq=>Al λb:Bool=>(xs≠[]->b=true)->K (.p (.bool b))|_=>False
 |_=>False
def nh (C:Ctx)(aJ:List (Nat×List FV))(t:TypeId)(a:FV)(K:FV->Prop):Prop:=match bP C.js t with
 |none=>False
 |some i=>match a with
  |.ptr o off=>match getObj aJ o with
   |none=>False
   |some cells=>match i.shape.isAgg with
    |true=>match takeN i.size (fT off cells)with|none=>False|some cs=>K (.agg cs)
    |false=>match fT off cells with|[]=>False|x::_=>K x
  |.p (.imp xs)=>match i.shape.isAgg with
   |true=>match Fi i.size xs with|none=>False|some cs=>K (.p (.agg cs))
   |false=>match xs with|[]=>False|x::_=>K (.p x)
  |.ic o base off=>match getObj aJ o with
   |none=>False
   |some cells=>∃A ys B:List FV,cells=A++(ys++B)/\A.length=base/\(match i.shape.isAgg with
    |true=>match takeN i.size (fT off ys)with|none=>False|some cs=>K (.agg cs)
    |false=>match fT off ys with|[]=>False|x::_=>K x)
  |_=>False
def ni (C:Ctx)(s:TypeId)(x:FV)(f:Nat)(K:FV->Prop):Prop:=match bP C.js s with
 |some ⟨_,_,.struct fs,_⟩=>match fT f fs with|[]=>False|(o,t)::_=>match bP C.js t with|none=>False|some j=>match j.size with|0=>False|_+1=>match x with|.ptr b off=>K (.ptr b (off+o))|.p (.imp xs)=>K (.p (.imp (fT o xs)))|.ic b base off=>K (.ic b base (off+o))|_=>False
 |_=>False
def wg (C:Ctx)(s:TypeId)(x:FV)(f:Nat)(K:FV->Prop):Prop:=match bP C.js s with
 |some ⟨_,_,.struct fs,_⟩=>match fT f fs with
  |[]=>False
  |(o,t)::_=>match bP C.js t with
   |none=>False
   |some j=>match x with
    |.agg xs=>match j.shape.isAgg with
     |true=>match takeN j.size (fT o xs)with|some cs=>K (.agg cs)|none=>False
     |false=>match fT o xs with|y::_=>K y|[]=>False
    |.p (.agg xs)=>match j.shape.isAgg with
     |true=>match Fi j.size (fT o xs)with|some cs=>K (.p (.agg cs))|none=>False
     |false=>match fT o xs with|y::_=>K (.p y)|[]=>False
    |_=>False
 |_=>False
def jk (C:Ctx)(aJ:List (Nat×List FV))(t:TypeId)(x i:FV)(K:FV->Prop):Prop:=match i with
 |.p (.int _ n)=>match bP C.js t with
  |some ⟨_,_,.slice e,_⟩=>match bP C.js e with
   |none=>False
   |some j=>match x with
    |.fc o _ bN=>match getObj aJ o,Nat.beq bN j.size with|some cells,true=>∃m base:Nat,n=m/\m*bN=base/\base+bN<=cells.length/\K (.ic o base 0)|_,_=>False
    |.tX o x _ bN=>match getObj aJ o,Nat.beq bN j.size with|some cells,true=>∃m base:Nat,n=m/\(x+m)*bN=base/\base+bN<=cells.length/\K (.ic o base 0)|_,_=>False
    |x=>match x.elems with|none=>False|some xs=>0<=n/\∃ys,xs[n.toNat]?=some ys/\ys.length=j.size/\K (.p (.imp ys))
  |some ⟨_,_,.array len e,_⟩=>match bP C.js e with|none=>False|some j=>∃m:Nat,n=m/\m<len/\(match x with|.ptr o off=>∃sym:Bool,(match sym with|true=>∃base,off+m*j.size=base/\K (.ic o base 0)|false=>K (.ptr o (off+m*j.size)))|.ic o b off=>∃base,b+(off+m*j.size)=base/\K (.ic o base 0)|.p (.imp xs)=>∃ys,fT (m*j.size) xs=ys/\K (.p (.imp ys))|_=>False)
  |_=>False
 |_=>False
def wh (C:Ctx)(t:TypeId)(x i:FV)(K:FV->Prop):Prop:=match i with
 |.p (.int _ n)=>match bP C.js t with
  |some ⟨_,_,.str,_⟩=>match x with|.p (.str s)=>0<=n/\∃c,s[n.toNat]?=some c/\K (.p (.int .u8 c.toNat))|_=>False
  |some ⟨_,_,.array len e,_⟩=>match bP C.js e with
   |none=>False
   |some j=>match j.shape.isAgg with
    |true=>∃m:Nat,n=m/\m<len/\(match x with
     |.agg xs=>match takeN j.size (fT (m*j.size) xs)with|some cs=>K (.agg cs)|none=>False
     |.p (.agg xs)=>match Fi j.size (fT (m*j.size) xs)with|some cs=>K (.p (.agg cs))|none=>False
     |_=>False)
    |false=>∃m:Nat,n=m/\m<len/\(match x with
     |.agg xs=>match fT (m*j.size) xs with|y::_=>K y|[]=>False
     |.p (.agg xs)=>match fT (m*j.size) xs with|y::_=>K (.p y)|[]=>False
     |_=>False)
  |_=>False
 |_=>False
def tY (x:Option FV)(dflt:Nat)(K:Nat->Prop):Prop:=match x with|none=>K dflt|some (.p (.int _ n))=>∃m:Nat,n=m/\K m|some _=>False
def ML (C:Ctx)(t:TypeId)(x:FV)(lo hi:Option FV)(K:FV->Prop):Prop:=match bP C.js t with
 |some ⟨_,_,.str,_⟩=>match x with|.p (.str s)=>tY hi s.length λh=>tY lo 0 λl=>l<=h/\h<=s.length/\∃s',(s.take h).drop l=s'/\K (.p (.str s'))|_=>False
 |some ⟨_,_,.slice e,_⟩=>match bP C.js e with|none=>False|some j=>match x.elems with|none=>False|some xs=>tY hi xs.length λh=>tY lo 0 λl=>l<=h/\h<=xs.length/\(∀ys,ys∈xs->ys.length=j.size)/\∃xs',(xs.take h).drop l=xs'/\K (.p (.sl xs'))
 |some ⟨_,_,.array len e,_⟩=>match bP C.js e with|none=>False|some j=>match x with|.p (.imp xs)=>tY hi len λh=>tY lo 0 λl=>l<=h/\h<=len/\j.size=1/\len<=xs.length/\∃xs',((xs.take h).drop l).map (λx=>[x])=xs'/\K (.p (.sl xs'))|_=>False
 |_=>False
def nj (fs:List (Nat×TypeId))(js:List (TypeId×jL))(S:ah):List (Nat×Operand)->List FV->Option (List FV)
 |[],cells=>some cells
 |(i,x)::rest,cells=>match fT i fs with
  |[]=>none
  |(o,t)::_=>match bP js t with
   |none=>none
   |some j=>match Nat.beq j.size 0,Nat.beq (S.val x).cells.length j.size,iW (S.val x).cells with
    |false,true,true=>match gC cells o (S.val x).cells with|none=>none|some cells'=>nj fs js S rest cells'
    |_,_,_=>none
def fM (size:Nat)(S:ah):List (Nat×Operand)->List FV->Option (List FV)
 |[],cells=>some cells
 |(i,x)::rest,cells=>match Nat.beq size 0,Nat.beq (S.val x).cells.length size,iW (S.val x).cells with
  |false,true,true=>match gC cells (i*size) (S.val x).cells with|none=>none|some cells'=>fM size S rest cells'
  |_,_,_=>none
def placesOf (js:List (TypeId×jL)):List (Nat×TypeId)->Option (List (Nat×Nat))|[]=>some []|(o,t)::fs=>match bP js t with|none=>none|some j=>match placesOf js fs with|none=>none|some ps=>some ((o,j.size)::ps)
def Gw (C:Ctx)(S:ah)(t:TypeId)(parts:List (Nat×Operand))(K:FV->Prop):Prop:=match bP C.js t with
 |some ⟨_,_,.struct fs,zero⟩=>match placesOf C.js fs with|none=>False|some _=>match nj fs C.js S parts (zero.map FV.gP)with|some cs=>pN cs λcs=>K (.agg cs)|none=>False
 |some ⟨_,_,.array _ e,zero⟩=>match bP C.js e with|none=>False|some j=>match fM j.size S parts (zero.map FV.gP)with|some cs=>pN cs λcs=>K (.agg cs)|none=>False
 |_=>False
def od {α:Type}:Nat->List α->List α|0,_=>[]|n+1,xs=>xs++od n xs
def chunk {α:Type}(size:Nat):Nat->List α->List (List α)|0,_=>[]|n+1,xs=>xs.take size::chunk size n (xs.drop size)
def lT (C:Ctx)(S:ah)(t:TypeId)(len:Nat)(parts:List (Nat×Operand))(K:FV->Prop):Prop:=match bP C.js t with
 |some ⟨_,_,.slice e,_⟩=>match bP C.js e with
  |none=>False
  |some j=>match Nat.ble (len*j.size) 1000000 with
   |false=>False
   |true=>match fM j.size S parts (od len (j.zero.map FV.gP))with
    |some cs=>match iW cs with|false=>False|true=>match FV.fF cs with|some ys=>K (.full (chunk j.size len ys))|none=>False
    |none=>False
 |_=>False
def iA:Nat->List Nat->Bool|_,[]=>false|i,d::ds=>match Nat.beq i d with|true=>true|false=>iA i ds
def Shape.Fj:Shape->Bool|.slice _=>true|.str=>true|_=>false
def FV.items:FV->Option (List (List AV))|.p (.str s)=>some (s.map λ(b:UInt8)=>[AV.int .u8 (b.toNat:Int)])|y=>y.elems
def wj (S:ah)(d:Nat)(K:Nat->Prop):Prop:=match S.off with|0=>K d|n+1=>K (n+1+d)
theorem mF (S:ah)(d:Nat)(K:Nat->Prop):wj S d K=K (S.off+d):=by unfold wj;split;rename_i h;rw[h,cz];rename_i n h;rw[h]
def su (S:ah)(d:Nat)(K:Nat->Prop):Prop:=match S.off with
 |0=>match Nat.beq d 999999 with|true=>False|false=>K d
 |n+1=>match Nat.beq (n+1+d) 999999 with|true=>False|false=>K (n+1+d)
theorem lU (S:ah)(d:Nat)(K:Nat->Prop):su S d K=(Nat.beq (S.off+d) 999999=false/\K (S.off+d)):=by unfold su;split;rename_i h;rw[h,cz];cases Nat.beq d 999999<;>simp;rename_i n h;rw[h];cases Nat.beq (n+1+d) 999999<;>simp
def GZ (n:Nat)(K:Nat->Prop):Prop:=match n with|0=>K 0|m+1=>K (m+1)
theorem Pf (n:Nat)(K:Nat->Prop):GZ n K=K n:=by cases n<;>rfl
def th (C:Ctx)(t u d:TypeId)(S:ah)(x y:FV)(K:ah->Prop):Prop:=match bP C.js t,bP C.js u with
 |some ⟨_,_,.slice e,_⟩,some ui=>match ui.shape.Fj with
  |false=>False
  |true=>match bP C.js e with
   |none=>False
   |some j=>match y.items with
    |none=>False
    |some ys=>match x with
     |.eU k T bN xs=>match Nat.beq bN j.size,Nat.beq j.bytes 0,Nat.beq T e with|true,false,true=>(∀zs,zs∈xs->zs.length=bN)/\(∀zs,zs∈ys->zs.length=bN)/\(xs.length+ys.length)*j.bytes<=140737488355328/\∃zs,xs++ys=zs/\K ((S.kill k).put (some d) (.eU k T bN zs))|_,_,_=>False
     |.fc k T bN=>match Nat.beq bN j.size,Nat.beq T e,Nat.beq j.bytes 0 with
      |true,true,false=>match AD S.aJ k with|none=>False|some xs=>∃n:Nat,xs.length=n*j.size/\(∀zs,zs∈ys->zs.length=j.size)/\(n+ys.length)*j.bytes<=140737488355328/\∃zs,FV.eL k (xs++aF ys.flatten)=zs/\K ({S.kill k with aJ:=(k,zs)::eo k S.aJ}.put (some d) (.fc k e j.size))
      |_,_,_=>False
     |.full []=>match Nat.beq j.bytes 0 with|false=>(∀zs,zs∈ys->zs.length=j.size)/\ys.length*j.bytes<=140737488355328/\wj S d λnm=>K ((S.kill nm).put (some d) (.eU nm e j.size ys))|true=>False
     |.full (q::r)=>match Nat.beq j.bytes 0 with|false=>ys≠[]/\(∀zs,zs∈q::r->zs.length=j.size)/\(∀zs,zs∈ys->zs.length=j.size)/\((q::r).length+ys.length)*j.bytes<=140737488355328/\wj S d λnm=>∃zs,(q::r)++ys=zs/\K ((S.kill nm).put (some d) (.eU nm e j.size zs))|true=>False
     |_=>False
 |_,_=>False
def Sz (C:Ctx)(t u d:TypeId)(S:ah)(x:FV)(o2:Nat)(T2:TypeId)(e2:Nat)(K:ah->Prop):Prop:=match bP C.js t,bP C.js u with
 |some ⟨_,_,.slice e,_⟩,some ui=>match ui.shape.Fj with
  |false=>False
  |true=>match bP C.js e with
   |none=>False
   |some j=>match Nat.beq e2 j.size,Nat.beq T2 e,Nat.beq j.bytes 0 with
    |true,true,false=>match getObj S.aJ o2 with
     |none=>False
     |some ys=>match x with
      |.fc k T bN=>match Nat.beq bN j.size,Nat.beq T e,Nat.beq k o2 with
       |true,true,false=>match AD S.aJ k with|none=>False|some xs=>∃n m:Nat,xs.length=n*j.size/\ys.length=m*j.size/\iW ys=true/\(n+m)*j.bytes<=140737488355328/\∃zs,FV.eL k (xs++ys)=zs/\K ({S.kill k with aJ:=(k,zs)::eo k S.aJ}.put (some d) (.fc k e j.size))
       |_,_,_=>False
      |.full []=>∃m:Nat,0<m/\ys.length=m*j.size/\iW ys=true/\m*j.bytes<=140737488355328/\su S d λnm=>∃zs,FV.eL nm ys=zs/\K ({S.kill nm with aJ:=(nm,zs)::eo nm S.aJ}.put (some d) (.fc nm e j.size))
      |_=>False
    |_,_,_=>False
 |_,_=>False
def jv (C:Ctx)(aJ:List (Nat×List FV))(b:Builtin)(args:List FV)(types:List TypeId)(K:FV->Prop):Prop:=match b with
 |.len=>match args,types with
  |[x],[t]=>match bP C.js t with
   |none=>False
   |some ⟨_,_,.str,_⟩=>match x with|.p (.str s)=>K (.p (.int .i64 s.length))|_=>False
   |some ⟨_,_,.slice _,_⟩=>match x with
    |.fc o _ bN=>match getObj aJ o with|some cells=>∃n:Nat,cells.length=n*bN/\K (.p (.int .i64 n))|none=>False
    |.tX o x _ bN=>match getObj aJ o with|some cells=>∃n:Nat,cells.length=(x+n)*bN/\K (.p (.int .i64 n))|none=>False
    |x=>match x.elems with|some xs=>K (.p (.int .i64 xs.length))|none=>False
   |_=>False
  |_,_=>False
 |.min=>match args with
  |[.p (.int k a),.p (.int k' b)]=>match AM k k' with|true=>∃c,(if b<a then b else a)=c/\K (.p (.int k c))|false=>False
  |_=>False
 |.max=>match args with
  |[.p (.int k a),.p (.int k' b)]=>match AM k k' with|true=>∃c,(if b>a then b else a)=c/\K (.p (.int k c))|false=>False
  |_=>False
 |_=>False
def agu (rest:Option (List AV))(x:FV):FV:=match rest with|none=>x|some r=>.eY (x::aF r)
def ah.got (S:ah)(dst:Option Nat):dh->ah
 |.own rest T bN xss=>match dst with|some d=>{S.kill (S.off+d)with aJ:=(S.off+d,aF xss.flatten)::eo (S.off+d) S.aJ}.put (some d) (agu rest (.fc (S.off+d) T bN))|none=>S
 |.val x=>S.put dst (.p x)
 |.fresh T bN xs=>match dst with|some d=>(S.kill (S.off+d)).put (some d) (.eU (S.off+d) T bN xs)|none=>S
 |.vf x=>S.put dst x
def afE (S:ah)(dst:Option Nat):dh->Prop|.own _ _ _ _=>∀d,dst=some d->S.off+d≠999999|_=>True
def Pg (S:ah)(dst:Option Nat)(r:dh)(K:ah->Prop):Prop:=match r with
 |.own rest T bN xss=>match dst with|some d=>su S d λnm=>∃zs,aF xss.flatten=zs/\K ({S.kill nm with aJ:=(nm,zs)::eo nm S.aJ}.put (some d) (agu rest (.fc nm T bN)))|none=>K S
 |.val x=>K (S.put dst (.p x))
 |.fresh T bN xs=>match dst with|some d=>wj S d λnm=>K ((S.kill nm).put (some d) (.eU nm T bN xs))|none=>K S
 |.vf x=>K (S.put dst x)
theorem Gx {S:ah}{dst:Option Nat}{r:dh}{K:ah->Prop}(h:Pg S dst r K):afE S dst r/\K (S.got dst r):=by
 unfold Pg at h;cases r with
 |val x=>exact⟨trivial,h⟩
 |fresh T bN xs=>
  cases dst with
  |none=>exact⟨trivial,h⟩
  |some d=>simp only[mF]at h;exact⟨trivial,h⟩
 |vf x=>exact⟨trivial,h⟩
 |own rest T bN xss=>
  cases dst with
  |none=>exact⟨λd hd=>(by cases hd),h⟩
  |some d=>simp only[lU]at h;obtain⟨h1,zs,rfl,h2⟩:=h;exact⟨λd' hd=>by cases hd;exact bt h1,h2⟩
abbrev oN:=Nat->List FV->(FV->ah->Prop)->ah->Prop
abbrev ig:=oN->FuncId->List FV->(FV->ah->Prop)->ah->Prop
def adv (P:Program)(g:FuncId):Prop:=∀(v:Value)(w:World),(callFunc g #[v]).run P w=.ok (.value v) w
def SA (S:ah)(d:Nat):ah:={(S.kill (S.off+d)).put (some d) (.ptr (S.off+d) 0)with cw:=(S.off+d,[])::BU (S.off+d) S.cw}
def AV.flat:AV->Bool|.bool _=>true|.int _ _=>true|.str _=>true|.vX=>true|.Bd=>true|.rW=>true|.kQ=>true|_=>false
def KN:List AV->Bool|[]=>true|x::xs=>match x.flat with|true=>KN xs|false=>false
theorem DY {xs:List AV}(h:KN xs=true):∀x,x∈xs->x.flat=true:=by
 induction xs with
 |nil=>simp
 |cons x xs ih=>simp only[KN]at h;split at h;rename_i h1;intro y hy;rcases aG.1 hy with rfl|hy;exact h1;exact ih h y hy;cases h
theorem cZ.flat {aZ qF:Nat->Nat->Prop}{w:World}{v:Value}{x:AV}(h:cZ aZ w v x)(hx:x.flat=true):cZ qF w v x:=by
 cases h with
 |bool b=>exact .bool b
 |int k n=>exact .int k n
 |str s=>exact .str s
 |vX=>exact .vX
 |Bd=>exact .Bd
 |rW=>exact .rW
 |kQ=>exact .kQ
 |_=>simp[AV.flat]at hx
def Zi (C:Ctx)(S:ah)(dst:Option Nat)(g:FuncId)(o:Nat)(bs:List UInt8)(args:List FV)(K:ah->Prop):Prop:=match FV.fF args with|none=>False|some xs=>∃(out:Option (List UInt8)) (r:AV),uY C g xs bs out r/\(match out with|some bs'=>K ({S with cw:=Zg S.cw o bs'}.put dst (.p r))|none=>K ({S with cw:=BU o S.cw}.put dst (.p r)))
def Zj (S:ah):List FV->Option (Nat×List UInt8×List FV)
 |.ptr o 0::rest=>match lH S.cw o with|some bs=>some (o,bs,rest)|none=>none
 |_=>none
def ah.BX (S:ah)(ob:Nat)(cs:List FV):ah:={S with aJ:=setObj S.aJ ob cs}
def DZ (d:Nat)(z:AV):List (Nat×List FV)->List (Nat×List FV)|[]=>[]|(u,i)::r=>(u,FV.YT d z i)::DZ d z r
def ah.Ph (S:ah)(d:Nat)(z:AV):ah:={S with tmps:=λi=>(S.tmps i).fm d z,aJ:=DZ d z S.aJ,bF:=yB (FV.fm d z) S.bF,maps:=xR (FV.fm d z) (va d S.maps)}
def gA {α:Type}:List (AV×α)->List AV|[]=>[]|(k,_)::r=>k::gA r
def tj {α:Type}:List (AV×α)->List α|[]=>[]|(_,x)::r=>x::tj r
structure Zk (S:ah)(d:Nat)(ks vs:List AV):Prop where
 mp:∃l,getM S.maps d=some l/\gA l=ks/\FV.fF (tj l)=some vs
def Zl (C:Ctx)(S:ah)(dst:Option Nat)(g:FuncId)(args:List FV)(K:ah->Prop):Prop:=∃(d:Nat) (ks vs:List AV),Zk S d ks vs/\match FV.fF (FV.YT d (.mp ks vs) args)with|some xs=>∃R,aj C g xs R/\∀r,R r->Pg (S.Ph d (.mp ks vs)) dst r K|none=>False
def Ea (d:Nat)(ys:List AV):List (Nat×List FV)->List (Nat×List FV)|[]=>[]|(u,i)::r=>match Nat.beq u d with|true=>Ea d ys r|false=>(u,FV.OR d ys i)::Ea d ys r
def ah.Be (S:ah)(d:Nat)(ys:List AV):ah:={S with tmps:=λi=>(S.tmps i).fz d ys,aJ:=Ea d ys S.aJ,bF:=yB (FV.fz d ys) S.bF,maps:=xR (FV.fz d ys) S.maps}
def tZ:List AV->Bool|[]=>true|x::xs=>match x.one with|true=>tZ xs|false=>false
def adw (C:Ctx)(S:ah)(dst:Option Nat)(g:FuncId)(args:List FV)(K:ah->Prop):Prop:=∃(d:Nat) (ys:List AV),match AD S.aJ d with|none=>False|some cells=>FV.fF cells=some ys/\tZ ys=true/\match FV.fF (FV.OR d ys args)with|some xs=>∃R,aj C g xs R/\∀r,R r->Pg (S.Be d ys) dst r K|none=>False
def Zm (S:ah)(dst:Option Nat)(o:Nat)(T:TypeId)(bN:Nat)(r:Bool)(ys:List AV)(K:ah->Prop):Prop:=match r with|false=>K ((S.BX o (aF ys)).put dst (.p (.eY [])))|true=>match dst with|some d=>∃zs,aF ys=zs/\K ({S.kill o with aJ:=(o,zs)::eo o S.aJ}.put (some d) (.fc o T bN))|none=>False
def Pj (C:Ctx)(S:ah)(dst:Option Nat)(g:FuncId)(args:List FV)(K:ah->Prop):Prop:=match args with
 |.ptr o 0::rest=>match getObj S.aJ o,FV.fF rest with
  |some cells,some xs=>match FV.fF cells with|some (z::zs)=>∃R,GV C g (z::zs) xs R/\∀r ys,R r ys->K ((S.BX o (aF ys)).put dst (.p r))|_=>False
  |_,_=>False
 |.fc o T bN::rest=>match AD S.aJ o,FV.fF rest with
  |some cells,some xs=>match FV.fF cells with|some zs=>∃R,Zf C g T bN zs xs R/\∀r ys,R r ys->Zm S dst o T bN r ys K|none=>False
  |_,_=>False
 |args=>Zl C S dst g args K\/adw C S dst g args K
mutual inductive Fk (S:ah):FV->AV->Prop|plain {x:FV}{y:AV}:x.fe=some y->Fk S x y|fc {o:Nat}{T:TypeId}{bN:Nat}{cells:List FV}{xss:List (List AV)}:AD S.aJ o=some cells->vb S cells xss.flatten->(∀ys,ys∈xss->ys.length=bN/\∀y,y∈ys->y.one=true)->Fk S (.fc o T bN) (.sl xss)|ptr {o:Nat}{cells:List FV}{ys:List AV}:AD S.aJ o=some cells->vb S cells ys->(∀y,y∈ys->y.one=true)->Fk S (.ptr o 0) (.imp ys)|fK {o:Nat}{l:List (AV×FV)}{ks vs:List AV}:getM S.maps o=some l->gA l=ks->vb S (tj l) vs->Fk S (.fK o) (.mp ks vs)|fn {f:Fn}{fs cs:List FV}{a b:List AV}:vb S fs a->vb S cs b->Fk S (.fn f fs cs) (.fn f a b)|agg {xs:List FV}{ys:List AV}:vb S xs ys->(∀y,y∈ys->y.one=true)->Fk S (.agg xs) (.agg ys) inductive vb (S:ah):List FV->List AV->Prop|plain {xs:List FV}{ys:List AV}:FV.fF xs=some ys->vb S xs ys|nil:vb S [] []|cons {x:FV}{y:AV}{xs:List FV}{ys:List AV}:Fk S x y->vb S xs ys->vb S (x::xs) (y::ys) end
def AV.He:AV->Bool|.eY xs=>KN xs|x=>x.flat
def Zn (C:Ctx)(S:ah)(dst:Option Nat)(g:FuncId)(args:List FV)(K:ah->Prop):Prop:=∃(xs:List AV) (R:dh->Prop),vb S args xs/\aj C g xs R/\∀r,R r->(∃x,r=.val x/\x.He=true)/\Pg S dst r K
def aR (x y:FV):Prop:=∀(G:aV)(w:World)(v:Value),aQ G w v x->aQ G w v y
structure bL (S S':ah):Prop where
 n:S'.n=S.n
 off:S'.off=S.off
 bV:S'.bV=S.bV
 cw:∀o bs,lH S'.cw o=some bs->lH S.cw o=some bs/\(getObj S.aJ o=none->getObj S'.aJ o=none)
 bF:S'.bF.length=S.bF.length/\∀(i:Nat)(f f':Fr),S.bF[i]?=some f->S'.bF[i]?=some f'->f'.n=f.n/\f'.off=f.off/\∀j,aR (f.tmps j) (f'.tmps j)
 tmps:∀i,aR (S.tmps i) (S'.tmps i)
 aJ:∀o ys,getObj S'.aJ o=some ys->∃xs,getObj S.aJ o=some xs/\xs.length=ys.length/\∀(i:Nat)(x y:FV),xs[i]?=some x->ys[i]?=some y->aR x y
 maps:∀o l',getM S'.maps o=some l'->∃l,getM S.maps o=some l/\l.length=l'.length/\∀(i:Nat)(p p':AV×FV),l[i]?=some p->l'[i]?=some p'->p'.1=p.1/\aR p.2 p'.2
 iF:∀q x,getM S'.iF q=some x->getM S.iF q=some x
def ah5 (C:Ctx)(g:FuncId)(K:ah->Prop)(S:ah):Prop:=match iA g C.ex.rel with|true=>∃T,bL S T/\K T|false=>K S
def Pk (C:Ctx)(call:ig)(Y:oN)(S:ah)(dst:Option Nat)(g:FuncId)(args:List FV)(K:ah->Prop):Prop:=match Zj S args with|some (o,bs,rest)=>Zi C S dst g o bs rest K|none=>call Y g args (λv S'=>ah5 C g K (S'.put dst v)) S\/((adv C.P g/\match args with|[x]=>K (S.put dst x)|_=>False)\/Zn C S dst g args K)\/Pj C S dst g args K
def al9:List FV->Option Int|[.full [],.p (.int .i64 n)]=>some n|_=>none
def akl (C:Ctx)(f:FuncId)(n:Int)(R:dh->Prop):Prop:=(∃fn,C.P.funcs[f]?=some fn/\fn.body.isNone=false/\(fn.name== "runtime.NumGoroutine")=false)/\∀(aZ:Nat->Nat->Prop)(w:World)(a:Option Addr),C.J w/\oM aZ w->C.ov<=w.heap.size->(∀b o,aZ b o->b<w.heap.size)->Calls C.P f #[.slice a 0 0,.int .i64 n] w λe w'=>∃v r,e=.returned v/\R r/\ng aZ w.heap.size w' v r/\RowKit.Below w.heap.size w w'
def agv (aZ:Nat->Nat->Prop)(b:Nat):aV:=⟨aZ,λo=>if o=999999 then some b else none,λ_=>none,λ_=>none,λ_=>none,λ_=>none,λ_=>none⟩
mutual def FV.only:FV->Bool
 |.p _=>true
 |.agg xs=>FV.Hf xs
 |.eY xs=>FV.Hf xs
 |.ptr o _=>Nat.beq o 999999
 |.full _=>true
 |.fn _ a b=>match FV.Hf a with|true=>FV.Hf b|false=>false
 |.dr=>true
 |_=>false def FV.Hf:List FV->Bool|[]=>true|x::xs=>match x.only with|true=>FV.Hf xs|false=>false end
def Zo (C:Ctx)(call:ig)(Y:oN)(S:ah)(dst:Option Nat)(f:FV)(args:List FV)(K:ah->Prop):Prop:=match f with
 |.p (.fn (.func g) first captured)=>match iA g C.ex.inl with|true=>Pk C call Y S dst g (aF first++args++aF captured) K|false=>match FV.fF args with|some xs=>∃R,aj C g (first++xs++captured) R/\∀r,R r->Pg S dst r K|none=>Pk C call Y S dst g (aF first++args++aF captured) K
 |.fn (.func g) first captured=>match FV.fF (first++args++captured)with|some xs=>∃R,aj C g xs R/\∀r,R r->Pg S dst r K|none=>Pk C call Y S dst g (first++args++captured) K
 |.mZ l=>Y l args (λv S'=>K (S'.put dst v)) S
 |_=>False
def newObj (S:ah)(d:Nat)(cells:List FV):ah:={(S.kill (S.off+d)).put (some d) (.ptr (S.off+d) 0)with aJ:=(S.off+d,FV.eL (S.off+d) cells)::eo (S.off+d) S.aJ}
def Gy (S:ah)(d:Nat)(cells:List FV)(K:ah->Prop):Prop:=su S d λnm=>K {(S.kill nm).put (some d) (.ptr nm 0)with aJ:=(nm,FV.eL nm cells)::eo nm S.aJ}
theorem wm (S:ah)(d:Nat)(cells:List FV)(K:ah->Prop):Gy S d cells K=(Nat.beq (S.off+d) 999999=false/\K (newObj S d cells)):=by unfold Gy newObj;rw[lU]
def MM (S:ah)(d:Nat)(K:ah->Prop):Prop:=su S d λnm=>K {(S.kill nm).put (some d) (.ptr nm 0)with cw:=(nm,[])::BU nm S.cw}
theorem Hg (S:ah)(d:Nat)(K:ah->Prop):MM S d K=(Nat.beq (S.off+d) 999999=false/\K (SA S d)):=by unfold MM SA;rw[lU]
def rJ {α:Type}(k:AV):List (AV×α)->Option α|[]=>none|(k',x)::r=>match jR k k' with|true=>some x|false=>rJ k r
def BY {α:Type}(k:AV)(x:α):List (AV×α)->List (AV×α)|[]=>[(k,x)]|(k',y)::r=>match jR k k' with|true=>(k,x)::r|false=>(k',y)::BY k x r
def BZ {α:Type}:List AV->List α->List (AV×α)|k::ks,x::xs=>(k,x)::BZ ks xs|_,_=>[]
def FV.entries (maps:List (Nat×List (AV×FV))):FV->Option (List (AV×FV))|.fK o=>getM maps o|.p (.mp ks vs)=>some (BZ ks (aF vs))|.p .kQ=>some []|_=>none
def okV (ok:Bool)(x:FV)(b:Bool):FV:=match ok with|true=>.eY [x,.p (.bool b)]|false=>x
def Hh (C:Ctx)(maps:List (Nat×List (AV×FV)))(t:TypeId)(x i:FV)(ok:Bool)(K:FV->Prop):Prop:=match bP C.js t with
 |some ⟨_,_,.map kT eT,_⟩=>match bP C.js kT,i.fe,x.entries maps with|some ki,some kk,some l=>∃L,eM C.P 40 kT=some L/\gz ki.shape.isAgg L kk=true/\(∀p,p∈l->gz ki.shape.isAgg L p.1=true)/\∃r,rJ kk l=r/\(match r with|some v=>K (okV ok v true)|none=>∃z:Value,(C.P.info? eT).map (·.zero)=some (some z)/\K (okV ok (FV.Pc z) false))|_,_,_=>False
 |_=>False
def UU (C:Ctx)(S:ah)(dst:Option Nat)(t:TypeId)(m k:FV)(x:FV)(K:ah->Prop):Prop:=match bP C.js t with
 |some ⟨_,_,.map kT _,_⟩=>match m with
  |.fK ob=>match bP C.js kT,k.fe,getM S.maps ob with|some ki,some kk,some l=>∃L,eM C.P 40 kT=some L/\gz ki.shape.isAgg L kk=true/\(∀p,p∈l->gz ki.shape.isAgg L p.1=true)/\∃l',BY kk x l=l'/\(match getM C.ex.JU ob with|none=>K ((S.Pb (uZ S.maps ob l')).put dst (.p (.eY [])))|some (_,_,k)=>k=some kk/\K ((S.Pb (uZ S.maps ob l')).put dst (.p (.eY []))))|_,_,_=>False
  |_=>False
 |_=>False
def MN (S:ah)(d:Nat)(K:ah->Prop):Prop:=wj S d λnm=>K {(S.kill nm).put (some d) (.fK nm)with maps:=(nm,[])::xR (FV.kill nm) (va nm S.maps)}
def SB (op:UnOp)(x:FV)(K:FV->Prop):Prop:=match op,x with|.not,.p (.bool b)=>Al λt:Bool=>t=!b->K (.p (.bool t))|.neg,.p (.int k n)=>∃c,k.wrap (0-n)=c/\K (.p (.int k c))|.xor,.p (.int k n)=>∃c,yh .xor k (match k.signed with|true=>-1|false=>k.max) n=c/\K (.p (.int k c))|_,_=>False
def dh.plain:dh->FV|.val x=>.p x|.fresh _ _ xs=>.p (.sl xs)|.vf x=>x|.own rest _ _ xss=>match rest with|none=>.p (.sl xss)|some r=>.p (.eY (.sl xss::r))
def zV (C:Ctx)(f:FV)(args:List FV)(K:FV->Prop):Prop:=match f with
 |.p (.fn (.func g) first captured)=>match FV.fF args with|some xs=>∃R,aj C g (first++xs++captured) R/\∀r,R r->K r.plain|none=>False
 |.fn (.func g) first captured=>match FV.fF (first++args++captured)with|some xs=>∃R,aj C g xs R/\∀r,R r->K r.plain|none=>False
 |_=>False
def UW (C:Ctx)(sh:Shape)(xs:Option (List (List AV)))(K:FV->Prop):Prop:=match sh,xs with
 |.slice e,some xs=>match bP C.js e with|some ⟨1,_,.int .u8,_⟩=>∃bs:List UInt8,xs=bs.map (λb=>[AV.int .u8 (b.toNat:Int)])/\K (.p (.str bs))|_=>False
 |_,_=>False
def SC (C:Ctx)(src dst:TypeId)(v:FV)(K:FV->Prop):Prop:=match bP C.js src with
 |none=>False
 |some ⟨_,_,sh,_⟩=>match bP C.js dst with
  |some ⟨_,_,.int k,_⟩=>match v with|.p (.int _ n)=>∃c,k.wrap n=c/\K (.p (.int k c))|_=>False
  |some ⟨_,_,.str,_⟩=>match v with|.p (.str s)=>K (.p (.str s))|.p (.int _ n)=>∃c:UInt8,n=(c.toNat:Int)/\c.toNat<128/\K (.p (.str [c]))|v=>UW C sh v.elems K
  |_=>False
def eB (C:Ctx)(S:ah)(op:Op)(K:FV->Prop):Prop:=match op with
 |.move x=>force (S.val x) K
 |.assign x=>force (S.val x) K
 |.pick c a b=>match S.val c with|.p (.bool true)=>force (S.val a) K|.p (.bool false)=>force (S.val b) K|_=>False
 |.binOp op t x y _=>match MI y with|true=>Bf C t op (S.val x) K|false=>match MJ y with|true=>MK C t op (S.val x) K|false=>GY C t op (S.val x) (S.val y) K
 |.unOp op _ x=>SB op (S.val x) K
 |.convert src dst x=>SC C src dst (S.val x) K
 |.makeInterface t x=>match bP C.js t with
  |some ⟨_,_,.iface,_⟩=>False
  |some _=>match(S.val x).fe with|some y=>K (.p (.iface t y))|none=>False
  |none=>False
 |.makeFunc fn first captured=>pN (first.toList.map S.val) λa=>pN (captured.toList.map S.val) λb=>K (.fn fn a b)
 |.build t parts=>Gw C S t parts.toList K
 |.buildSlice t len parts=>lT C S t len parts.toList K
 |.load t a=>nh C S.aJ t (S.val a) K
 |.nilCheck x=>match S.val x with|.ptr b off=>K (.ptr b off)|.p (.imp xs)=>K (.p (.imp xs))|.ic o base off=>K (.ic o base off)|.p (.fn (.func f) a b)=>K (.p (.fn (.func f) a b))|.fn (.func f) a b=>K (.fn (.func f) a b)|_=>False
 |.fieldAddr s x f=>ni C s (S.val x) f K
 |.field s x f=>wg C s (S.val x) f K
 |.indexAddr t x i=>jk C S.aJ t (S.val x) (S.val i) K
 |.index t x i=>wh C t (S.val x) (S.val i) K
 |.lookup t x i ok=>Hh C S.maps t (S.val x) (S.val i) ok K
 |.slice t x lo hi none=>ML C t (S.val x) (lo.map S.val) (hi.map S.val) K
 |.extract x i=>match S.val x with
  |.eY xs=>match fT i xs with|y::_=>K y|[]=>False
  |.p (.eY xs)=>match fT i xs with|y::_=>K (.p y)|[]=>False
  |_=>False
 |.call c=>match c.callee with|.builtin b=>jv C S.aJ b (c.args.toList.map S.val) c.argTypes.toList K|.value f=>zV C (S.val f) (c.args.toList.map S.val) K|.invoke _ _=>False
 |_=>False
def Fl:List Nat->(ah->Prop)->ah->Prop|[],K,S=>K S|d::ds,K,S=>match AD S.aJ d with|none=>False|some cells=>match FV.fF cells with|none=>False|some ys=>match tZ ys with|true=>Fl ds K (S.Be d ys)|false=>False
def Fm (C:Ctx)(S:ah)(e:TypeId)(len:Nat)(parts:List (Nat×Operand))(K:List FV->Nat->Prop):Prop:=match bP C.js e with
 |none=>False
 |some j=>match Nat.ble (len*j.size) 1000000,Nat.beq j.size 0 with
  |true,false=>match fM j.size S parts (od len (j.zero.map FV.gP))with
   |some cs=>match iW cs with|false=>False|true=>pN cs λcs=>K cs j.size
   |none=>False
  |_,_=>False
def yC (C:Ctx)(S:ah)(e:TypeId)(d len:Nat)(parts:List (Nat×Operand))(K:ah->Prop):Prop:=Fm C S e len parts λcs z=>su S d λnm=>K ({S.kill nm with aJ:=(nm,FV.eL nm cs)::eo nm S.aJ}.put (some d) (.fc nm e z))
def SD (C:Ctx)(S:ah)(t:TypeId)(d:Nat)(len cap:FV)(K:ah->Prop):Prop:=match bP C.js t with
 |some ⟨_,_,.slice e,_⟩=>match bP C.js e with
  |some ⟨1,bytes,_,[z]⟩=>match len,cap with|.p (.int _ n),.p (.int _ n')=>∃m:Nat,n=m/\n'=m/\bytes*m<=281474976710656/\m<=9223372036854775807/\su S d λnm=>∃cs,FV.eL nm (List.replicate m (FV.gP z))=cs/\K ({S.kill nm with aJ:=(nm,cs)::eo nm S.aJ}.put (some d) (.fc nm e 1))|_,_=>False
  |_=>False
 |_=>False
def SE (C:Ctx)(t:TypeId)(dst:Option Nat)(S:ah)(k:Nat)(T:TypeId)(bN:Nat)(hi:FV)(K:ah->Prop):Prop:=match dst,bP C.js t,hi with
 |some d,some ⟨_,_,.slice e,_⟩,.p (.int _ n)=>match bP C.js e with|none=>False|some j=>match Nat.beq bN j.size,AD S.aJ k with|true,some xs=>∃m N:Nat,n=m/\xs.length=N*bN/\m<=N/\∃zs,FV.eL k (xs.take (m*bN))=zs/\K ({S.kill k with aJ:=(k,zs)::eo k S.aJ}.put (some d) (.fc k T bN))|_,_=>False
 |_,_,_=>False
def Eb (C:Ctx)(S:ah)(src dst:TypeId)(d:Nat)(s:List UInt8)(K:ah->Prop):Prop:=match bP C.js src,bP C.js dst with
 |some ⟨_,_,.str,_⟩,some ⟨_,_,.slice e,_⟩=>match bP C.js e with|some ⟨1,_,.int .u8,_⟩=>wj S d λnm=>K ((S.kill nm).put (some d) (.eU nm e 1 (s.map λb=>[AV.int .u8 (b.toNat:Int)])))|_=>False
 |_,_=>False
def UX (C:Ctx)(dst:Option Nat)(S:ah)(src ty:TypeId)(x:Operand)(K:ah->Prop):Prop:=match bP C.js ty,dst with
 |some ⟨_,_,.slice _,_⟩,some d=>match S.val x with|.p (.str s)=>Eb C S src ty d s K|_=>False
 |_,_=>eB C S (.convert src ty x) λv=>K (S.put dst v)
def MO (C:Ctx)(t u d:TypeId)(S:ah)(y:FV)(K:ah->Prop):Prop:=match bP C.js t,bP C.js u with
 |some ⟨_,_,.slice e,_⟩,some ui=>match ui.shape.Fj with|false=>False|true=>match bP C.js e with|none=>False|some j=>match y.items,Nat.beq j.bytes 0,Nat.beq j.size 0 with|some ys,false,false=>ys≠[]/\(∀zs,zs∈ys->zs.length=j.size)/\ys.length*j.bytes<=140737488355328/\su S d λnm=>∃zs,aF ys.flatten=zs/\K ({S.kill nm with aJ:=(nm,zs)::eo nm S.aJ}.put (some d) (.fc nm e j.size))|_,_,_=>False
 |_,_=>False
def SF (C:Ctx)(t u d:TypeId)(S:ah)(x y:FV)(K:ah->Prop):Prop:=match iA d C.ex.opens with
 |true=>match x with|.full []=>MO C t u d S y K|x=>th C t u d S x y K
 |false=>th C t u d S x y K
def SG (C:Ctx)(t:TypeId)(x h m:FV)(K:FV->Prop):Prop:=match bP C.js t with
 |some ⟨_,_,.slice e,_⟩=>match bP C.js e with|none=>False|some _=>match x.elems,h,m with|some _,.p (.int _ a),.p (.int _ b)=>a=0/\b=0/\K (.full [])|_,_,_=>False
 |_=>False
def MP (C:Ctx)(t:TypeId)(dst:Option Nat)(S:ah)(k:Nat)(T:TypeId)(bN:Nat)(lo:FV)(K:ah->Prop):Prop:=match dst,bP C.js t,lo with
 |some d,some ⟨_,_,.slice e,_⟩,.p (.int _ n)=>match bP C.js e with|none=>False|some j=>match Nat.beq bN j.size,AD S.aJ k with|true,some xs=>∃m N:Nat,n=m/\xs.length=N*bN/\m<=N/\K (S.put (some d) (.tX k m T bN))|_,_=>False
 |_,_,_=>False
def MQ (C:Ctx)(t:TypeId)(dst:Option Nat)(S:ah)(x:FV)(K:ah->Prop):Prop:=match x with
 |.tX k b T bN=>match bP C.js t with
  |some ⟨_,_,.slice e,_⟩=>match bP C.js e with|none=>False|some j=>match Nat.beq bN j.size,AD S.aJ k with|true,some xs=>iW (j.zero.map FV.gP)=true/\∃N:Nat,xs.length=(b+N)*bN/\∃zs,xs.take (b*bN)++od N (j.zero.map FV.gP)=zs/\K ((S.BX k zs).put dst (.p (.eY [])))|_,_=>False
  |_=>False
 |_=>False
def Pm (C:Ctx)(dst:Option Nat)(S:ah)(t:TypeId)(x:Operand)(lo hi mx:Option Operand)(K:ah->Prop):Prop:=match S.val x with
 |.fc k T bN=>match lo,hi,mx with|none,some h,none=>SE C t dst S k T bN (S.val h) K|some l,none,none=>MP C t dst S k T bN (S.val l) K|_,_,_=>False
 |v=>match lo,hi,mx with|none,some h,some m=>SG C t v (S.val h) (S.val m) λv=>K (S.put dst v)|_,_,_=>eB C S (.slice t x lo hi mx) λv=>K (S.put dst v)
mutual def FV.JW (d E:Nat)(ru:List (List AV)):FV->FV
 |.ptr o off=>match Nat.beq o d with|true=>.dr|false=>.ptr o off
 |.ic o b off=>match Nat.beq o d with|true=>.dr|false=>.ic o b off
 |.fc o T e=>match Nat.beq o d with
  |true=>match Nat.beq e E with|true=>.eU o T e ru|false=>.dr
  |false=>.fc o T e
 |.tX o x T e=>match Nat.beq o d with|true=>.dr|false=>.tX o x T e
 |.eU t T e xs=>match Nat.beq t d with|true=>.p (.sl xs)|false=>.eU t T e xs
 |.agg xs=>.agg (FV.Ca d E ru xs)
 |.eY xs=>.eY (FV.Ca d E ru xs)
 |.fn f first captured=>.fn f (FV.Ca d E ru first) (FV.Ca d E ru captured)
 |.p x=>.p x
 |.full xs=>.full xs
 |.mZ l=>match Nat.beq l d with|true=>.dr|false=>.mZ l
 |.fK o=>match Nat.beq o d with|true=>.dr|false=>.fK o
 |.AL o=>match Nat.beq o d with|true=>.dr|false=>.AL o
 |.dr=>.dr def FV.Ca (d E:Nat)(ru:List (List AV)):List FV->List FV|[]=>[]|x::xs=>FV.JW d E ru x::FV.Ca d E ru xs end
theorem FV.wo (d E:Nat)(ru:List (List AV))(xs:List FV):FV.Ca d E ru xs=xs.map (FV.JW d E ru):=by
 induction xs with
 |nil=>simp[FV.Ca]
 |cons x xs ih=>simp[FV.Ca,ih]
def zW (d E:Nat)(ru:List (List AV)):List (Nat×List FV)->List (Nat×List FV)|[]=>[]|(u,i)::r=>match Nat.beq u d with|true=>zW d E ru r|false=>(u,FV.Ca d E ru i)::zW d E ru r
def ah.Pn (S:ah)(d E:Nat)(ru:List (List AV)):ah:={S with tmps:=λi=>(S.tmps i).JW d E ru,aJ:=zW d E ru S.aJ,bF:=yB (FV.JW d E ru) S.bF,cw:=BU d S.cw,maps:=xR (FV.JW d E ru) (va d S.maps),iF:=va d S.iF}
structure ah6 (S:ah)(d E:Nat)(ru:List (List AV)):Prop where
 obj:∃cells,AD S.aJ d=some cells/\FV.fF cells=some ru.flatten
 each:∀ys,ys∈ru->ys.length=E/\∀y,y∈ys->y.one=true
def Hi (C:Ctx)(call:ig)(Y:oN)(o:Oper)(K:ah->Prop)(S:ah):Prop:=match o.op with
 |.makeFunc fn first captured=>∃fr:List Nat,Fl fr (λS=>pN (first.toList.map S.val) λa=>pN (captured.toList.map S.val) λb=>K (S.put o.dst (.fn fn a b))) S
 |.buildSlice t len parts=>match o.dst,bP C.js t with
  |some d,some ⟨_,_,.slice e,_⟩=>match iA d C.ex.opens with
   |true=>yC C S e d len parts.toList K
   |false=>lT C S t len parts.toList λv=>match v with
    |.full xs=>match bP C.js e with|none=>False|some j=>wj S d λnm=>K ((S.kill nm).put (some d) (.eU nm e j.size xs))
    |_=>False
  |_,_=>False
 |.alloc t=>match o.dst,bP C.js t with
  |some d,some i=>match Nat.beq t C.bT,i.zero with|true,[.pointer none,.slice none 0 0]=>MM S d K|_,_=>pN (i.zero.map FV.gP) λcs=>Gy S d cs K
  |_,_=>False
 |.box t x=>match o.dst,bP C.js t with
  |some d,some i=>match Nat.beq (S.val x).cells.length i.size with
   |true=>match iW (S.val x).cells with|true=>pN (S.val x).cells λcs=>Gy S d cs K|false=>False
   |false=>False
  |_,_=>False
 |.store t a x=>match bP C.js t,S.val a with
  |some i,.ptr ob off=>match getObj S.aJ ob with
   |none=>False
   |some cells=>match Nat.beq (S.val x).cells.length i.size with
    |true=>match iW (S.val x).cells with
     |true=>match gC cells off (S.val x).cells with|some cs=>pN cs λcs=>K ((S.BX ob cs).put o.dst (.p (.eY [])))|none=>False
     |false=>False
    |false=>False
  |some i,.ic ob base off=>match getObj S.aJ ob with
   |none=>False
   |some cells=>match Nat.beq (S.val x).cells.length i.size with
    |true=>match iW (S.val x).cells with|true=>∃A ys B:List FV,cells=A++(ys++B)/\A.length=base/\(match gC ys off (S.val x).cells with|some zs=>pN zs λzs=>∃cs,A++(zs++B)=cs/\K ((S.BX ob cs).put o.dst (.p (.eY [])))|none=>False)|false=>False
    |false=>False
  |_,_=>False
 |.makeMap _ none=>match o.dst with|some d=>MN S d K|none=>False
 |.makeSlice t len cap=>match o.dst with|some d=>SD C S t d (S.val len) (S.val cap) K|none=>False
 |.mapUpdate t m k x=>UU C S o.dst t (S.val m) (S.val k) (S.val x) K
 |.insert t m k x=>UU C S o.dst t (S.val m) (S.val k) (S.val x) K
 |.slice t x lo hi mx=>Pm C o.dst S t x lo hi mx K
 |.convert src ty x=>UX C o.dst S src ty x K
 |.call c=>match c.callee with
  |.builtin .append=>match c.args.toList.map S.val,c.argTypes.toList,o.dst with
   |[x,y],[t,u],some d=>match y with|.fc o2 T2 e2=>Sz C t u d S x o2 T2 e2 K|y=>SF C t u d S x y K
   |_,_,_=>False
  |.builtin .clear=>match c.args.toList.map S.val,c.argTypes.toList with|[x],[t]=>MQ C t o.dst S x K|_,_=>False
  |.builtin b=>jv C S.aJ b (c.args.toList.map S.val) c.argTypes.toList λv=>K (S.put o.dst v)
  |.value f=>Zo C call Y S o.dst (S.val f) (c.args.toList.map S.val) K
  |.invoke _ _=>False
 |op=>eB C S op λv=>K (S.put o.dst v)
def Hj:Bool->Bool->Bool|true,b=>b|false,true=>false|false,false=>true
theorem ox (a b:Bool):Hj a b=(a==b):=by cases a<;>cases b<;>rfl
def oZ (C:Ctx)(call:ig)(Y:oN)(ops:Array Oper):List Oper->(ah->Prop)->ah->Prop
 |[],K,S=>K S
 |o::rest,K,S=>match o.guard with
  |none=>Hi C call Y o (oZ C call Y ops rest K) S
  |some (j,want)=>match(ops[j]?).bind (·.dst)with
   |none=>False
   |some d=>match S.get d with
    |.p (.bool b)=>match Hj b want with|true=>Hi C call Y o (oZ C call Y ops rest K) S|false=>oZ C call Y ops rest K (S.put o.dst (.p (.eY [])))
    |.p (.eY [])=>oZ C call Y ops rest K (S.put o.dst (.p (.eY [])))
    |_=>False
def JX (C:Ctx)(ops:Array Oper):List Oper->(ah->Prop)->ah->Prop
 |[],K,S=>K S
 |o::rest,K,S=>match o.guard with
  |none=>∃v,eB C S o.op (λu=>u=v)/\JX C ops rest K (S.put o.dst v)
  |some (j,want)=>match(ops[j]?).bind (·.dst)with
   |none=>False
   |some d=>match S.get d with
    |.p (.bool b)=>match Hj b want with|true=>∃v,eB C S o.op (λu=>u=v)/\JX C ops rest K (S.put o.dst v)|false=>JX C ops rest K (S.put o.dst (.p (.eY [])))
    |.p (.eY [])=>JX C ops rest K (S.put o.dst (.p (.eY [])))
    |_=>False
def dstsOf:List Oper->List Nat|[]=>[]|o::os=>match o.dst with|some d=>d::dstsOf os|none=>dstsOf os
def ah.uI (S:ah)(ds:List Nat):ah:={S with tmps:=λi=>match iA i ds with|true=>.dr|false=>S.tmps i}
def ua (K:ah->Prop)(Q:Exit->ah->Prop):Exit->ah->Prop|.normal,S=>K S|e,S=>Q e S
def Hl (id:Nat)(Q:Exit->ah->Prop):Exit->ah->Prop
 |.exit n,S=>match Nat.beq n id with|true=>Q .normal S|false=>Q (.exit n) S
 |e,S=>Q e S
def guarded:List Oper->Bool|[]=>false|o::os=>match o.guard with|some _=>true|none=>guarded os
def pO:List Oper->List Nat
 |[]=>[]
 |[o]=>match o.dst with|some d=>[d]|none=>[]
 |o::os=>match o.op,o.dst with|.assign _,some d=>d::pO os|_,_=>pO os
def getAll (S:ah):List Nat->List FV|[]=>[]|r::rs=>S.get r::getAll S rs
def Ec (K:ah->Prop):ah->List Nat->(List FV->Prop)->Prop|S,[],φ=>Al λ_:φ []=>K S|S,r::rs,φ=>Al λv=>Ec K (S.put (some r) v) rs λvs=>φ (v::vs)
def wq (ops:Array Oper):Nat->Nat->Nat->Bool|0,_,_=>false|fuel+1,j,i=>match ops[j]?with|none=>false|some o=>o.after.toList.any λe=>Region.binds .any e&&(e.on==i||wq ops fuel e.on i)
def UY (ops:Array Oper)(q:Nat->Bool)(listed:Array Bool)(k:Nat):Bool:=match ops[k]?with|none=>false|some o=>(List.range ops.size).all λj=>j==k||listed.getD j true||wq ops ops.size j k||(q j&&match ops[j]?with|none=>true|some oj=>o.apart ops oj)
def tn (ops:Array Oper)(m:Nat):Nat->Nat->Array Bool->Bool|0,_,listed=>(Region.ready .any ops listed).isEmpty|fuel+1,k,listed=>(match decide (k<m)with|true=>(Region.ready .any ops listed).contains k&&UY ops (λj=>decide (j<m)) listed k|false=>Region.ready .any ops listed==[k])&&tn ops m fuel (k+1) (listed.setIfInBounds k true)
def Bg (ops:Array Oper)(m:Nat):Bool:=decide (m<=ops.size)&&Region.noSelect ops&&tn ops m ops.size 0 (Array.replicate ops.size false)
mutual def FV.safe (pr:List Nat):FV->Bool
 |.p _=>true
 |.agg xs=>FV.uc pr xs
 |.eY xs=>FV.uc pr xs
 |.ptr o _=>iA o pr
 |.eU t _ _ _=>iA t pr
 |.full _=>true
 |.fn _ a b=>match FV.uc pr a with|true=>FV.uc pr b|false=>false
 |.mZ l=>iA l pr
 |.fc o _ _=>iA o pr
 |.tX o _ _ _=>iA o pr
 |.ic o _ _=>iA o pr
 |.fK o=>iA o pr
 |.AL o=>iA o pr
 |.dr=>true def FV.uc (pr:List Nat):List FV->Bool|[]=>true|x::xs=>match FV.safe pr x with|true=>FV.uc pr xs|false=>false end
def opsL:Op->Option (List Operand)|.move x=>some [x]|.assign x=>some [x]|.pick c x y=>some [c,x,y]|.binOp _ _ x y _=>some [x,y]|.unOp _ _ x=>some [x]|.convert _ _ x=>some [x]|.load _ x=>some [x]|.nilCheck x=>some [x]|.fieldAddr _ x _=>some [x]|.field _ x _=>some [x]|.indexAddr _ x i=>some [x,i]|.index _ x i=>some [x,i]|.slice _ x lo hi none=>some (x::(lo.toList++hi.toList))|.extract x _=>some [x]|.call ⟨.value f,args,_⟩=>some (f::args.toList)|.call ⟨.builtin _,args,_⟩=>some args.toList|.build _ parts=>some (parts.toList.map (·.2))|.buildSlice _ _ parts=>some (parts.toList.map (·.2))|_=>none
def yD (pr:List Nat)(S:ah):List Operand->Bool|[]=>true|z::zs=>match(S.val z).safe pr with|true=>yD pr S zs|false=>false
def xS (pr:List Nat)(S:ah)(op:Op)(v:FV):Bool:=match opsL op with|none=>false|some zs=>match yD pr S zs with|true=>v.safe pr|false=>false
def KO (pr:List Nat)(k:Nat):FV->Bool|.eU t _ _ _=>!iA t pr|.full _=>!iA k pr|_=>false
def oy (pr:List Nat)(S:ah)(dst:Option Nat):Op->Bool
 |.alloc _=>match dst with|some d=>!iA (S.off+d) pr|none=>false
 |.store _ a _=>match S.val a with|.ptr ob _=>!iA ob pr|_=>false
 |.call ⟨.builtin .append,args,_⟩=>match args.toList.map S.val,dst with
  |[x,y],some d=>match y with|.fc _ _ _=>false|_=>KO pr (S.off+d) x
  |_,_=>false
 |_=>false
inductive JY where|fin|one (k:Nat)(p:JY)|alt (k:Nat)(p r:JY)|stop
def JY.UZ:JY->List Nat|.alt k _ r=>k::r.UZ|_=>[]
structure rK where
 calm:List Nat
 akn:List Nat
 ako:List Nat
 pr:List Nat
def rK.of (c:rK)(i:Nat):Nat:=match iA i c.calm with|true=>1|false=>match iA i c.akn with|true=>2|false=>match iA i c.ako with|true=>3|false=>0
def oe (ops:Array Oper)(c:rK):JY->Bool->Nat->Array Bool->Bool
 |.fin,top,_,listed=>top&&(Region.ready .any ops listed).isEmpty
 |.stop,top,_,_=>!top
 |.one k p,top,fuel,listed=>top&&match fuel with|0=>false|fuel+1=>Nat.ble (c.of k) 1&&(Region.ready .any ops listed).contains k&&UY ops (λj=>Nat.ble (c.of j) (c.of k+1)) listed k&&oe ops c p true fuel (listed.setIfInBounds k true)
 |.alt k p r,top,fuel,listed=>(!top||Region.ready .any ops listed==(k::r.UZ))&&match fuel with|0=>false|fuel'+1=>oe ops c p true fuel' (listed.setIfInBounds k true)&&oe ops c r false fuel listed
def agw (C:Ctx)(ops:Array Oper)(pr:List Nat)(o:Oper)(K:ah->Prop)(S:ah):Prop:=match o.guard with
 |none=>∃v,eB C S o.op (λu=>u=v)/\xS pr S o.op v=true/\K (S.put o.dst v)
 |some (j,want)=>match(ops[j]?).bind (·.dst)with
  |none=>False
  |some d=>match S.get d with
   |.p (.bool b)=>match Hj b want with|true=>∃v,eB C S o.op (λu=>u=v)/\xS pr S o.op v=true/\K (S.put o.dst v)|false=>K (S.put o.dst (.p (.eY [])))
   |.p (.eY [])=>K (S.put o.dst (.p (.eY [])))
   |_=>False
def agx (C:Ctx)(call:ig)(Y:oN)(ops:Array Oper)(pr:List Nat)(o:Oper)(K:ah->Prop)(S:ah):Prop:=match o.guard with
 |none=>oy pr S o.dst o.op=true/\Hi C call Y o K S
 |some (j,want)=>match(ops[j]?).bind (·.dst)with
  |none=>False
  |some d=>match S.get d with
   |.p (.bool b)=>match Hj b want with|true=>oy pr S o.dst o.op=true/\Hi C call Y o K S|false=>K (S.put o.dst (.p (.eY [])))
   |.p (.eY [])=>K (S.put o.dst (.p (.eY [])))
   |_=>False
def yE (C:Ctx)(call:ig)(Y:oN)(ops:Array Oper)(c:rK)(k:Nat)(K:ah->Prop)(S:ah):Prop:=match ops.toList[k]?with|none=>False|some o=>match c.of k with|0=>JX C ops [o] K S|1=>agw C ops c.pr o K S|2=>agx C call Y ops c.pr o K S|_=>oZ C call Y ops [o] K S
def og (C:Ctx)(call:ig)(Y:oN)(ops:Array Oper)(c:rK)(K:ah->Prop):JY->ah->Prop|.fin,S=>K S|.stop,_=>True|.one k p,S=>yE C call Y ops c k (og C call Y ops c K p) S|.alt k p r,S=>match r with|.stop=>yE C call Y ops c k (og C call Y ops c K p) S|_=>yE C call Y ops c k (og C call Y ops c K p) S/\og C call Y ops c K r S
inductive How where|lex (m:Nat)|keep (φ:List FV->Prop)|plan (c:rK)(p:JY)(T:Option ah)|sea (c:rK)(J:Array Bool->ah->Prop)
def kR (C:Ctx)(call:ig)(Y:oN)(ops:Array Oper)(draw:Bool)(K:ah->Prop)(S:ah):Prop:=match draw,guarded ops.toList with
 |false,false=>oZ C call Y ops ops.toList K S
 |false,true=>∃φ:Option (List FV->Prop),match φ with|some φ=>JX C ops ops.toList (λS'=>φ (getAll S' (pO ops.toList))) S/\Ec K (S.uI (dstsOf ops.toList)) (pO ops.toList) φ|none=>oZ C call Y ops ops.toList K S
 |true,_=>∃how:How,match how with
  |.lex m=>Bg ops m=true/\JX C ops (ops.toList.take m) (oZ C call Y ops (ops.toList.drop m) K) S
  |.keep φ=>Bg ops ops.size=true/\JX C ops ops.toList (λS'=>φ (getAll S' (pO ops.toList))) S/\Ec K (S.uI (dstsOf ops.toList)) (pO ops.toList) φ
  |.plan c p T=>oe ops c p true ops.size (Array.replicate ops.size false)=true/\match T with|none=>og C call Y ops c K p S|some T=>og C call Y ops c (λS'=>bL S' T) p S/\K T
  |.sea c J=>J (Array.replicate ops.size false) S/\(∀(listed:Array Bool)(S':ah)(k:Nat),J listed S'->k∈Region.ready .any ops listed->yE C call Y ops c k (J (listed.setIfInBounds k true)) S')/\∀(listed:Array Bool)(S':ah),J listed S'->Region.ready .any ops listed=[]->K S'
def Zp (m k y d0 d1 d2 d3 n:Nat):Bool:=ltB d0 n&&ltB d1 n&&ltB d2 n&&ltB d3 n&&!iA m [d0,d1,d2,d3]&&!iA k [d0,d1,d2,d3]&&!iA y [d0,d1,d2,d3]&&!iA d0 [d1,d2,d3]&&!iA d1 [d2,d3]&&!Nat.beq d2 d3
def SH (C:Ctx)(l:List Oper)(K:ah->Prop)(S:ah):Prop:=∃(t tx ty m k y d0 d1 d2 d3:Nat),l.map (·.op)=[.mapEntry t (.tmp m) (.tmp k),.extract (.tmp d0) 0,.call ⟨.builtin .append,#[.tmp d1,.tmp y],#[tx,ty]⟩,.extract (.tmp d0) 1,.entryStore t (.tmp m) (.tmp d3) (.tmp d2)]/\l.map (·.dst)=[some d0,some d1,some d2,some d3,none]/\l.map (·.guard)=[none,none,none,none,none]/\Zp m k y d0 d1 d2 d3 S.n=true/\match bP C.js t,bP C.js tx,bP C.js ty with
 |some ⟨_,_,.map kT eT,_⟩,some ⟨_,_,.slice e,_⟩,some ui=>match ui.shape.Fj,bP C.js e,bP C.js kT,S.get m with
  |true,some j,some ki,.fK ob=>match(S.get k).fe,(S.get y).items,getM S.maps ob,getM C.ex.JU ob with|some kk,some ys,some l,some (T,z,x)=>Nat.beq T e=true/\Nat.beq z j.size=true/\Nat.beq j.bytes 0=false/\x≠some kk/\(C.P.info? eT).map (·.zero)=some (some (.slice none 0 0))/\∃L,eM C.P 40 kT=some L/\gz ki.shape.isAgg L kk=true/\(∀p,p∈l->gz ki.shape.isAgg L p.1=true)/\(∀zs,zs∈ys->zs.length=j.size)/\∃old:List (List AV),(match rJ kk l with|some v=>v=.p (.sl old)|none=>old=[])/\(∀zs,zs∈old->zs.length=j.size)/\(old.length+ys.length)*j.bytes<=140737488355328/\∃l',BY kk (.p (.sl (old++ys))) l=l'/\K ((S.uI [d0,d1,d2,d3]).Pb (uZ S.maps ob l'))|_,_,_,_=>False
  |_,_,_,_=>False
 |_,_,_=>False
def MR (C:Ctx)(call:ig)(Y:oN)(ops:Array Oper)(draw:Bool)(K:ah->Prop)(S:ah):Prop:=match draw with|true=>False|false=>oZ C call Y ops (ops.toList.take (ops.toList.length-5)) (SH C (ops.toList.drop (ops.toList.length-5)) K) S
def Ho:List yg->Nat->Option yg|[],_=>none|p::_,0=>some p|_::r,n+1=>Ho r n
def WG:List yg->Nat->yg->List yg|[],_,_=>[]|_::r,0,q=>q::r|p::r,n+1,q=>p::WG r n q
def adx:List Fr->Nat->Option Fr|[],_=>none|p::_,0=>some p|_::r,n+1=>adx r n
def Po (f:Nat->FV):List Nat->List FV->Nat->FV|p::ps,x::xs=>Po (λi=>match Nat.beq i p with|true=>x|false=>f i) ps xs|_,_=>f
def ah.enter (S:ah)(n:Nat)(tmps:Nat->FV):ah:={n:=n,off:=S.off+1000,tmps:=tmps,aJ:=S.aJ,bF:=⟨S.n,S.off,S.tmps⟩::S.bF,bV:=S.bV,cw:=S.cw,maps:=S.maps,iF:=S.iF}
def ah.leave (S:ah)(K:ah->Prop):Prop:=match S.bF with|[]=>False|f::r=>K {n:=f.n,off:=f.off,tmps:=f.tmps,aJ:=S.aJ,bF:=r,bV:=S.bV,cw:=S.cw,maps:=S.maps,iF:=S.iF}
def wu (args:List FV):Nat->FV:=λi=>match args[i]?with|some x=>x|none=>.p (.eY [])
def yF (lvl:Nat)(st:yg)(K:ah->Prop)(S:ah):Prop:=match Ho S.bV lvl with|some .busy=>ah.leave {S with bV:=WG S.bV lvl st} K|_=>False
def Zq (lvl:Nat)(K:FV->ah->Prop):Exit->ah->Prop|.normal,S=>yF lvl .ready (K (.p (.bool true))) S|.ret,S=>yF lvl .MG (K (.p (.bool false))) S|.exit id,S=>yF lvl (.GW id) (K (.p (.bool false))) S|_,_=>False
def Va (lvl:Nat)(K:ah->Prop)(S:ah):Prop:=match Ho S.bV lvl with|some .ready=>K {S with bV:=WG S.bV lvl .busy}|_=>False
def Cb (lvl:Nat)(Q:Exit->ah->Prop)(S:ah):Prop:=match Ho S.bV lvl with|some .ready=>Q .normal {S with bV:=S.bV.take lvl}|some .MG=>Q .ret {S with bV:=S.bV.take lvl}|some (.GW id)=>Q (.exit id) {S with bV:=S.bV.take lvl}|_=>False
def Zr (S:ah)(depth:Nat):Option Fr:=adx S.bF (S.bF.length-depth-1)
def sv (Y:oN)(assign body:(Exit->ah->Prop)->ah->Prop)(ps:List Nat)(lvl depth:Nat):oN:=λl args K S1=>match Nat.beq l (1000000+lvl)with|false=>Y l args K S1|true=>match Ho S1.bV lvl,Zr S1 depth with|some .ready,some fr=>Nat.beq args.length ps.length=true/\assign (ua (Va lvl (body (Zq lvl K))) λ_ _=>False) (S1.enter fr.n (Po fr.tmps ps args))|_,_=>False
def ud (C:Ctx)(call:ig)(Y:oN):Code->(Exit->ah->Prop)->ah->Prop
 |.skip,Q,S=>Q .normal S
 |.region id ops draw,Q,S=>match iA id C.ah4 with|true=>∃T,bL S T/\kR C call Y ops draw (Q .normal) T|false=>match iA (S.off+id) C.ex.Be with|true=>(∃(d E:Nat) (ru:List (List AV)),ah6 S d E ru/\kR C call Y ops draw (Q .normal) (S.Pn d E ru))\/kR C call Y ops draw (Q .normal) S|false=>match iA (S.off+id) C.ex.frm with|true=>(∃(d:Nat) (ks vs:List AV),Zk S d ks vs/\kR C call Y ops draw (Q .normal) (S.Ph d (.mp ks vs)))\/kR C call Y ops draw (Q .normal) S|false=>match iA (S.off+id) C.ex.fzo with|true=>∃fr:List Nat,Fl fr (λS=>kR C call Y ops draw (Q .normal) S) S|false=>match iA (S.off+id) C.ex.rmr with|true=>MR C call Y ops draw (Q .normal) S|false=>kR C call Y ops draw (Q .normal) S
 |.seq a b,Q,S=>ud C call Y a (ua (ud C call Y b Q) Q) S
 |.cond c x y,Q,S=>match S.val c with|.p (.bool true)=>ud C call Y x Q S|.p (.bool false)=>ud C call Y y Q S|_=>False
 |.block id c,Q,S=>ud C call Y c (Hl id Q) S
 |.loop c,Q,S=>∃(α:Type) (I:α->ah->Prop) (μ:α->Nat),(∃a S',bL S S'/\I a S')/\∀a S,I a S->ud C call Y c (ua (λS'=>∃a' tU,bL S' tU/\I a' tU/\μ a'<μ a) Q) S
 |.rangeFunc g ps assign body,Q,S=>GZ S.bV.length λlvl=>GZ S.bF.length λdep=>match S.val g with|.p (.fn (.func f) [] captured)=>call (sv Y (ud C call Y assign) (ud C call Y body) ps.toList lvl dep) f (.mZ (1000000+lvl)::aF captured) (λ_ S'=>Cb lvl Q S') {S.kill (1000000+lvl)with bV:=S.bV++[.ready]}|.fn (.func f) [] captured=>call (sv Y (ud C call Y assign) (ud C call Y body) ps.toList lvl dep) f (.mZ (1000000+lvl)::FV.eL (1000000+lvl) captured) (λ_ S'=>Cb lvl Q S') {S.kill (1000000+lvl)with bV:=S.bV++[.ready]}|_=>False
 |.exit id,Q,S=>Q (.exit id) S
 |.ret,Q,S=>Q .ret S
 |_,_,_=>False
def xT (ntmps:Nat)(args:List AV):ah:={n:=ntmps,tmps:=λi=>match(args)[i]?with|some x=>.p x|none=>.p (.eY []),off:=0,aJ:=[],bF:=[],bV:=[],cw:=[]}
def mG (C:Ctx)(S:ah):List ResultVar->(List AV->Prop)->Prop
 |[],K=>K []
 |.tmp t::rest,K=>match(S.get t).fe with|some x=>mG C S rest λxs=>K (x::xs)|none=>False
 |.cell a t::rest,K=>nh C S.aJ t (S.get a) λv=>match v.fe with|some x=>mG C S rest λxs=>K (x::xs)|none=>False
def rY (C:Ctx)(S:ah):List ResultVar->(List FV->Prop)->Prop|[],K=>K []|.tmp t::rest,K=>rY C S rest λxs=>K (S.get t::xs)|.cell a t::rest,K=>nh C S.aJ t (S.get a) λv=>rY C S rest λxs=>K (v::xs)
def MS:List FV->FV|[v]=>v|vs=>.eY vs
def Pp (C:Ctx)(rs:List ResultVar)(K:FV->ah->Prop):Exit->ah->Prop|.normal,S=>rY C S rs λvs=>S.leave (K (MS vs))|.ret,S=>rY C S rs λvs=>S.leave (K (MS vs))|_,_=>False
def Zs (C:Ctx):Nat->ig|0=>λ_ _ _ _ _=>False|k+1=>λY g args K S=>∃fn,C.P.funcs[g]?=some fn/\fn.body.isSome=true/\(fn.name== "runtime.NumGoroutine")=false/\Nat.ble args.length fn.ntmps=true/\ud C (Zs C k) Y (match fn.body with|some c=>c|none=>.skip) (Pp C fn.results.toList K) (S.enter fn.ntmps (wu args))
def jl:oN:=λ_ _ _ _=>False
def ev (C:Ctx):Code->(Exit->ah->Prop)->ah->Prop:=ud C (Zs C 6) jl
def Zt (S:ah)(o bN:Nat)(K:List (List AV)->Prop):Prop:=∃xss:List (List AV),(∀ys,ys∈xss->ys.length=bN/\∀y,y∈ys->y.one=true)/\(match AD S.aJ o with|some cells=>FV.fF cells=some xss.flatten|none=>False)/\K xss
def yG (C:Ctx)(rs:List ResultVar)(R:dh->Prop)(S:ah):Prop:=match C.ex.full with
 |true=>rY C S rs λvs=>match FV.uc [] vs with|true=>R (.vf (MS vs))|false=>False
 |false=>match rs with
  |[.tmp t]=>match S.get t with|.eU _ T bN xs=>R (.fresh T bN xs)\/R (.val (.sl xs))|.full []=>(∃T bN,R (.fresh T bN []))\/R (.val (.sl []))|.fK o=>∃ks vs:List AV,Zk S o ks vs/\R (.val (.mp ks vs))|.fc o T bN=>Zt S o bN λxss=>R (.own none T bN xss)|x=>match x.fe with|some y=>R (.val y)|none=>False
  |[.cell a t]=>nh C S.aJ t (S.get a) λv=>match v.fe with|some y=>R (.val y)|none=>False
  |.tmp t::r1::rest=>match S.get t with|.fc o T bN=>mG C S (r1::rest) λys=>Zt S o bN λxss=>R (.own (some ys) T bN xss)|_=>mG C S (.tmp t::r1::rest) λxs=>R (.val (.eY xs))
  |rs=>mG C S rs λxs=>R (.val (.eY xs))
def ue (C:Ctx)(rs:List ResultVar)(R:dh->Prop):Exit->ah->Prop|.normal,S=>yG C rs R S|.ret,S=>yG C rs R S|_,_=>False
def Vb (ntmps:Nat)(cells args:List AV):ah:={n:=ntmps,tmps:=wu (.ptr 999999 0::aF args),off:=0,aJ:=[(999999,aF cells)],bF:=[],bV:=[],cw:=[]}
def zY (C:Ctx)(rs:List ResultVar)(n:Nat)(R:AV->List AV->Prop)(S:ah):Prop:=rY C S rs λvs=>match(MS vs).fe,getObj S.aJ 999999 with
 |some r,some cells=>match FV.fF cells with|some ys=>Nat.beq ys.length n=true/\R r ys|none=>False
 |_,_=>False
def Pq (C:Ctx)(rs:List ResultVar)(n:Nat)(R:AV->List AV->Prop):Exit->ah->Prop|.normal,S=>zY C rs n R S|.ret,S=>zY C rs n R S|_,_=>False
def Vc (ntmps:Nat)(bs:List UInt8)(args:List AV):ah:={n:=ntmps,tmps:=wu (.ptr 999999 0::aF args),off:=0,aJ:=[],bF:=[],bV:=[],cw:=[(999999,bs)]}
end Qv
namespace Qv
open Go Go.RowKit
structure Kept (own:List Nat)(w w':World):Prop where
 os:w'.os=w.os
 tape:w'.tape=w.tape
 output:w'.output=w.output
 size:w.heap.size<=w'.heap.size
 block:∀k,k<w.heap.size->k∉own->w'.heap[k]?=w.heap[k]?
 shape:∀k cs T fr,own=[k]->w.heap[k]?=some (.cells cs T fr)->∃cs',w'.heap[k]?=some (.cells cs' T fr)/\cs'.size=cs.size
structure Env where
 C:Ctx
 w0:World
 Bh:Nat->Nat->Prop
 hJ:C.J w0
 hn:C.ov<=w0.heap.size
 mu:Option Nat
 bF:List (Array Value)
 loops:List (Nat×Loop)
 fixed:List Nat
 own:List Nat:=[]
 hown:∀b,b∈own->C.ov<=b/\b<w0.heap.size/\∀o,¬Bh b o:=by intro _ h;cases h
def Env.mine (E:Env)(o b:Nat):Prop:=(E.w0.heap.size<=b/\(o=999999->E.own=[]))\/(o=999999/\∃r,E.own=b::r)
theorem Env.Cc {E:Env}{b:Nat}(h:∃r,E.own=b::r):b∈E.own:=by grind
theorem iU {l:List (Nat×List FV)}{d:Nat}{cs:List FV}(h:AD l d=some cs):d≠999999/\Qv.getObj l d=some cs:=by unfold AD at h;split at h;grind;rename_i hb;exact⟨bt hb,h⟩
theorem Env.Pr {E:Env}{o b:Nat}(h:E.mine o b)(ho:o≠999999):E.w0.heap.size<=b:=by rcases h with h|h;omega;omega
theorem Env.Vd {E:Env}{o b k:Nat}(h:E.mine o b)(hk:k<E.w0.heap.size)(hk':k∉E.own):k≠b:=by rintro rfl;rcases h with h|h;omega;grind
theorem Env.Zu {E:Env}{b c:Nat}(h:E.mine 999999 b)(ho:E.own=[c]):b=c:=by rcases h with h|h;simp_all;simp_all
def yg.of (r:Loop):yg->Loop|.ready=>{r with state:=.ready,pending:=none}|.busy=>{r with state:=.busy,pending:=none}|.MG=>{r with state:=.done,pending:=some .ret}|.GW id=>{r with state:=.done,pending:=some (.exit id)}
abbrev mark (r:Nat):Deferred:={target:=.collected r,args:=#[]}
def ady (aZ:Nat->Nat->Prop)(w:World)(es:List MapEntry)(l:List (AV×AV)):Prop:=es.length=l.length/\∀(i:Nat)(e:MapEntry)(p:AV×AV),es[i]?=some e->l[i]?=some p->cZ aZ w e.key p.1/\cZ aZ w e.val p.2
def ah7 (es:List MapEntry)(seen:Array Nat):List MapEntry:=es.filter λe=>!seen.contains e.born
def adz (aZ:Nat->Nat->Prop)(w:World)(r:Nat)(x:Option (AV×AV)×List (AV×AV)):Prop:=(x=(none,[])/\w.heap[r]?=some (.mapIter none 0 #[] 0))\/∃(m fZ:Nat) (es:List MapEntry) (seen:Array Nat),w.heap[r]?=some (.mapIter (some m) fZ seen fZ)/\w.heap[m]?=some (.map es.toArray fZ)/\aZ m 0/\nG es fZ/\ady aZ w (ah7 es seen) x.2/\∀p,x.1=some p->∃(e:MapEntry) (ah8:Array Nat),e∈es/\seen=ah8.push e.born/\cZ aZ w e.key p.1/\cZ aZ w e.val p.2
def adA:Nm->Nat×Nat->Prop|.inl _,_=>True|.inr _,fr=>fr=(0,0)
def Ed (G:aV)(T:TypeId)(z o:Nat)(e:MapEntry):Prop:=∃(a:Option Addr) (n c:Nat),e.val=.slice a n c/\((n=0/\c=0)\/∃b off,(a=some ⟨b,off,none⟩/\off=0)/\G.tail (.inr (o,e.born))=some (b,off+n*z,off+c*z,T))
structure YU (E:Env)(G:aV)(S:ah)(w:World):Prop where
 at_:∀o l,getM S.maps o=some l->∃(b fZ:Nat) (es:List MapEntry),G.mp o=some b/\w.heap[b]?=some (.map es.toArray fZ)/\nG es fZ/\es.length=l.length/\∀(i:Nat)(e:MapEntry)(p:AV×FV),es[i]?=some e->l[i]?=some p->cZ G.aZ w e.key p.1/\aQ G w e.val p.2
 loc:∀o b,G.mp o=some b->E.w0.heap.size<=b/\(∀i,¬G.aZ b i)/\∃es fZ,w.heap[b]?=some (.map es fZ)
 inj:∀o o' b,G.mp o=some b->G.mp o'=some b->o=o'
 iF:∀q x,getM S.iF q=some x->∃r,G.it q=some r/\adz G.aZ w r x
 yH:∀q r,G.it q=some r->E.w0.heap.size<=r/\∃m s seen c,w.heap[r]?=some (.mapIter m s seen c)
 yI:∀q q' r,G.it q=some r->G.it q'=some r->q=q'
 apart:∀o o' b,G.mp o=some b->G.loc o'≠some b
 room:∀(o:Nat)(T:TypeId)(z:Nat)(k:Option AV)(l:List (AV×FV))(b fZ:Nat)(es:List MapEntry),getM S.maps o=some l->getM E.C.ex.JU o=some (T,z,k)->G.mp o=some b->w.heap[b]?=some (.map es.toArray fZ)->∀(i:Nat)(e:MapEntry)(p:AV×FV),es[i]?=some e->l[i]?=some p->k≠some p.1->Ed G T z o e
structure Ext (E:Env)(G:aV)(S:ah)(a:Act)(w:World):Prop where
 mps:YU E G S w
 kM:S.bF.length=E.bF.length
 bF:∀(i:Nat)(vals:Array Value)(fr:Fr),E.bF[i]?=some vals->S.bF[i]?=some fr->vals.size=fr.n/\∀j,j<fr.n->aQ G w (vals.getD j undef) (fr.tmps j)
 jS:S.bV.length=E.loops.length
 loops:∀(i k:Nat)(r:Loop)(st:yg),E.loops[i]?=some (k,r)->S.bV[i]?=some st->E.w0.heap.size<=k/\w.heap[k]?=some (.loop (st.of r))
 kO:∀(i j k:Nat)(r r':Loop),E.loops[i]?=some (k,r)->E.loops[j]?=some (k,r')->i=j
 yl:∀(i k:Nat)(r:Loop),E.loops[i]?=some (k,r)->∀k',G.yl (1000000+i)=some k'->k'=k
 mu:∀l,E.mu=some l->∃(i:Nat) (r:Loop),E.loops[i]?=some (l,r)
 marks:∃ms:List Nat,a.defers=ms.map mark/\(ms++E.fixed).Nodup/\∀r,r∈ms++E.fixed->E.w0.heap.size<=r/\w.heap[r]?=some (.deferred (some []))
 AE:oM G.aZ w
def ga (w w':World):Prop:=∀(k:Nat)(o:Obj),w.heap[k]?=some o->o.isCells=false->w'.heap[k]?=some o
theorem ga.refl (w:World):ga w w:=λ_ _ h _=>h
theorem ga.trans {A B C:World}(h:ga A B)(h':ga B C):ga A C:=λk o a b=>h' k o (h k o a b) b
theorem ga.Cd {w w':World}(h:Below w.heap.size w w'):ga w w':=λk o hk _=>by rw[h.block k (bC.1 hk).1];omega
theorem Ce {w:World}{b i:Nat}{es:Array MapEntry}{n:Nat}(h:w.heap[b]?=some (.map es n)):w.cell? ⟨b,i,none⟩=none:=by simp[World.cell?,h]
theorem ga.qG {w w':World}(h:ga w w')(aZ:Nat->Nat->Prop):vY aZ w w':=λb es k _ hb=>h b _ hb rfl
theorem ady.keep {aZ qF:Nat->Nat->Prop}{w w':World}{es:List MapEntry}{l:List (AV×AV)}(h:ady aZ w es l)(hk:∀v x,cZ aZ w v x->cZ qF w' v x):ady qF w' es l:=⟨h.1,λi e p h1 h2=>⟨hk _ _ (h.2 i e p h1 h2).1,hk _ _ (h.2 i e p h1 h2).2⟩⟩
theorem adz.keep {aZ qF:Nat->Nat->Prop}{w w':World}{r:Nat}{x:Option (AV×AV)×List (AV×AV)}(h:adz aZ w r x)(hk:∀v x,cZ aZ w v x->cZ qF w' v x)(hi:∀b,aZ b 0->qF b 0)(hr:∀m s seen c,w.heap[r]?=some (.mapIter m s seen c)->w'.heap[r]?=some (.mapIter m s seen c))(hm:vY aZ w w'):adz qF w' r x:=by rcases h with⟨h1,h2⟩|⟨m,fZ,es,seen,h1,h2,h3,h4,h5,h6⟩;exact .inl ⟨h1,hr _ _ _ _ h2⟩;refine .inr ⟨m,fZ,es,seen,hr _ _ _ _ h1,hm _ _ _ h3 h2,hi _ h3,h4,h5.keep hk,λp hp=>?_⟩;grind
theorem MT (l:List (AV×FV)):BV (λx=>x) l=l:=by
 induction l with
 |nil=>rfl
 |cons p l ih=>obtain⟨k,x⟩:=p;simp[BV,ih]
theorem YU.env {E E':Env}{G:aV}{S S':ah}{w:World}(h:YU E G S w)(hE:E'.w0=E.w0)(hm:S'.maps=S.maps)(hi:S'.iF=S.iF)(hC:E'.C=E.C:=by rfl):YU E' G S' w:=⟨λo l q=>h.at_ o l (hm▸q),λo b q=>hE▸h.loc o b q,h.inj,λq x p=>h.iF q x (hi▸p),λq r p=>hE▸h.yH q r p,h.yI,h.apart,λo T z k l b fZ es q1 q2 q3 q4 i e p q5 q6 q7=>h.room o T z k l b fZ es (hm▸q1) (hC▸q2) q3 q4 i e p q5 q6 q7⟩
theorem MU {es es':List MapEntry}{c c':Nat}{o:Option Obj}(h:o=some (.map es.toArray c))(h':o=some (.map es'.toArray c')):es'=es:=by simp_all
structure lJ (f:FV->FV)(G G':aV)(S S':ah)(w:World):Prop where
 p:∀x,f (.p x)=.p x
 maps:∀o l',getM S'.maps o=some l'->∃l,getM S.maps o=some l/\l'=BV f l/\∀b,G.mp o=some b->G'.mp o=some b
 iF:∀q x,getM S'.iF q=some x->getM S.iF q=some x/\∀r,G.it q=some r->G'.it q=some r
 mp:∀o b,G'.mp o=some b->G.mp o=some b
 it:∀o b,G'.it o=some b->G.it o=some b
 afF:∀b i es k,w.heap[b]?=some (.map es k)->(∃o,G'.mp o=some b)->G'.aZ b i->G.aZ b i
 afG:∀b,G.aZ b 0->G'.aZ b 0
 loc:∀o b,G'.loc o=some b->G.loc o=some b\/∀es k,w.heap[b]?≠some (.map es k)
 tail:∀q r,G.tail (.inr q)=some r->G'.tail (.inr q)=some r
theorem lJ.same {G G':aV}{S S':ah}{w:World}(h1:S'.maps=S.maps)(h2:S'.iF=S.iF)(h3:G'.mp=G.mp)(h4:G'.it=G.it)(h5:G'.aZ=G.aZ)(h6:G'.loc=G.loc)(ht:∀q r,G.tail (.inr q)=some r->G'.tail (.inr q)=some r:=by first|exactλ_ _ h=>h|exactλ_ _ h=>(aa (λe=>nomatch e)).trans h):lJ (λx=>x) G G' S S' w:=⟨λ_=>rfl,λo l' h=>⟨l',h1▸h,(MT l').symm,λb hb=>h3▸hb⟩,λq x h=>⟨h2▸h,λr hr=>h4▸hr⟩,λo b h=>h3▸h,λo b h=>h4▸h,λ_ _ _ _ _ _ h=>h5▸h,λ_ h=>h5▸h,λ_ _ h=>.inl (h6▸h),ht⟩
theorem lJ.more {G G':aV}{S S':ah}{w:World}(h1:S'.maps=S.maps)(h2:S'.iF=S.iF)(h3:G'.mp=G.mp)(h4:G'.it=G.it)(h5:∀b i,G'.aZ b i->G.aZ b i\/w.heap.size<=b)(h6:∀b,G.aZ b 0->G'.aZ b 0)(h7:∀o b,G'.loc o=some b->G.loc o=some b\/∀es k,w.heap[b]?≠some (.map es k))(ht:∀q r,G.tail (.inr q)=some r->G'.tail (.inr q)=some r:=by first|exactλ_ _ h=>h|exactλ_ _ h=>(aa (λe=>nomatch e)).trans h):lJ (λx=>x) G G' S S' w:=⟨λ_=>rfl,λo l' h=>⟨l',h1▸h,(MT l').symm,λb hb=>h3▸hb⟩,λq x h=>⟨h2▸h,λr hr=>h4▸hr⟩,λo b h=>h3▸h,λo b h=>h4▸h,λb i _ _ hb _ h=>(h5 b i h).elim id λh=>by simp_all,h6,h7,ht⟩
theorem YU.move {E:Env}{G G':aV}{S S':ah}{w w':World}(h:YU E G S w)(f:FV->FV)(hk:∀v x,aQ G w v x->aQ G' w' v (f x))(hw:ga w w')(hm:lJ f G G' S S' w):YU E G' S' w':=by
 have hp:∀v x,cZ G.aZ w v x->cZ G'.aZ w' v x:=λv x hv=>by
  have h1:=hk v (.p x) (.p v x hv);rw[hm.p]at h1;cases h1 with
  |p _ _ h2=>omega
 refine⟨λo l' hl=>?_,λo b hb=>?_,λo o' b h1 h2=>h.inj o o' b (hm.mp _ _ h1) (hm.mp _ _ h2),λq x hx=>?_,λq r hr=>?_,λq q' r h1 h2=>h.yI q q' r (hm.it _ _ h1) (hm.it _ _ h2),λo o' b h1 h2=>?_,λo T z k l' b' Ee es' q1 q2 q3 q4 i e p q5 q6 q7=>?_⟩;obtain⟨l,h1,rfl,h2⟩:=hm.maps o l' hl;obtain⟨b,fZ,es,h3,h4,h5,h6,h7⟩:=h.at_ o l h1;refine⟨b,fZ,es,h2 b h3,hw _ _ h4 rfl,h5,by rw[MH,ai];omega,λi e p he hpp=>?_⟩;rw[MH,aM]at hpp;grind;obtain⟨h1,h2,es,fZ,h3⟩:=h.loc o b (hm.mp _ _ hb);exact⟨h1,λi hi=>h2 i (hm.afF b i es fZ h3 ⟨o,hb⟩ hi),es,fZ,hw _ _ h3 rfl⟩;obtain⟨h1,h2⟩:=hm.iF q x hx;obtain⟨r,h3,h4⟩:=h.iF q x h1;exact⟨r,h2 r h3,h4.keep hp hm.afG (λm s seen c h=>hw _ _ h rfl) (hw.qG _)⟩;obtain⟨h1,m,s,seen,c,h2⟩:=h.yH q r (hm.it _ _ hr);exact⟨h1,m,s,seen,c,hw _ _ h2 rfl⟩;rcases hm.loc o' b h2 with h3|h3;exact h.apart o o' b (hm.mp _ _ h1) h3;obtain⟨-,-,es,k,h4⟩:=h.loc o b (hm.mp _ _ h1);simp_all;obtain⟨l,h1,rfl,h2⟩:=hm.maps o l' q1;obtain⟨b,fZ,es,h3,h4,h5,h6,h7⟩:=h.at_ o l h1;obtain rfl:b=b':=by simp_all
 obtain rfl:=MU (hw _ _ h4 rfl) q4;rw[MH,aM]at q6;cases hq:l[i]?with
 |none=>simp_all
 |some q=>simp only[hq,eC,bM]at q6;subst q6;obtain⟨ad,n,c,g1,g2⟩:=h.room o T z k l b fZ es' h1 q2 h3 h4 i e q q5 hq q7;exact⟨ad,n,c,g1,g2.imp id λ⟨b2,off,g3,g4⟩=>⟨b2,off,g3,hm.tail _ _ g4⟩⟩
theorem oM.of {G G':aV}{w w':World}(h:oM G.aZ w)(hk:∀v x,aQ G w v x->aQ G' w' v x):oM G'.aZ w':=λg xs hg=>by
 have key:∀v x,cZ G.aZ w v x->cZ G'.aZ w' v x:=λv x hv=>by
  have h1:=hk v (.p x) (.p v x hv);cases h1 with
  |p _ _ h2=>omega
 exact key _ _ (h g xs hg)
theorem Ext.move {E:Env}{G G':aV}{S S':ah}{a a':Act}{w w':World}(h:Ext E G S a w)(f:FV->FV)(hd:a'.defers=a.defers)(hp:S'.bV=S.bV)(hs:S'.bF=yB f S.bF)(hk:∀v x,aQ G w v x->aQ G' w' v (f x))(hw:ga w w')(JK:lJ f G G' S S' w)(hy:∀l k,G'.yl l=some k->G.yl l=some k:=by intro _ _ h;exact h):Ext E G' S' a' w':=by
 refine⟨h.mps.move f hk hw JK,by rw[hs,GX,ai];exact h.kM,λi vals fr h1 h2=>?_,by rw[hp];exact h.jS,λi k r st h1 h2=>?_,h.kO,λi k r h1 k' h2=>h.yl i k r h1 k' (hy _ _ h2),h.mu,?_,λg xs hg=>?_⟩;rw[hs,GX,aM]at h2;cases hx:S.bF[i]?with
 |none=>simp_all
 |some fr0=>simp[hx]at h2;subst h2;obtain⟨h3,h4⟩:=h.bF i vals fr0 h1 hx;exact⟨h3,λj hj=>hk _ _ (h4 j hj)⟩
 obtain⟨h3,h4⟩:=h.loops i k r st h1 (hp▸h2);exact⟨h3,hw _ _ h4 rfl⟩;obtain⟨ms,h1,h2,h3⟩:=h.marks;exact⟨ms,hd.trans h1,h2,λr hr=>⟨(h3 r hr).1,hw _ _ (h3 r hr).2 rfl⟩⟩;have key:∀v x,cZ G.aZ w v x->cZ G'.aZ w' v x:=λv x hv=>by
  have h1:=hk v (.p x) (.p v x hv);rw[JK.p]at h1;cases h1 with
  |p _ _ h2=>omega
 exact key _ _ (h.AE g xs hg)
theorem Zv (rs:List Fr):yB (λx=>x) rs=rs:=by
 induction rs with
 |nil=>rfl
 |cons r rs ih=>simp[yB,ih,Fr.map]
theorem Ext.keep {E:Env}{G G':aV}{S S':ah}{a a':Act}{w w':World}(h:Ext E G S a w)(hd:a'.defers=a.defers)(hp:S'.bV=S.bV)(hs:S'.bF=S.bF)(hk:∀v x,aQ G w v x->aQ G' w' v x)(hw:ga w w')(hy:∀l k,G'.yl l=some k->G.yl l=some k:=by intro _ _ h;exact h)(JK:lJ (λx=>x) G G' S S' w:=by exact lJ.same rfl rfl rfl rfl rfl rfl):Ext E G' S' a' w':=h.move (λx=>x) hd hp (by rw[Zv];omega) hk hw JK hy
structure Bld (E:Env)(G:aV)(S:ah)(w:World):Prop where
 at_:∀o bs,lH S.cw o=some bs->getObj S.aJ o=none/\∃b,G.loc o=some b/\yz E.C w b (G.row o) bs
 row:∀o r,G.row o=some r->(E.w0.heap.size<=r\/(o=999999/\r∈E.own))/\r<w.heap.size/\(∀i,¬G.aZ r i)/\(∀o',G.loc o'≠some r)/\(∀t q,G.tail t≠some (r,q))/\∀o',G.row o'=some r->o'=o
 cM:∀o r,G.row o=some r->∃cs T fr,w.heap[r]?=some (.cells cs T fr)
theorem yz.keep {C:Ctx}{w w':World}{b:Nat}{row:Option Nat}{bs:List UInt8}(h:yz C w b row bs)(hb:w'.heap[b]?=w.heap[b]?)(hr:∀r,row=some r->w'.heap[r]?=w.heap[r]?):yz C w' b row bs:=by obtain⟨p,v,h1,h2,h3⟩:=h;refine⟨p,v,h1,hb.trans h2,?_⟩;grind
theorem Bld.keep {E E':Env}{G G':aV}{S S':ah}{w w':World}(h:Bld E G S w)(hC:E'.C=E.C)(hw0:E'.w0=E.w0)(hS:∀o bs,lH S'.cw o=some bs->lH S.cw o=some bs/\G'.loc o=G.loc o/\G'.row o=G.row o)(hO:∀o bs,lH S'.cw o=some bs->getObj S.aJ o=none->getObj S'.aJ o=none)(hrow:∀o r,G'.row o=some r->G.row o=some r)(hsz:w.heap.size<=w'.heap.size)(hb:∀o bs b,lH S.cw o=some bs->getObj S.aJ o=none->G.loc o=some b->w'.heap[b]?=w.heap[b]?)(hr:∀o r,G.row o=some r->w'.heap[r]?=w.heap[r]?)(Cf:∀o r i,G.row o=some r->G'.aZ r i->G.aZ r i)(gb:∀o r o',G.row o=some r->G'.loc o'=some r->G.loc o'=some r)(aia:∀o r t q,G.row o=some r->G'.tail t=some (r,q)->∃t' q',G.tail t'=some (r,q'))(hown:E'.own=E.own:=by rfl):Bld E' G' S' w':=by refine⟨λo bs hq=>?_,λo r hq=>?_,λo r hq=>by rw[hr o r (hrow o r hq)];exact h.cM o r (hrow o r hq)⟩;obtain⟨h1,h2,h3⟩:=hS o bs hq;obtain⟨h4,b,h5,h6⟩:=h.at_ o bs h1;refine⟨hO o bs hq h4,b,h2.trans h5,?_⟩;rw[h3,hC];exact h6.keep (hb o bs b h1 h4 h5) (λr e=>hr o r e);have h0:=hrow o r hq;obtain⟨h1,h2,h3,h4,h5,h6⟩:=h.row o r h0;grind
theorem Bld.same {E E':Env}{G:aV}{S S':ah}{w w':World}(h:Bld E G S w)(hC:E'.C=E.C)(hw0:E'.w0=E.w0)(hS:S'.cw=S.cw)(hO:S'.aJ=S.aJ)(hsz:w.heap.size<=w'.heap.size)(hb:∀o bs b,lH S.cw o=some bs->getObj S.aJ o=none->G.loc o=some b->w'.heap[b]?=w.heap[b]?)(hr:∀o r,G.row o=some r->w'.heap[r]?=w.heap[r]?)(hown:E'.own=E.own:=by rfl):Bld E' G S' w':=h.keep hC hw0 (λo bs q=>⟨hS▸q,rfl,rfl⟩) (λo _ _ q=>hO▸q) (λ_ _ e=>e) hsz hb hr (λ_ _ _ _ e=>e) (λ_ _ _ _ e=>e) (λ_ _ t q _ e=>⟨t,q,e⟩) hown
structure bp (E:Env)(G:aV)(S:ah)(a:Act)(w:World):Prop where
 kept:Kept E.own E.w0 w
 size:a.tmps.size=S.n
 ext':Ext E G S a w
 iZ:Bld E G S w
 oh:∀b o,G.aZ b o->E.Bh b o\/E.w0.heap.size<=b
 fq:∀b o,G.aZ b o->b<w.heap.size
 tmps:∀i,i<S.n->aQ G w (a.tmps.getD i undef) (S.tmps i)
 aJ:∀o cells,getObj S.aJ o=some cells->∃b,G.loc o=some b/\∀(i:Nat)(x:FV),cells[i]?=some x->∃c,w.cell? ⟨b,i,none⟩=some c/\aQ G w c x
 iu:∀o b,G.loc o=some b->b<w.heap.size/\E.mine o b/\∀i,¬G.aZ b i/\w.frozen? ⟨b,i,none⟩=false
 fk:∀o o' b,G.loc o=some b->G.loc o'=some b->o=o'
 ck:∀o t b r,G.loc o=some b->G.tail t=some (b,r)->t=o/\lH S.cw o=none/\∀cells,getObj S.aJ o=some cells->cells.length=r.1
 fI:∀t b s e T,G.tail t=some (b,s,e,T)->b<w.heap.size/\E.w0.heap.size<=b/\(∃cs fr,w.heap[b]?=some (.cells cs T fr)/\adA t fr)/\∀i,s<=i->i<e->(∃c,w.cell? ⟨b,i,none⟩=some c)/\w.frozen? ⟨b,i,none⟩=false/\¬G.aZ b i
 en:∀t t' b r r',G.tail t=some (b,r)->G.tail t'=some (b,r')->t=t'
def pJ (E:Env)(S:ah)(a:Act)(w:World):Prop:=∃G,bp E G S a w
theorem pJ.weaken {E:Env}{S S':ah}{a:Act}{w:World}(h:pJ E S a w)(hw:bL S S'):pJ E S' a w:=by
 obtain⟨G,h⟩:=h;refine⟨G,h.kept,h.size.trans hw.n.symm,⟨⟨λo l' hl=>?_,h.ext'.mps.loc,h.ext'.mps.inj,λq x hx=>h.ext'.mps.iF q x (hw.iF q x hx),h.ext'.mps.yH,h.ext'.mps.yI,h.ext'.mps.apart,λo T z k l' b fZ es q1 q2 q3 q4 i e p q5 q6 q7=>?_⟩,hw.bF.1.trans h.ext'.kM,λi vals fr h1 h2=>?_,by rw[hw.bV];exact h.ext'.jS,λi k r st h1 h2=>h.ext'.loops i k r st h1 (hw.bV▸h2),h.ext'.kO,h.ext'.yl,h.ext'.mu,h.ext'.marks,h.ext'.AE⟩,⟨λo bs q=>⟨(hw.cw o bs q).2 (h.iZ.at_ o bs (hw.cw o bs q).1).1,(h.iZ.at_ o bs (hw.cw o bs q).1).2⟩,h.iZ.row,h.iZ.cM⟩,h.oh,h.fq,λi hi=>hw.tmps i _ _ _ (h.tmps i (hw.n▸hi)),λo ys ho=>?_,h.iu,h.fk,λo t b r h1 h2=>?_,h.fI,h.en⟩;obtain⟨l,h1,h2,h3⟩:=hw.maps o l' hl;obtain⟨b,fZ,es,h4,h5,h6,h7,h8⟩:=h.ext'.mps.at_ o l h1;refine⟨b,fZ,es,h4,h5,h6,h7.trans h2,λi e p he hp=>?_⟩;have zZ:i<l.length:=by rw[h2];exact(aC.1 hp).1
 obtain⟨h9,h10⟩:=h3 i _ p (aq zZ) hp;obtain⟨h11,h12⟩:=h8 i e _ he (aq zZ);exact⟨h9▸h11,h10 _ _ _ h12⟩;obtain⟨l,h1,h2,h3⟩:=hw.maps o l' q1;have zZ:i<l.length:=by rw[h2];exact(aC.1 q6).1
 obtain⟨h9,-⟩:=h3 i _ p (aq zZ) q6;exact h.ext'.mps.room o T z k l b fZ es h1 q2 q3 q4 i e _ q5 (aq zZ) (h9▸q7);have hl:i<S.bF.length:=by rw[<-hw.bF.1];exact(aC.1 h2).1
 obtain⟨h3,h4,h5⟩:=hw.bF.2 i _ fr (aq hl) h2;obtain⟨h6,h7⟩:=h.ext'.bF i vals _ h1 (aq hl);exact⟨h6.trans h3.symm,λj hj=>h5 j _ _ _ (h7 j (h3▸hj))⟩;obtain⟨xs,h1,h2,h3⟩:=hw.aJ o ys ho;obtain⟨b,h4,h5⟩:=h.aJ o xs h1;refine⟨b,h4,λi y hy=>?_⟩;have hl:i<xs.length:=by rw[h2];exact(aC.1 hy).1
 obtain⟨c,h6,h7⟩:=h5 i _ (aq hl);exact⟨c,h6,h3 i _ _ (aq hl) hy _ _ _ h7⟩;obtain⟨h3,h4,h5⟩:=h.ck o t b r h1 h2;refine⟨h3,?_,λys ho=>?_⟩;cases hb:lH S'.cw o with
 |none=>rfl
 |some bs=>rw[(hw.cw o bs hb).1]at h4;omega
 obtain⟨xs,h6,h7,-⟩:=hw.aJ o ys ho;simp_all
theorem bp.J {E:Env}{G:aV}{S:ah}{a:Act}{w:World}(h:bp E G S a w):(E.C.J w/\oM G.aZ w)/\E.C.ov<=w.heap.size:=⟨⟨E.C.ags E.w0 w (λk hk=>h.kept.block k (fO hk E.hn) λhm=>by have :=(E.hown k hm).1;omega) E.hJ,h.ext'.AE⟩,bH E.hn h.kept.size⟩
theorem pP {a:Act}{t:Nat}:a.eval (.tmp t)=a.tmps.getD t undef:=rfl
theorem aQ.get {E:Env}{G:aV}{S:ah}{a:Act}{w:World}(h:bp E G S a w)(t:Nat):aQ G w (a.tmps.getD t undef) (S.get t):=by unfold ah.get;split;rename_i hb;exact h.tmps t (by simp_all);exact .dr _
theorem SI (aZ:Nat->Nat->Prop)(w:World)(s:ByteArray):cZ aZ w (.string s) (.str s.data.toList):=by have :=cZ.str (aZ:=aZ) (w:=w) s.data.toList;omega
theorem uf (G:aV)(w:World)(v:Value):aQ G w v (FV.gP v):=by unfold FV.gP;split;exact .p _ _ (.bool _);exact .p _ _ (.int _ _);exact .p _ _ (SI _ _ _);exact .p _ _ .vX;exact .p _ _ .Bd;exact .p _ _ .rW;exact .p _ _ .kQ;exact .full [] none (.WE none 0);exact .dr _
theorem Hp (G:aV)(w:World)(v:Value):aQ G w v (FV.Pc v):=by unfold FV.Pc;split;rename_i cs;have :=aQ.agg (G:=G) (w:=w) cs.toList (cs.toList.map FV.gP) (by simp) (λi c x h1 h2=>by rw[aM,h1]at h2;simp only[eC,bM]at h2;subst h2;exact uf _ _ _);omega;exact .p _ _ (by simpa using cZ.eY (aZ:=G.aZ) (w:=w) [] [] rfl (by simp));exact uf _ _ _
theorem aQ.val {E:Env}{G:aV}{S:ah}{a:Act}{w:World}(h:bp E G S a w)(x:Operand):aQ G w (a.eval x) (S.val x):=by
 cases x with
 |tmp t=>exact aQ.get h t
 |const v=>exact Hp _ _ _
 |func f=>exact .p _ _ (by simpa[Act.eval]using cZ.fn (aZ:=G.aZ) (w:=w) (.func f) [] [] [] [] rfl rfl (by simp) (by simp))
 |global g=>simp only[ah.val];split;rename_i xs hg;exact .p _ _ (h.ext'.AE g xs hg);exact .dr _
theorem bp.put {E:Env}{G:aV}{S:ah}{a:Act}{w:World}(h:bp E G S a w)(dst:Option Nat){v:Value}{x:FV}(hv:aQ G w v x):bp E G (S.put dst x) (a.put dst v) w:=by
 cases dst with
 |none=>exact h
 |some d=>
  refine⟨h.kept,by simpa[Act.put,ah.put]using h.size,h.ext'.keep rfl rfl rfl (λ_ _ h=>h) (.refl _),⟨h.iZ.at_,h.iZ.row,h.iZ.cM⟩,h.oh,h.fq,λi hi=>?_,h.aJ,h.iu,h.fk,h.ck,h.fI,h.en⟩;have hi':i<a.tmps.size:=by rw[h.size];exact hi
  simp only[ah.put,Act.put];by_cases hd:i=d;simp_all;have :Nat.beq i d=false:=by cases hb:Nat.beq i d;rfl;simp_all
  rw[this];have :=h.tmps i hi;simpa[Array.getD,hi',Cg,dM hd]using this
theorem bp.MV {E:Env}{G:aV}{S:ah}{a:Act}{w w':World}(h:bp E G S a w)(hb:Below w.heap.size w w')(N:Nat->Nat->Prop):bp E {G with aZ:=λb o=>G.aZ b o\/(w.heap.size<=b/\b<w'.heap.size/\N b o)} S a w':=by have hcell:∀b i,b<w.heap.size->w'.cell? ⟨b,i,none⟩=w.cell? ⟨b,i,none⟩:=λb i hl=>hb.cell (p:=⟨b,i,none⟩) hl;have Ve:∀b i,b<w.heap.size->w'.frozen? ⟨b,i,none⟩=w.frozen? ⟨b,i,none⟩:=λb i hl=>hb.frozen (p:=⟨b,i,none⟩) hl;have keep:∀v x,aQ G w v x->aQ {G with aZ:=λb o=>G.aZ b o\/(w.heap.size<=b/\b<w'.heap.size/\N b o)} w' v x:=λv x hv=>hv.keep (λb o hi=>.inl hi) (λb o c hi hc=>by rw[hcell b o (h.fq b o hi)];omega) ((ga.Cd hb).qG _) (λ_ _ e=>e) (λ_ _ e=>e);refine⟨⟨hb.os.trans h.kept.os,hb.tape.trans h.kept.tape,hb.output.trans h.kept.output,bH h.kept.size hb.size,λk hk hk'=>(hb.block k (fO hk h.kept.size)).trans (h.kept.block k hk hk'),λk cs T fr hk q=>let⟨cs',q1,q2⟩:=h.kept.shape k cs T fr hk q;⟨cs',(hb.block k (bC.1 q1).1).trans q1,q2⟩⟩,h.size,h.ext'.keep rfl rfl rfl keep (.Cd hb) (JK:=.more rfl rfl rfl rfl (λb i hi=>hi.imp id λhi=>hi.1) (λb hi=>.inl hi) λ_ _ h=>.inl h),?_,?_,?_,λi hi=>keep _ _ (h.tmps i hi),?_,?_,h.fk,h.ck,?_,h.en⟩;exact h.iZ.keep rfl rfl (λo bs q=>⟨q,rfl,rfl⟩) (λ_ _ _ q=>q) (λ_ _ e=>e) hb.size (λo bs b q _ e=>hb.block b (h.iu o b e).1) (λo r e=>hb.block r (h.iZ.row o r e).2.1) (λo r i e hi=>hi.elim id λhi=>absurd (h.iZ.row o r e).2.1 oO) (λ_ _ _ _ e=>e) (λ_ _ t q _ e=>⟨t,q,e⟩);rintro b o (hi|⟨hi,_⟩);exact h.oh b o hi;exact .inr (bH h.kept.size hi);rintro b o (hi|⟨_,hi,_⟩);exact fO (h.fq b o hi) hb.size;omega;intro o cells ho;obtain⟨b,h1,h2⟩:=h.aJ o cells ho;refine⟨b,h1,λi x hx=>?_⟩;obtain⟨c,h3,h4⟩:=h2 i x hx;exact⟨c,by rw[hcell b i (h.iu o b h1).1];omega,keep _ _ h4⟩;intro o b ho;obtain⟨h1,h2,h3⟩:=h.iu o b ho;refine⟨fO h1 hb.size,h2,λi=>⟨?_,by simp_all⟩⟩;grind;intro t b s e T ht;obtain⟨h1,h2,hty,h3⟩:=h.fI t b s e T ht;refine⟨fO h1 hb.size,h2,by rw[hb.block b h1];omega,λi hi hi'=>?_⟩;grind
theorem bp.ext {E:Env}{G:aV}{S:ah}{a:Act}{w w':World}(h:bp E G S a w)(hb:Below w.heap.size w w'):bp E {G with aZ:=λb o=>G.aZ b o\/(w.heap.size<=b/\b<w'.heap.size)} S a w':=by have :=h.MV hb λ_ _=>True;simp_all
theorem Ch (aZ:Nat->Nat->Prop)(w:World)(o:Obj):vY aZ w (w.alloc o):=(ga.Cd ((Below.refl _ _).alloc (ay _) _)).qG _
theorem bp.drew {E:Env}{G:aV}{S:ah}{a:Act}{w:World}(h:bp E G S a w):bp E G S a {w with drawn:=w.drawn+1}:=by have keep:∀v x,aQ G w v x->aQ G {w with drawn:=w.drawn+1} v x:=λv x hv=>hv.keep (λ_ _ hi=>hi) (λ_ _ _ _ hc=>hc) (λ_ _ _ _ h=>h) (λ_ _ e=>e) (λ_ _ e=>e);refine⟨⟨h.kept.os,h.kept.tape,h.kept.output,h.kept.size,h.kept.block,h.kept.shape⟩,h.size,h.ext'.keep rfl rfl rfl keep (.refl _),h.iZ.same rfl rfl rfl rfl (ay _) (λ_ _ _ _ _ _=>rfl) (λ_ _ _=>rfl),h.oh,h.fq,λi hi=>keep _ _ (h.tmps i hi),λo cells ho=>?_,h.iu,h.fk,h.ck,h.fI,h.en⟩;obtain⟨b,h1,h2⟩:=h.aJ o cells ho;exact⟨b,h1,λi x hx=>let⟨c,h3,h4⟩:=h2 i x hx;⟨c,h3,keep _ _ h4⟩⟩
end Qv
