/- Part 1 of the proof: its lemmas. No condition. -/
import Derived.Tactics
import Derived.KernelRfl
import Derived.Below
import Derived.Deep.Quiet
set_option maxRecDepth 10000
set_option maxHeartbeats 80000000
set_option linter.all false
namespace Qv
open Go
def an:=@List.getElem?_eq_getElem
def ah:=@decide_eq_false
def ai:=@decide_eq_true
def aj:=@List.length_map
def aa:=@if_neg
def aG:=@List.getElem?_eq_some_iff
def af:=@if_pos
def ak:=@Option.some.inj
def ay:=@List.length_append
def aK:=@Nat.eq_of_beq_eq_true
def aL:=@List.mem_singleton
def aF:=@List.map_append
def aJ:=@List.getElem?_map
def aC:=@List.mem_cons
def bQ:=@List.take_succ_eq_append_getElem
def bq:=@Array.getElem?_eq_some_iff
def av:=@Nat.le_refl
def aN:=@List.length_take
def aP:=@List.take_length
def aB:=@List.mem_map
def aR:=@Bool.and_eq_true
def aS:=@List.length_cons
def aT:=@List.getElem_mem
def bM:=@List.drop_eq_getElem_cons
def aW:=@List.append_nil
def bJ:=@Nat.ne_of_beq_eq_false
def bl:=@List.append_assoc
def bf:=@List.mem_append
def bP:=@List.mem_of_getElem?
def br:=@List.all_eq_true
def bF:=@Option.some.injEq
def dc:=@List.getD_eq_getElem?_getD
def cV:=@List.getElem?_append_left
def cg:=@List.mem_cons_of_mem
def bA:=@List.length_nil
def cO:=@List.length_eq_zero_iff
def cQ:=@List.drop_eq_nil_of_le
def eu:=@List.getElem?_append_right
def bw:=@List.map_cons
def ct:=@List.pairwise_cons
def eR:=@List.pairwise_iff_getElem
def cE:=@Bool.not_eq_true'
def cr:=@List.cons_append
def dU:=@List.take_append_drop
def cK:=@Classical.not_not
def cL:=@of_decide_eq_true
def dr:=@List.getElem_of_mem
def fe:=@List.take_of_length_le
def dF:=@List.map_congr_left
def bL:=@Nat.le_trans
def ew:=@Nat.mul_le_mul_right
def bC:=@Nat.add_mul
def gx:=@Nat.eq_of_mul_eq_mul_right
def aV:=@congrArg
def en:=@Nat.lt_of_lt_of_le
def eo:=@List.length_drop
def dS:=@List.nil_append
def ek:=@Option.map_some
def eC:=@List.mem_filter
def gW:=@Nat.le_of_ble_eq_true
def gZ:=@List.length_singleton
def fC:=@List.any_eq_true
def fc:=@List.foldl_cons
def mh:=@List.eq_nil_of_length_eq_zero
def fM:=@Nat.le_of_not_lt
def dn:=@Nat.zero_add
def kI:=@Classical.byContradiction
def kM:=@List.mem_of_find?_eq_some
def iL:=@List.getElem?_of_mem
def fA:=@List.mem_range
def jk:=@Array.getElem?_modify
def dV:=@List.map_map
def jo:=@List.length_filter_le
def gy:=@List.not_mem_nil
def gA:=@List.mem_flatMap
def gU:=@List.ext_getElem?
def jl:=@List.mem_append_left
def fB:=@List.cons.inj
def me:=@List.take_append_getElem
def jj:=@Array.length_toList
def fK:=@Nat.add_assoc
def mb:=@List.getElem?_cons_succ
def kD:=@List.flatMap_append
def nw:=@Option.isSome_iff_exists
def jV:=@List.getElem?_drop
def gw:=@Bool.true_and
def kq:=@List.mem_cons_self
def fV:=@List.map_nil
def jm:=@List.filter_cons
def ko:=@List.length_range
def nt:=@List.getElem?_eq_none
def jq:=@Bool.eq_iff_iff
def jr:=@List.find?_some
def mj:=@List.filter_append
def rS:=@List.take_append_of_le_length
def kf:=@Array.toList_inj
def kJ:=@List.cons_ne_nil
def nA:=@Bool.or_eq_false_iff
def iP:=@Bool.false_or
def pM:=@Int.eq_ofNat_of_zero_le
def mc:=@List.nodup_append
def kg:=@List.cons.injEq
def kr:=@Bool.or_eq_true
def kA:=@List.nodup_cons
def kC:=@Nat.not_lt_zero
def rW:=@Array.getElem?_append_left
def lZ:=@Nat.mod_eq_of_lt
def mg:=@List.getElem_map
def iN:=@Nat.beq_refl
def pq:=@List.singleton_append
def gY:=@Prod.mk.inj
def cU:=@Ne.symm
def mZ:=@List.flatten_cons
def nC:=@List.any_eq_false
def ng:=@Array.toList_map
def ny:=@Nat.shiftLeft_eq
def pN:=@of_decide_eq_false
def pU:=@BitVec.toNat_ofNat
def rU:=@Array.getElem?_toList
def sq:=@List.mem_append_right
def oZ:=@Int.toNat_natCast
def pR:=@List.flatMap_cons
def rT:=@List.mem_of_mem_take
def sG:=@List.pairwise_append
def vO:=@List.extract_eq_take_drop
def nD:=@List.nodup_nil
def jZ:=@Nat.one_mul
def sk:=@List.mem_map_of_mem
def sD:=@List.flatten_append
def rP:=@Bool.false_eq_true
def sy:=@List.getElem_range
def sE:=@Nat.add_sub_cancel
def pO:=@List.find?_cons
def sF:=@List.find?_eq_none
def wg:=@Option.map_eq_some_iff
def DB:=@List.takeWhile_append_dropWhile
def sJ:=@Nat.lt_trichotomy
def sL:=@List.foldl_append
def pL:=@Bool.false_and
def nc:=@Nat.add_comm
def Cg:=@List.drop_append_of_le_length
def rV:=@Option.bind_some
def CW:=@Nat.shiftLeft_add_eq_or_of_lt
def sK:=@List.mem_reverse
def vN:=@List.extract_toArray
def vP:=@List.getElem?_set_ne
def vZ:=@List.getElem?_append
def pG:=@Bool.and_true
def BY:=@Array.getElem_setIfInBounds
def vM:=@List.length_pos_iff
def CD:=@Array.getD_eq_getD_getElem?
def wq:=@List.getElem?_range
def CT:=@Int.fdiv_eq_ediv_of_nonneg
def Dv:=@List.nodup_iff_pairwise_ne
def vY:=@Nat.pos_of_ne_zero
def wj:=@List.mem_filterMap
def wm:=@List.getElem?_take
def wL:=@List.map_singleton
def Cy:=@Array.getElem?_eq_getElem
def sB:=@Bool.and_false
def Cn:=@List.getElem?_take_of_lt
def CB:=@Array.setIfInBounds_comm
def wN:=@List.getElem_take
def oP:=@Nat.zero_le
def rZ:=@List.map_take
def sr:=@List.sum_cons
def Dr:=@List.pairwise_mergeSort
def vX:=@Option.getD_some
def wU:=@List.append_inj'
def Cf:=@List.drop_of_length_le
def DD:=@List.findIdx_lt_length
def Cw:=@List.getElem?_toArray
def CM:=@List.contains_iff_mem
def wA:=@List.sum_append
def Dp:=@List.length_mergeSort
def wO:=@Nat.min_eq_left
def DK:=@List.pairwise_flatMap
def pn:=@Nat.mod_lt
def Ca:=@List.range_eq_range'
def Cl:=@List.mem_of_mem_drop
def Cr:=@Nat.div_lt_of_lt_mul
def Ct:=@Array.toArray_toList
def Dx:=@List.cons_merge_cons
def vR:=@List.drop_drop
def wo:=@List.drop_zero
def wv:=@UInt8.toNat_lt
def Ch:=@List.take_succ_cons
def rY:=@Nat.mul_one
def CL:=@beq_eq_false_iff_ne
def DN:=@List.length_reverse
def vK:=@List.all_cons
def CU:=@Int.natCast_nonneg
def wJ:=@Nat.lt_irrefl
def Dq:=@List.mem_mergeSort
def CV:=@Nat.or_lt_two_pow
def Dw:=@List.pairwise_map
def vQ:=@Nat.add_zero
def vW:=@Nat.mul_comm
def wP:=@Nat.succ_pos
def Ci:=@List.map_toArray
def Cu:=@List.mem_flatten
def MN:=@Array.getElem?_setIfInBounds
def vu:=@Sum.inl.inj
def MG:=@Array.getElem?_append_right
def CE:=@List.length_set
def wu:=@Subtype.ext
def Dl:=@List.range_succ
theorem oO {p:Prop}(h:p:=by omega):p:=h
theorem kK {p:Prop}(h:p:=by kernel_rfl):p:=h
theorem dD {p:Prop}(h:p:=by decide):p:=h
theorem zL {n:Nat}:0<=n:=oP n
inductive AV where|bool (b:Bool)|int (k:IntKind)(n:Int)|str (s:List UInt8)|xF|DW|sX|vq|iface (t:TypeId)(x:AV)|agg (xs:List AV)|eS (xs:List AV)|sl (xs:List (List AV))|imp (xs:List AV)|fn (f:Fn)(first captured:List AV)|mp (ks vs:List AV) deriving Inhabited
def AV.one:AV->Bool|.agg _=>false|.eS _=>false|_=>true
def AV.cells:AV->List AV|.agg xs=>xs|x=>[x]
structure oQ (es:List MapEntry)(gm:Nat):Prop where
 lt:∀e,e∈es->e.born<gm
 nd:(es.map (·.born)).Nodup
def vr (bh:Nat->Nat->Prop)(w w':World):Prop:=∀(b:Nat)(es:Array MapEntry)(k:Nat),bh b 0->w.heap[b]?=some (.map es k)->w'.heap[b]?=some (.map es k)
theorem vr.refl (bh:Nat->Nat->Prop)(w:World):vr bh w w:=λ_ _ _ _ h=>h
inductive dh (bh:Nat->Nat->Prop)(w:World):Value->AV->Prop|bool (b:Bool):dh bh w (.bool b) (.bool b)|int (k:IntKind)(n:Int):dh bh w (.int k n) (.int k n)|str (s:List UInt8):dh bh w (.string ⟨s.toArray⟩) (.str s)|xF:dh bh w (.pointer none) .xF|DW:dh bh w .nilFunc .DW|sX:dh bh w .nilIface .sX|vq:dh bh w (.map none) .vq|iface (t:TypeId)(v:Value)(x:AV):dh bh w v x->dh bh w (.iface t v) (.iface t x)|agg (cs:List Value)(xs:List AV):cs.length=xs.length->(∀x,x∈xs->x.one=true)->(∀(i:Nat)(c:Value)(x:AV),cs[i]?=some c->xs[i]?=some x->dh bh w c x)->dh bh w (.agg cs.toArray) (.agg xs)|eS (cs:List Value)(xs:List AV):cs.length=xs.length->(∀(i:Nat)(c:Value)(x:AV),cs[i]?=some c->xs[i]?=some x->dh bh w c x)->dh bh w (.tuple cs.toArray) (.eS xs)|Uj (a:Option Addr)(c:Nat):dh bh w (.slice a 0 c) (.sl [])|sl (b off c bI:Nat)(xs:List (List AV))(cell:Nat->Nat->Value):(∀(i:Nat)(ys:List AV),xs[i]?=some ys->ys.length=bI)->(∀(i:Nat)(ys:List AV)(j:Nat)(y:AV),xs[i]?=some ys->ys[j]?=some y->y.one=true)->(∀(i:Nat)(ys:List AV)(j:Nat)(y:AV),xs[i]?=some ys->ys[j]?=some y->w.cell? ⟨b,off+i*bI+j,none⟩=some (cell i j))->(∀(i:Nat)(ys:List AV)(j:Nat)(y:AV),xs[i]?=some ys->ys[j]?=some y->bh b (off+i*bI+j))->(∀(i:Nat)(ys:List AV)(j:Nat)(y:AV),xs[i]?=some ys->ys[j]?=some y->dh bh w (cell i j) y)->xs.length<=c->dh bh w (.slice (some ⟨b,off,none⟩) xs.length c) (.sl xs)|imp (b off:Nat)(xs:List AV)(cell:Nat->Value):(∀(j:Nat)(y:AV),xs[j]?=some y->y.one=true)->(∀(j:Nat)(y:AV),xs[j]?=some y->w.cell? ⟨b,off+j,none⟩=some (cell j))->(∀(j:Nat)(y:AV),xs[j]?=some y->bh b (off+j))->(∀(j:Nat)(y:AV),xs[j]?=some y->dh bh w (cell j) y)->dh bh w (.pointer (some ⟨b,off,none⟩)) (.imp xs)|fn (f:Fn)(fs cs:List Value)(first captured:List AV):fs.length=first.length->cs.length=captured.length->(∀(i:Nat)(c:Value)(x:AV),fs[i]?=some c->first[i]?=some x->dh bh w c x)->(∀(i:Nat)(c:Value)(x:AV),cs[i]?=some c->captured[i]?=some x->dh bh w c x)->dh bh w (.func f fs.toArray cs.toArray) (.fn f first captured)|mp (b gm:Nat)(es:List MapEntry)(ks vs:List AV):ks.length=es.length->vs.length=es.length->bh b 0->w.heap[b]?=some (.map es.toArray gm)->oQ es gm->(∀(i:Nat)(e:MapEntry)(x:AV),es[i]?=some e->ks[i]?=some x->dh bh w e.key x)->(∀(i:Nat)(e:MapEntry)(x:AV),es[i]?=some e->vs[i]?=some x->dh bh w e.val x)->dh bh w (.map (some b)) (.mp ks vs)
theorem dh.keep {bh tL:Nat->Nat->Prop}{w w':World}{v:Value}{x:AV}(h:dh bh w v x)(hi:∀b o,bh b o->tL b o)(hc:∀b o c,bh b o->w.cell? ⟨b,o,none⟩=some c->w'.cell? ⟨b,o,none⟩=some c)(hm:vr bh w w'):dh tL w' v x:=by
 induction h with
 |bool b=>exact .bool b
 |int k n=>exact .int k n
 |str s=>exact .str s
 |xF=>exact .xF
 |DW=>exact .DW
 |sX=>exact .sX
 |vq=>exact .vq
 |iface t v x _ ih=>exact .iface t v x ih
 |agg cs xs hl ho _ ih=>exact .agg cs xs hl ho λi c x h1 h2=>ih i c x h1 h2
 |eS cs xs hl _ ih=>exact .eS cs xs hl λi c x h1 h2=>ih i c x h1 h2
 |Uj a c=>exact .Uj a c
 |sl b off c bI xs cell h1 h2 h3 h4 _ h6 ih=>exact .sl b off c bI xs cell h1 h2 (λi ys j y a1 a2=>hc _ _ _ (h4 i ys j y a1 a2) (h3 i ys j y a1 a2)) (λi ys j y a1 a2=>hi _ _ (h4 i ys j y a1 a2)) (λi ys j y a1 a2=>ih i ys j y a1 a2) h6
 |imp b off xs cell h2 h3 h4 _ ih=>exact .imp b off xs cell h2 (λj y a2=>hc _ _ _ (h4 j y a2) (h3 j y a2)) (λj y a2=>hi _ _ (h4 j y a2)) (λj y a2=>ih j y a2)
 |fn f fs cs first captured hl hl' _ _ ih Gr=>exact .fn f fs cs first captured hl hl' (λi c x h1 h2=>ih i c x h1 h2) (λi c x h1 h2=>Gr i c x h1 h2)
 |mp b gm es ks vs h1 h2 h3 h4 h5 _ _ ih Gr=>exact .mp b gm es ks vs h1 h2 (hi _ _ h3) (hm _ _ _ h3 h4) h5 (λi c x a1 a2=>ih i c x a1 a2) (λi c x a1 a2=>Gr i c x a1 a2)
theorem dh.uD {bh tL:Nat->Nat->Prop}{w w':World}{v:Value}{x:AV}(h:dh bh w v x)(hc:∀b o c,bh b o->w.cell? ⟨b,o,none⟩=some c->tL b o/\w'.cell? ⟨b,o,none⟩=some c)(hm:∀(b:Nat)(es:Array MapEntry)(k:Nat),bh b 0->w.heap[b]?=some (.map es k)->tL b 0/\w'.heap[b]?=some (.map es k)):dh tL w' v x:=by
 induction h with
 |bool b=>exact .bool b
 |int k n=>exact .int k n
 |str s=>exact .str s
 |xF=>exact .xF
 |DW=>exact .DW
 |sX=>exact .sX
 |vq=>exact .vq
 |iface t v x _ ih=>exact .iface t v x ih
 |agg cs xs hl ho _ ih=>exact .agg cs xs hl ho λi c x h1 h2=>ih i c x h1 h2
 |eS cs xs hl _ ih=>exact .eS cs xs hl λi c x h1 h2=>ih i c x h1 h2
 |Uj a c=>exact .Uj a c
 |sl b off c bI xs cell h1 h2 h3 h4 _ h6 ih=>exact .sl b off c bI xs cell h1 h2 (λi ys j y a1 a2=>(hc _ _ _ (h4 i ys j y a1 a2) (h3 i ys j y a1 a2)).2) (λi ys j y a1 a2=>(hc _ _ _ (h4 i ys j y a1 a2) (h3 i ys j y a1 a2)).1) (λi ys j y a1 a2=>ih i ys j y a1 a2) h6
 |imp b off xs cell h2 h3 h4 _ ih=>exact .imp b off xs cell h2 (λj y a2=>(hc _ _ _ (h4 j y a2) (h3 j y a2)).2) (λj y a2=>(hc _ _ _ (h4 j y a2) (h3 j y a2)).1) (λj y a2=>ih j y a2)
 |fn f fs cs first captured hl hl' _ _ ih Gr=>exact .fn f fs cs first captured hl hl' (λi c x h1 h2=>ih i c x h1 h2) (λi c x h1 h2=>Gr i c x h1 h2)
 |mp b gm es ks vs h1 h2 h3 h4 h5 _ _ ih Gr=>exact .mp b gm es ks vs h1 h2 (hm _ _ _ h3 h4).1 (hm _ _ _ h3 h4).2 h5 (λi c x a1 a2=>ih i c x a1 a2) (λi c x a1 a2=>Gr i c x a1 a2)
inductive FV where|p (x:AV)|agg (xs:List FV)|eS (xs:List FV)|ptr (o off:Nat)|gi (t:Nat)(T:TypeId)(bI:Nat)(xs:List (List AV))|full (xs:List (List AV))|fn (f:Fn)(first captured:List FV)|lM (l:Nat)|fT (o:Nat)(T:TypeId)(bI:Nat)|sY (o base:Nat)(T:TypeId)(bI:Nat)|gB (o base off:Nat)|fu (o:Nat)|zo (q:Nat)|dy deriving Inhabited
abbrev Nm:=Nat⊕(Nat×Nat)
instance:Coe Nat Nm:=⟨Sum.inl⟩
theorem Yj {i d:Nat}(h:i≠d):(Sum.inl i:Nm)≠Sum.inl d:=λe=>h (vu e)
structure aZ where
 bh:Nat->Nat->Prop
 loc:Nat->Option Nat
 tail:Nm->Option (Nat×Nat×Nat×TypeId)
 yl:Nat->Option Nat
 row:Nat->Option Nat
 mp:Nat->Option Nat
 it:Nat->Option Nat
inductive aO (G:aZ)(w:World):Value->FV->Prop|p (v:Value)(x:AV):dh G.bh w v x->aO G w v (.p x)|agg (cs:List Value)(xs:List FV):cs.length=xs.length->(∀(i:Nat)(c:Value)(x:FV),cs[i]?=some c->xs[i]?=some x->aO G w c x)->aO G w (.agg cs.toArray) (.agg xs)|eS (cs:List Value)(xs:List FV):cs.length=xs.length->(∀(i:Nat)(c:Value)(x:FV),cs[i]?=some c->xs[i]?=some x->aO G w c x)->aO G w (.tuple cs.toArray) (.eS xs)|ptr (o off b:Nat):G.loc o=some b->aO G w (.pointer (some ⟨b,off,none⟩)) (.ptr o off)|gi (t:Nat)(T:TypeId)(bI:Nat)(xs:List (List AV))(a:Option Addr)(c:Nat):dh G.bh w (.slice a xs.length c) (.sl xs)->((xs=[]/\c=0)\/∃b off,a=some ⟨b,off,none⟩/\(∀ys,ys∈xs->ys.length=bI)/\G.tail t=some (b,off+xs.length*bI,off+c*bI,T))->aO G w (.slice a xs.length c) (.gi t T bI xs)|full (xs:List (List AV))(a:Option Addr):dh G.bh w (.slice a xs.length xs.length) (.sl xs)->aO G w (.slice a xs.length xs.length) (.full xs)|fn (f:Fn)(fs cs:List Value)(first captured:List FV):fs.length=first.length->cs.length=captured.length->(∀(i:Nat)(c:Value)(x:FV),fs[i]?=some c->first[i]?=some x->aO G w c x)->(∀(i:Nat)(c:Value)(x:FV),cs[i]?=some c->captured[i]?=some x->aO G w c x)->aO G w (.func f fs.toArray cs.toArray) (.fn f first captured)|lM (l k:Nat):G.yl l=some k->aO G w (.func (.yield k) #[] #[]) (.lM l)|fT (o:Nat)(T:TypeId)(bI n c b:Nat):G.loc o=some b->G.tail o=some (b,n*bI,c*bI,T)->n<=c->0<bI->aO G w (.slice (some ⟨b,0,none⟩) n c) (.fT o T bI)|sY (o base:Nat)(T:TypeId)(bI n c b off:Nat):G.loc o=some b->G.tail o=some (b,n*bI,c*bI,T)->base<=n/\(base<c->off=base*bI)->n<=c->0<bI->aO G w (.slice (some ⟨b,off,none⟩) (n-base) (c-base)) (.sY o base T bI)|gB (o base off b:Nat):G.loc o=some b->aO G w (.pointer (some ⟨b,base+off,none⟩)) (.gB o base off)|fu (o b:Nat):G.mp o=some b->aO G w (.map (some b)) (.fu o)|zo (q r:Nat):G.it q=some r->aO G w (.pointer (some ⟨r,0,none⟩)) (.zo q)|dy (v:Value):aO G w v .dy
theorem aO.keep {G G':aZ}{w w':World}{v:Value}{x:FV}(h:aO G w v x)(hi:∀b o,G.bh b o->G'.bh b o)(hc:∀b o c,G.bh b o->w.cell? ⟨b,o,none⟩=some c->w'.cell? ⟨b,o,none⟩=some c)(hm:vr G.bh w w')(hl:∀o b,G.loc o=some b->G'.loc o=some b)(ht:∀(t:Nat) r,G.tail t=some r->G'.tail t=some r)(hy:∀l k,G.yl l=some k->G'.yl l=some k:=by intro _ _ h;exact h)(hmp:∀o b,G.mp o=some b->G'.mp o=some b:=by intro _ _ h;exact h)(hit:∀o b,G.it o=some b->G'.it o=some b:=by intro _ _ h;exact h):aO G' w' v x:=by
 induction h with
 |p v x h=>exact .p v x (h.keep hi hc hm)
 |agg cs xs hn _ ih=>exact .agg cs xs hn λi c x h1 h2=>ih i c x h1 h2
 |eS cs xs hn _ ih=>exact .eS cs xs hn λi c x h1 h2=>ih i c x h1 h2
 |ptr o off b h=>exact .ptr o off b (hl _ _ h)
 |gi t T bI xs a c h1 h2=>refine .gi t T bI xs a c (h1.keep hi hc hm) ?_;grind
 |full xs a h=>exact .full xs a (h.keep hi hc hm)
 |fn f fs cs first captured hn hn' _ _ ih Gr=>exact .fn f fs cs first captured hn hn' (λi c x h1 h2=>ih i c x h1 h2) (λi c x h1 h2=>Gr i c x h1 h2)
 |lM l k h=>exact .lM l k (hy _ _ h)
 |fT o T bI n c b h1 h2 h3 h4=>exact .fT o T bI n c b (hl _ _ h1) (ht _ _ h2) h3 h4
 |sY o x T bI n c b off h1 h2 h0 h3 h4=>exact .sY o x T bI n c b off (hl _ _ h1) (ht _ _ h2) h0 h3 h4
 |gB o base off b h=>exact .gB o base off b (hl _ _ h)
 |fu o b h=>exact .fu o b (hmp _ _ h)
 |zo q r h=>exact .zo q r (hit _ _ h)
 |dy v=>exact .dy v
theorem aO.uD {G G':aZ}{w w':World}{v:Value}{x:FV}(h:aO G w v x)(hc:∀b o c,G.bh b o->w.cell? ⟨b,o,none⟩=some c->G'.bh b o/\w'.cell? ⟨b,o,none⟩=some c)(hm:∀(b:Nat)(es:Array MapEntry)(k:Nat),G.bh b 0->w.heap[b]?=some (.map es k)->G'.bh b 0/\w'.heap[b]?=some (.map es k))(hl:∀o b,G.loc o=some b->G'.loc o=some b)(ht:∀(t:Nat) r,G.tail t=some r->G'.tail t=some r)(hy:∀l k,G.yl l=some k->G'.yl l=some k:=by intro _ _ h;exact h)(hmp:∀o b,G.mp o=some b->G'.mp o=some b:=by intro _ _ h;exact h)(hit:∀o b,G.it o=some b->G'.it o=some b:=by intro _ _ h;exact h):aO G' w' v x:=by
 induction h with
 |p v x h=>exact .p v x (h.uD hc hm)
 |agg cs xs hn _ ih=>exact .agg cs xs hn λi c x h1 h2=>ih i c x h1 h2
 |eS cs xs hn _ ih=>exact .eS cs xs hn λi c x h1 h2=>ih i c x h1 h2
 |ptr o off b h=>exact .ptr o off b (hl _ _ h)
 |gi t T bI xs a c h1 h2=>refine .gi t T bI xs a c (h1.uD hc hm) ?_;grind
 |full xs a h=>exact .full xs a (h.uD hc hm)
 |fn f fs cs first captured hn hn' _ _ ih Gr=>exact .fn f fs cs first captured hn hn' (λi c x h1 h2=>ih i c x h1 h2) (λi c x h1 h2=>Gr i c x h1 h2)
 |lM l k h=>exact .lM l k (hy _ _ h)
 |fT o T bI n c b h1 h2 h3 h4=>exact .fT o T bI n c b (hl _ _ h1) (ht _ _ h2) h3 h4
 |sY o x T bI n c b off h1 h2 h0 h3 h4=>exact .sY o x T bI n c b off (hl _ _ h1) (ht _ _ h2) h0 h3 h4
 |gB o base off b h=>exact .gB o base off b (hl _ _ h)
 |fu o b h=>exact .fu o b (hmp _ _ h)
 |zo q r h=>exact .zo q r (hit _ _ h)
 |dy v=>exact .dy v
mutual def FV.kill (d:Nat):FV->FV
 |.ptr o off=>match Nat.beq o d with|true=>.dy|false=>.ptr o off
 |.gi t T e xs=>match Nat.beq t d with|true=>.p (.sl xs)|false=>.gi t T e xs
 |.agg xs=>.agg (FV.dJ d xs)
 |.eS xs=>.eS (FV.dJ d xs)
 |.fn f first captured=>.fn f (FV.dJ d first) (FV.dJ d captured)
 |.p x=>.p x
 |.full xs=>.full xs
 |.lM l=>match Nat.beq l d with|true=>.dy|false=>.lM l
 |.fT o T e=>match Nat.beq o d with|true=>.dy|false=>.fT o T e
 |.sY o x T e=>match Nat.beq o d with|true=>.dy|false=>.sY o x T e
 |.gB o b off=>match Nat.beq o d with|true=>.dy|false=>.gB o b off
 |.fu o=>match Nat.beq o d with|true=>.dy|false=>.fu o
 |.zo o=>match Nat.beq o d with|true=>.dy|false=>.zo o
 |.dy=>.dy def FV.dJ (d:Nat):List FV->List FV|[]=>[]|x::xs=>FV.kill d x::FV.dJ d xs end
theorem FV.fE (d:Nat)(xs:List FV):FV.dJ d xs=xs.map (FV.kill d):=by
 induction xs with
 |nil=>rfl
 |cons x xs ih=>simp[FV.dJ,ih]
theorem aO.kill {G G':aZ}{w:World}{v:Value}{x:FV}(d:Nat)(h:aO G w v x)(hi:G'.bh=G.bh)(hl:∀o b,o≠d->G.loc o=some b->G'.loc o=some b)(ht:∀(t:Nat) r,t≠d->G.tail t=some r->G'.tail t=some r)(hy:∀l k,l≠d->G.yl l=some k->G'.yl l=some k:=by intro _ _ _ h;exact h)(hmp:∀o b,o≠d->G.mp o=some b->G'.mp o=some b:=by intro _ _ _ h;exact h)(hit:∀o b,o≠d->G.it o=some b->G'.it o=some b:=by intro _ _ _ h;exact h):aO G' w v (x.kill d):=by
 induction h with
 |p v x h=>exact .p v x (hi▸h)
 |agg cs xs hn _ ih=>simp only[FV.kill,FV.fE];refine .agg cs _ (by simp_all) λi c x h1 h2=>?_;grind
 |eS cs xs hn _ ih=>simp only[FV.kill,FV.fE];refine .eS cs _ (by simp_all) λi c x h1 h2=>?_;grind
 |ptr o off b h=>simp only[FV.kill];split;exact .dy _;rename_i hb;exact .ptr o off b (hl o b (bJ hb) h)
 |gi t T bI xs a c h1 h2=>simp only[FV.kill];split;exact .p _ _ (hi▸h1);rename_i hb;refine .gi t T bI xs a c (hi▸h1) ?_;rcases h2 with h2|⟨b,off,e1,e2,e3⟩;simp_all;exact .inr ⟨b,off,e1,e2,ht _ _ (bJ hb) e3⟩
 |full xs a h=>exact .full xs a (hi▸h)
 |fn f fs cs first captured hn hn' _ _ ih Gr=>simp only[FV.kill,FV.fE];refine .fn f fs cs _ _ (by simp_all) (by simp_all) (λi c x h1 h2=>?_) (λi c x h1 h2=>?_);grind;grind
 |lM l k h=>simp only[FV.kill];split;exact .dy _;rename_i hb;exact .lM l k (hy l k (bJ hb) h)
 |fT o T bI n c b h1 h2 h3 h4=>simp only[FV.kill];split;exact .dy _;rename_i hb;have hne:=bJ hb;exact .fT o T bI n c b (hl o b hne h1) (ht o _ hne h2) h3 h4
 |sY o x T bI n c b off h1 h2 h0 h3 h4=>simp only[FV.kill];split;exact .dy _;rename_i hb;have hne:=bJ hb;exact .sY o x T bI n c b off (hl o b hne h1) (ht o _ hne h2) h0 h3 h4
 |gB o base off b h=>simp only[FV.kill];split;exact .dy _;rename_i hb;exact .gB o base off b (hl o b (bJ hb) h)
 |fu o b h=>simp only[FV.kill];split;exact .dy _;rename_i hb;exact .fu o b (hmp o b (bJ hb) h)
 |zo o b h=>simp only[FV.kill];split;exact .dy _;rename_i hb;exact .zo o b (hit o b (bJ hb) h)
 |dy v=>exact .dy v
mutual def FV.eW:FV->Option AV
 |.p x=>some x
 |.gi _ _ _ xs=>some (.sl xs)
 |.full xs=>some (.sl xs)
 |.agg xs=>match FV.fQ xs with
  |some ys=>match ys.all AV.one with|true=>some (.agg ys)|false=>none
  |none=>none
 |.eS xs=>match FV.fQ xs with|some ys=>some (.eS ys)|none=>none
 |.fn f first captured=>match FV.fQ first with
  |some a=>match FV.fQ captured with|some b=>some (.fn f a b)|none=>none
  |none=>none
 |.ptr _ _=>none
 |.lM _=>none
 |.fT _ _ _=>none
 |.sY _ _ _ _=>none
 |.gB _ _ _=>none
 |.fu _=>none
 |.zo _=>none
 |.dy=>none def FV.fQ:List FV->Option (List AV)
 |[]=>some []
 |x::xs=>match FV.eW x with
  |some y=>match FV.fQ xs with|some ys=>some (y::ys)|none=>none
  |none=>none end
theorem FV.iV {xs:List FV}{ys:List AV}(h:FV.fQ xs=some ys):ys.length=xs.length/\∀(i:Nat)(y:AV),ys[i]?=some y->∃x,xs[i]?=some x/\x.eW=some y:=by
 induction xs generalizing ys with
 |nil=>simp[FV.fQ]at h;simp_all
 |cons x xs ih=>simp only[FV.fQ]at h;grind
theorem aO.eW {G:aZ}{w:World}{v:Value}{x:FV}(h:aO G w v x):∀{y:AV},x.eW=some y->dh G.bh w v y:=by
 induction h with
 |p v x h=>intro y hy;simp only[FV.eW,bF]at hy;simp_all
 |agg cs xs hn _ ih=>intro y hy;simp only[FV.eW]at hy;split at hy;rename_i ys hys;split at hy;rename_i hall;obtain rfl:=ak hy;obtain⟨h1,h2⟩:=FV.iV hys;refine .agg cs ys oO (λx hx=>br.1 hall x hx) λi c x hc hx=>?_;grind;simp_all;simp_all
 |eS cs xs hn _ ih=>intro y hy;simp only[FV.eW]at hy;split at hy;rename_i ys hys;obtain rfl:=ak hy;obtain⟨h1,h2⟩:=FV.iV hys;refine .eS cs ys oO λi c x hc hx=>?_;grind;simp_all
 |ptr o off b h=>intro y hy;simp[FV.eW]at hy
 |gi t T bI xs a c h1 h2=>intro y hy;simp only[FV.eW,bF]at hy;simp_all
 |full xs a h=>intro y hy;simp only[FV.eW,bF]at hy;simp_all
 |fn f fs cs first captured hn hn' _ _ ih Gr=>intro y hy;simp only[FV.eW]at hy;split at hy;rename_i ys hys;split at hy;rename_i zs hzs;obtain rfl:=ak hy;obtain⟨h1,h2⟩:=FV.iV hys;obtain⟨h3,h4⟩:=FV.iV hzs;refine .fn f fs cs ys zs oO oO (λi c x hc hx=>?_) (λi c x hc hx=>?_);grind;grind;simp_all;simp_all
 |lM l k h=>intro y hy;simp[FV.eW]at hy
 |fT o T bI n c b h1 h2 h3 h4=>intro y hy;simp[FV.eW]at hy
 |sY o x T bI n c b off h1 h2 h0 h3 h4=>intro y hy;simp[FV.eW]at hy
 |gB o base off b h=>intro y hy;simp[FV.eW]at hy
 |fu o b h=>intro y hy;simp[FV.eW]at hy
 |zo o b h=>intro y hy;simp[FV.eW]at hy
 |dy v=>intro y hy;simp[FV.eW]at hy
mutual def FV.fz (d:Nat)(ys:List AV):FV->FV
 |.ptr o off=>match Nat.beq o d with|true=>.p (.imp (ys.drop off))|false=>.ptr o off
 |.gi t T e xs=>.gi t T e xs
 |.agg xs=>.agg (FV.Rx d ys xs)
 |.eS xs=>.eS (FV.Rx d ys xs)
 |.fn f first captured=>.fn f (FV.Rx d ys first) (FV.Rx d ys captured)
 |.p x=>.p x
 |.full xs=>.full xs
 |.lM l=>.lM l
 |.fT o T e=>match Nat.beq o d with|true=>.dy|false=>.fT o T e
 |.sY o x T e=>match Nat.beq o d with|true=>.dy|false=>.sY o x T e
 |.gB o b off=>match Nat.beq o d with|true=>.dy|false=>.gB o b off
 |.fu o=>.fu o
 |.zo o=>.zo o
 |.dy=>.dy def FV.Rx (d:Nat)(ys:List AV):List FV->List FV|[]=>[]|x::xs=>FV.fz d ys x::FV.Rx d ys xs end
theorem FV.uq (d:Nat)(ys:List AV)(xs:List FV):FV.Rx d ys xs=xs.map (FV.fz d ys):=by
 induction xs with
 |nil=>rfl
 |cons x xs ih=>simp[FV.Rx,ih]
theorem Me {R:Value->FV->Prop}{d:Nat}{ys:List AV}{cs:List Value}{xs:List FV}(ih:∀(i:Nat)(c:Value)(x:FV),cs[i]?=some c->xs[i]?=some x->R c (x.fz d ys)):∀(i:Nat)(c:Value)(x:FV),cs[i]?=some c->(FV.Rx d ys xs)[i]?=some x->R c x:=λi c x h1 h2=>by rw[FV.uq,aJ]at h2;grind
theorem aO.fz {G G':aZ}{w:World}{v:Value}{x:FV}{d B:Nat}{ys:List AV}(h:aO G w v x)(hi:∀b o,G.bh b o->G'.bh b o)(hB:∀b,G.loc d=some b->b=B)(hc:∀(j:Nat)(y:AV),ys[j]?=some y->y.one=true/\G'.bh B j/\∃c,w.cell? ⟨B,j,none⟩=some c/\dh G'.bh w c y)(hl:∀o b,o≠d->G.loc o=some b->G'.loc o=some b)(ht:∀(t:Nat) r,G.tail t=some r->G'.tail t=some r)(hy:∀l k,G.yl l=some k->G'.yl l=some k:=by intro _ _ h;exact h)(hmp:∀o b,G.mp o=some b->G'.mp o=some b:=by intro _ _ h;exact h)(hit:∀o b,G.it o=some b->G'.it o=some b:=by intro _ _ h;exact h):aO G' w v (x.fz d ys):=by
 induction h with
 |p v x h=>exact .p v x (h.keep hi (λ_ _ _ _ h=>h) (.refl _ _))
 |agg cs xs hn _ ih=>exact .agg cs _ (by simpa[FV.uq]using hn) (Me ih)
 |eS cs xs hn _ ih=>exact .eS cs _ (by simpa[FV.uq]using hn) (Me ih)
 |ptr o off b h=>
  simp only[FV.fz];split
  ·rename_i hb;obtain rfl:=aK hb;obtain rfl:=hB b h;refine .p _ _ (.imp b off _ (λj=>(w.cell? ⟨b,off+j,none⟩).getD undef) ?_ ?_ ?_ ?_);all_goals intro j y hj;rw[jV]at hj;obtain⟨h1,h2,c,h3,h4⟩:=hc _ _ hj
   exact h1;grind;exact h2;grind
  rename_i hb;exact .ptr o off b (hl o b (bJ hb) h)
 |gi t T bI xs a c h1 h2=>refine .gi t T bI xs a c (h1.keep hi (λ_ _ _ _ h=>h) (.refl _ _)) ?_;grind
 |full xs a h=>exact .full xs a (h.keep hi (λ_ _ _ _ h=>h) (.refl _ _))
 |fn f fs cs first captured hn hn' _ _ ih Gr=>exact .fn f fs cs _ _ (by simpa[FV.uq]using hn) (by simpa[FV.uq]using hn') (Me ih) (Me Gr)
 |lM l k h=>exact .lM l k (hy _ _ h)
 |fT o T bI n c b h1 h2 h3 h4=>simp only[FV.fz];split;exact .dy _;rename_i hb;have hne:=bJ hb;exact .fT o T bI n c b (hl o b hne h1) (ht o _ h2) h3 h4
 |sY o x T bI n c b off h1 h2 h0 h3 h4=>simp only[FV.fz];split;exact .dy _;rename_i hb;have hne:=bJ hb;exact .sY o x T bI n c b off (hl o b hne h1) (ht o _ h2) h0 h3 h4
 |gB o base off b h=>simp only[FV.fz];split;exact .dy _;rename_i hb;exact .gB o base off b (hl o b (bJ hb) h)
 |fu o b h=>exact .fu o b (hmp _ _ h)
 |zo o b h=>exact .zo o b (hit _ _ h)
 |dy v=>exact .dy v
mutual def FV.fm (d:Nat)(x:AV):FV->FV
 |.fu o=>match Nat.beq o d with|true=>.p x|false=>.fu o
 |.ptr o off=>.ptr o off
 |.gi t T e xs=>.gi t T e xs
 |.agg xs=>.agg (FV.Yb d x xs)
 |.eS xs=>.eS (FV.Yb d x xs)
 |.fn f first captured=>.fn f (FV.Yb d x first) (FV.Yb d x captured)
 |.p y=>.p y
 |.full xs=>.full xs
 |.lM l=>.lM l
 |.fT o T e=>.fT o T e
 |.sY o x T e=>.sY o x T e
 |.gB o b off=>.gB o b off
 |.zo o=>.zo o
 |.dy=>.dy def FV.Yb (d:Nat)(x:AV):List FV->List FV|[]=>[]|y::ys=>FV.fm d x y::FV.Yb d x ys end
theorem FV.vw (d:Nat)(y:AV)(xs:List FV):FV.Yb d y xs=xs.map (FV.fm d y):=by
 induction xs with
 |nil=>rfl
 |cons x xs ih=>simp[FV.Yb,ih]
theorem Mf {R:Value->FV->Prop}{d:Nat}{z:AV}{cs:List Value}{xs:List FV}(ih:∀(i:Nat)(c:Value)(x:FV),cs[i]?=some c->xs[i]?=some x->R c (x.fm d z)):∀(i:Nat)(c:Value)(x:FV),cs[i]?=some c->(FV.Yb d z xs)[i]?=some x->R c x:=λi c x h1 h2=>by rw[FV.vw,aJ]at h2;grind
theorem aO.fm {G G':aZ}{w:World}{v:Value}{x:FV}{d:Nat}{z:AV}(h:aO G w v x)(hi:∀b o,G.bh b o->G'.bh b o)(hz:∀b,G.mp d=some b->dh G'.bh w (.map (some b)) z)(hl:∀o b,G.loc o=some b->G'.loc o=some b)(ht:∀(t:Nat) r,G.tail t=some r->G'.tail t=some r)(hy:∀l k,G.yl l=some k->G'.yl l=some k)(hmp:∀o b,o≠d->G.mp o=some b->G'.mp o=some b)(hit:∀o b,G.it o=some b->G'.it o=some b):aO G' w v (x.fm d z):=by
 induction h with
 |p v x h=>exact .p v x (h.keep hi (λ_ _ _ _ h=>h) (.refl _ _))
 |agg cs xs hn _ ih=>exact .agg cs _ (by simpa[FV.vw]using hn) (Mf ih)
 |eS cs xs hn _ ih=>exact .eS cs _ (by simpa[FV.vw]using hn) (Mf ih)
 |ptr o off b h=>exact .ptr o off b (hl _ _ h)
 |gi t T bI xs a c h1 h2=>refine .gi t T bI xs a c (h1.keep hi (λ_ _ _ _ h=>h) (.refl _ _)) ?_;grind
 |full xs a h=>exact .full xs a (h.keep hi (λ_ _ _ _ h=>h) (.refl _ _))
 |fn f fs cs first captured hn hn' _ _ ih Gr=>exact .fn f fs cs _ _ (by simpa[FV.vw]using hn) (by simpa[FV.vw]using hn') (Mf ih) (Mf Gr)
 |lM l k h=>exact .lM l k (hy _ _ h)
 |fT o T bI n c b h1 h2 h3 h4=>exact .fT o T bI n c b (hl _ _ h1) (ht _ _ h2) h3 h4
 |sY o x T bI n c b off h1 h2 h0 h3 h4=>exact .sY o x T bI n c b off (hl _ _ h1) (ht _ _ h2) h0 h3 h4
 |gB o base off b h=>exact .gB o base off b (hl _ _ h)
 |fu o b h=>simp only[FV.fm];split;rename_i hb;obtain rfl:=aK hb;exact .p _ _ (hz b h);rename_i hb;exact .fu o b (hmp o b (bJ hb) h)
 |zo o b h=>exact .zo o b (hit _ _ h)
 |dy v=>exact .dy v
def Kz:Nat->Option (List AV):=λ_=>none
def oR (bh:Nat->Nat->Prop)(w:World):Prop:=∀(g:Nat)(xs:List AV),Kz g=some xs->dh bh w (.pointer (some ⟨g,0,none⟩)) (.imp xs)
end Qv
namespace Qv
universe u
open Go
inductive Shape where|int (k:IntKind)|bool|str|slice (e:TypeId)|struct (fs:List (Nat×TypeId))|array (n:Nat)(e:TypeId)|map (k e:TypeId)|ptr (e:TypeId)|iface|func|other deriving Inhabited
def Shape.isAgg:Shape->Bool|.struct _=>true|.array _ _=>true|_=>false
structure jE where
 size:Nat
 bytes:Nat
 shape:Shape
 zero:List Value deriving Inhabited
def shapeOf:TypeDesc->Shape|.bool=>.bool|.int k=>.int k|.string=>.str|.pointer e=>.ptr e|.slice e=>.slice e|.array n e=>.array n e|.map k e=>.map k e|.struct fs=>.struct (fs.toList.map λf=>(f.offset,f.type))|.func _ _ _=>.func|.interface _=>.iface|_=>.other
structure fO (P:Program)(t:TypeId)(i:jE):Prop where
 info:(P.info? t).map (λinf=>(inf.size,inf.bytes,inf.zero.map λv=>v.cells.toList))=some (i.size,i.bytes,some i.zero)
 und:(P.underlying t).map shapeOf=some i.shape
 len:i.zero.length=i.size
structure Extra where
 opens:List Nat
 Mg:List Nat
 full:Bool
 inl:List FuncId:=[]
 frm:List Nat:=[]
 fzo:List Nat:=[]
 Mh:List (Nat×(TypeId×Nat×Option AV)):=[]
 rmr:List Nat:=[]
 rel:List FuncId:=[]
structure Ctx where
 P:Program
 jh:List (TypeId×jE)
 ael:∀t i,(t,i)∈jh->fO P t i
 J:World->Prop
 mD:Nat
 mixed:P.follows .mixedOrders=true
 bT:TypeId
 bE:TypeId
 ae8:∀w w':World,(∀k,k<mD->w'.heap[k]?=w.heap[k]?)->J w->J w'
 ag6:List Nat
 ex:Extra
def Ctx.cut (C:Ctx)(l:List Nat):Ctx:={C with ag6:=l}
def Ctx.open (C:Ctx)(e:Extra):Ctx:={C with ex:=e}
def bK:List (TypeId×jE)->TypeId->Option jE|[],_=>none|(u,i)::r,t=>match Nat.beq u t with|true=>some i|false=>bK r t
inductive fN where|val (x:AV)|fresh (T:TypeId)(bI:Nat)(xs:List (List AV))|vf (x:FV)|own (rest:Option (List AV))(T:TypeId)(bI:Nat)(xss:List (List AV))
def ae9 (rest:Option (List AV))(s:Value)(us:List Value):Value:=match rest with|none=>s|some _=>.tuple (s::us).toArray
def Yk (bh:Nat->Nat->Prop)(B b:Nat):Nat->Nat->Prop:=λb' o=>bh b' o\/(B<=b'/\b'≠b)
def bare (bh:Nat->Nat->Prop):aZ:=⟨bh,λ_=>none,λ_=>none,λ_=>none,λ_=>none,λ_=>none,λ_=>none⟩
def lq (bh:Nat->Nat->Prop)(B:Nat):Nat->Nat->Prop:=λb o=>bh b o\/B<=b
def nH (bh:Nat->Nat->Prop)(B:Nat)(w':World)(v:Value):fN->Prop|.val x=>dh (lq bh B) w' v x|.fresh T bI xs=>∃a c,v=.slice a xs.length c/\((xs=[]/\c=0/\dh (lq bh B) w' v (.sl xs))\/∃b off cs fr,a=some ⟨b,off,none⟩/\B<=b/\b<w'.heap.size/\(∀ys,ys∈xs->ys.length=bI)/\w'.heap[b]?=some (.cells cs T fr)/\(∀i,off+xs.length*bI<=i->i<off+c*bI->(∃u,w'.cell? ⟨b,i,none⟩=some u)/\w'.frozen? ⟨b,i,none⟩=false)/\dh (λb' o=>bh b' o\/(B<=b'/\¬(b'=b/\off+xs.length*bI<=o/\o<off+c*bI))) w' v (.sl xs))|.vf x=>aO (bare (lq bh B)) w' v x|.own rest T bI xss=>∃(b c:Nat) (cs:Array Value) (fr:Nat×Nat) (us:List Value),v=ae9 rest (.slice (some ⟨b,0,none⟩) xss.length c) us/\B<=b/\b<w'.heap.size/\0<bI/\xss.length<=c/\(∀ys,ys∈xss->ys.length=bI/\∀y,y∈ys->y.one=true)/\w'.heap[b]?=some (.cells cs T fr)/\(∀i,w'.frozen? ⟨b,i,none⟩=false)/\(∀i,i<c*bI->∃u,w'.cell? ⟨b,i,none⟩=some u)/\(∀(i:Nat)(x:AV),xss.flatten[i]?=some x->∃u,w'.cell? ⟨b,i,none⟩=some u/\dh (Yk bh B b) w' u x)/\∀r,rest=some r->us.length=r.length/\∀(i:Nat)(u:Value)(x:AV),us[i]?=some u->r[i]?=some x->dh (Yk bh B b) w' u x
def au (C:Ctx)(f:FuncId)(args:List AV)(R:fN->Prop):Prop:=(∃fn,C.P.funcs[f]?=some fn/\fn.body.isNone=false/\(fn.name== "runtime.NumGoroutine")=false)/\∀(bh:Nat->Nat->Prop)(w:World)(vs:List Value),C.J w/\oR bh w->C.mD<=w.heap.size->(∀b o,bh b o->b<w.heap.size)->vs.length=args.length->(∀(i:Nat)(v:Value)(x:AV),vs[i]?=some v->args[i]?=some x->dh bh w v x)->Calls C.P f vs.toArray w λe w'=>∃v r,e=.returned v/\R r/\nH bh w.heap.size w' v r/\RowKit.Below w.heap.size w w'
def GY (C:Ctx)(f:FuncId)(cells args:List AV)(R:AV->List AV->Prop):Prop:=(∃fn,C.P.funcs[f]?=some fn/\fn.body.isNone=false/\(fn.name== "runtime.NumGoroutine")=false)/\∀(bh:Nat->Nat->Prop)(w:World)(b:Nat)(vs:List Value),C.J w/\oR bh w->C.mD<=w.heap.size->(∀b o,bh b o->b<w.heap.size)->C.mD<=b->b<w.heap.size->(∀i,¬bh b i/\w.frozen? ⟨b,i,none⟩=false)->(∀(i:Nat)(x:AV),cells[i]?=some x->∃c,w.cell? ⟨b,i,none⟩=some c/\dh bh w c x)->vs.length=args.length->(∀(i:Nat)(v:Value)(x:AV),vs[i]?=some v->args[i]?=some x->dh bh w v x)->Calls C.P f (.pointer (some ⟨b,0,none⟩)::vs).toArray w λe w'=>∃v r cells',e=.returned v/\R r cells'/\cells'.length=cells.length/\dh (lq bh w.heap.size) w' v r/\(∀(i:Nat)(x:AV),cells'[i]?=some x->∃c,w'.cell? ⟨b,i,none⟩=some c/\dh (lq bh w.heap.size) w' c x)/\w'.os=w.os/\w'.tape=w.tape/\w'.output=w.output/\w.heap.size<=w'.heap.size/\(∀k,k<w.heap.size->k≠b->w'.heap[k]?=w.heap[k]?)/\(∀cs T fr,w.heap[b]?=some (.cells cs T fr)->∃cs',w'.heap[b]?=some (.cells cs' T fr)/\cs'.size=cs.size)
def VI (C:Ctx)(f:FuncId)(T:TypeId)(bI:Nat)(cells args:List AV)(R:Bool->List AV->Prop):Prop:=(∃fn,C.P.funcs[f]?=some fn/\fn.body.isNone=false/\(fn.name== "runtime.NumGoroutine")=false)/\∀(bh:Nat->Nat->Prop)(w:World)(b n c:Nat)(vs:List Value),C.J w/\oR bh w->C.mD<=w.heap.size->(∀b o,bh b o->b<w.heap.size)->C.mD<=b->b<w.heap.size->(∀i,¬bh b i/\w.frozen? ⟨b,i,none⟩=false)->(∃cs fr,w.heap[b]?=some (.cells cs T fr))->cells.length=n*bI->n<=c->0<bI->(∀(i:Nat)(x:AV),cells[i]?=some x->∃c,w.cell? ⟨b,i,none⟩=some c/\dh bh w c x)->vs.length=args.length->(∀(i:Nat)(v:Value)(x:AV),vs[i]?=some v->args[i]?=some x->dh bh w v x)->Calls C.P f (.slice (some ⟨b,0,none⟩) n c::vs).toArray w λe w'=>∃(v:Value) (r:Bool) (ys full:List AV),e=.returned v/\R r ys/\full.length=cells.length/\(match r with|false=>v=.tuple #[]/\ys=full|true=>∃m:Nat,v=.slice (some ⟨b,0,none⟩) m c/\m<=n/\ys=full.take (m*bI))/\(∀(i:Nat)(x:AV),full[i]?=some x->∃c,w'.cell? ⟨b,i,none⟩=some c/\dh (lq bh w.heap.size) w' c x)/\w'.os=w.os/\w'.tape=w.tape/\w'.output=w.output/\w.heap.size<=w'.heap.size/\(∀k,k<w.heap.size->k≠b->w'.heap[k]?=w.heap[k]?)/\(∀cs T fr,w.heap[b]?=some (.cells cs T fr)->∃cs',w'.heap[b]?=some (.cells cs' T fr)/\cs'.size=cs.size)
structure Fr where
 n:Nat
 off:Nat
 tmps:Nat->FV
inductive zq where|ready|busy|Mi|GZ (id:Nat)
def xG (C:Ctx)(w:World)(b:Nat)(row:Option Nat)(bs:List UInt8):Prop:=∃(p:Option Addr) (v:Value),(p=none\/p=some ⟨b,0,none⟩)/\w.heap[b]?=some (.cells #[.pointer p,v] C.bT (0,0))/\match row with|none=>v=.slice none 0 0/\bs=[]|some r=>b≠r/\∃(cap:Nat) (cur:Array Value),v=.slice (some ⟨r,0,none⟩) bs.length cap/\w.heap[r]?=some (.cells cur C.bE (0,0))/\bs.length<=cap/\cap<=9223372036854775807/\cur.size=cap/\cur.toList.take bs.length=bs.map λc=>Value.int .u8 (c.toNat:Int)
def uE (C:Ctx)(f:FuncId)(args:List AV)(bs:List UInt8)(out:Option (List UInt8))(r:AV):Prop:=(∃fn,C.P.funcs[f]?=some fn/\fn.body.isNone=false/\(fn.name== "runtime.NumGoroutine")=false)/\∀(bh:Nat->Nat->Prop)(w:World)(b:Nat)(row:Option Nat)(vs:List Value),C.J w/\oR bh w->C.mD<=w.heap.size->(∀b o,bh b o->b<w.heap.size)->C.mD<=b->(∀r,row=some r->C.mD<=r)->(∀i,¬bh b i)->(∀r i,row=some r->¬bh r i)->xG C w b row bs->vs.length=args.length->(∀(i:Nat)(v:Value)(x:AV),vs[i]?=some v->args[i]?=some x->dh bh w v x)->Calls C.P f (.pointer (some ⟨b,0,none⟩)::vs).toArray w λe w'=>∃v,e=.returned v/\dh (λ_ _=>False) w' v r/\(match out with|some bs'=>∃row',xG C w' b row' bs'/\(row'=row\/row'=none\/∃x,row'=some x/\w.heap.size<=x)|none=>∃p v,w'.heap[b]?=some (.cells #[p,v] C.bT (0,0)))/\w'.os=w.os/\w'.tape=w.tape/\w'.output=w.output/\w.heap.size<=w'.heap.size/\∀k,k<w.heap.size->k≠b->row≠some k->w'.heap[k]?=w.heap[k]?
structure ag where
 n:Nat
 off:Nat
 tmps:Nat->FV
 aD:List (Nat×List FV)
 bD:List Fr
 cm:List zq
 cz:List (Nat×List UInt8)
 maps:List (Nat×List (AV×FV)):=[]
 jg:List (Nat×(Option (AV×AV)×List (AV×AV))):=[]
def ag.Fa (S:ag)(m:List (Nat×List (AV×FV))):ag:={S with maps:=m}
def ltB (i n:Nat):Bool:=match n with|0=>false|m+1=>Nat.ble i m
@[simp] theorem ab3 (i n:Nat):(ltB i n=true)=(i<n):=by
 cases n with
 |zero=>simp[ltB]
 |succ m=>simp[ltB,Nat.lt_succ_iff]
def ag.get (S:ag)(i:Nat):FV:=match ltB i S.n with|true=>S.tmps i|false=>.dy
def ag.put (S:ag)(dst:Option Nat)(v:FV):ag:=match dst with|none=>S|some d=>{S with tmps:=λi=>match Nat.beq i d with|true=>v|false=>S.tmps i}
def getObj:List (Nat×List FV)->Nat->Option (List FV)|[],_=>none|(u,i)::r,t=>match Nat.beq u t with|true=>some i|false=>getObj r t
def iy (d:Nat):Bool:=Nat.ble 990000 d
def Ad (l:List (Nat×List FV))(d:Nat):Option (List FV):=match iy d with|true=>none|false=>getObj l d
def setObj:List (Nat×List FV)->Nat->List FV->List (Nat×List FV)|[],_,_=>[]|(u,i)::r,t,c=>match Nat.beq u t with|true=>(u,c)::r|false=>(u,i)::setObj r t c
def dW (d:Nat):List (Nat×List FV)->List (Nat×List FV)|[]=>[]|(u,i)::r=>match Nat.beq u d with|true=>dW d r|false=>(u,FV.dJ d i)::dW d r
def lI:List (Nat×List UInt8)->Nat->Option (List UInt8)|[],_=>none|(u,i)::r,t=>match Nat.beq u t with|true=>some i|false=>lI r t
def Yl:List (Nat×List UInt8)->Nat->List UInt8->List (Nat×List UInt8)|[],_,_=>[]|(u,i)::r,t,c=>match Nat.beq u t with|true=>(u,c)::r|false=>(u,i)::Yl r t c
def BM (d:Nat):List (Nat×List UInt8)->List (Nat×List UInt8)|[]=>[]|(u,i)::r=>match Nat.beq u d with|true=>BM d r|false=>(u,i)::BM d r
def uF (f:FV->FV):List (AV×FV)->List (AV×FV)|[]=>[]|(k,x)::r=>(k,f x)::uF f r
theorem vz (f:FV->FV)(l:List (AV×FV)):uF f l=l.map λp=>(p.1,f p.2):=by
 induction l with
 |nil=>rfl
 |cons p l ih=>obtain⟨k,x⟩:=p;simp[uF,ih]
def Am (f:FV->FV):List (Nat×List (AV×FV))->List (Nat×List (AV×FV))|[]=>[]|(u,l)::r=>(u,uF f l)::Am f r
def getM {α:Type}:List (Nat×α)->Nat->Option α|[],_=>none|(u,i)::r,t=>match Nat.beq u t with|true=>some i|false=>getM r t
def sZ {α:Type}:List (Nat×α)->Nat->α->List (Nat×α)|[],_,_=>[]|(u,i)::r,t,c=>match Nat.beq u t with|true=>(u,c)::r|false=>(u,i)::sZ r t c
def Ae {α:Type}(d:Nat):List (Nat×α)->List (Nat×α)|[]=>[]|(u,i)::r=>match Nat.beq u d with|true=>Ae d r|false=>(u,i)::Ae d r
def Fr.map (f:FV->FV)(r:Fr):Fr:={r with tmps:=λi=>f (r.tmps i)}
def xH (f:FV->FV):List Fr->List Fr|[]=>[]|r::rs=>r.map f::xH f rs
theorem He (f:FV->FV)(rs:List Fr):xH f rs=rs.map (Fr.map f):=by
 induction rs with
 |nil=>rfl
 |cons r rs ih=>simp[xH,ih]
def ag.kill (S:ag)(d:Nat):ag:={S with tmps:=λi=>(S.tmps i).kill d,aD:=dW d S.aD,bD:=xH (FV.kill d) S.bD,cz:=BM d S.cz,maps:=Am (FV.kill d) (Ae d S.maps),jg:=Ae d S.jg}
def FV.one:FV->Bool|.agg _=>false|.eS _=>false|.p x=>x.one|.dy=>false|_=>true
def jQ:List FV->Bool|[]=>true|x::xs=>match x.one with|true=>jQ xs|false=>false
def aI:List AV->List FV|[]=>[]|x::xs=>.p x::aI xs
def FV.cells:FV->List FV|.agg xs=>xs|.p (.agg xs)=>aI xs|x=>[x]
def takeN:Nat->List FV->Option (List FV)|0,_=>some []|_+1,[]=>none|n+1,x::xs=>match takeN n xs with|some ys=>some (x::ys)|none=>none
def Fb:Nat->List AV->Option (List AV)|0,_=>some []|_+1,[]=>none|n+1,x::xs=>match Fb n xs with|some ys=>some (x::ys)|none=>none
def gb {α:Type}:Nat->List α->List α|0,xs=>xs|_+1,[]=>[]|n+1,_::xs=>gb n xs
def JC {α:Type}:List α->Nat->α->Option (List α)|[],_,_=>none|_::xs,0,y=>some (y::xs)|x::xs,n+1,y=>match JC xs n y with|some zs=>some (x::zs)|none=>none
def gE {α:Type}:List α->Nat->List α->Option (List α)|xs,_,[]=>some xs|xs,n,y::ys=>match JC xs n y with|some zs=>gE zs (n+1) ys|none=>none
def FV.gT:Value->FV|.bool b=>.p (.bool b)|.int k n=>.p (.int k n)|.string s=>.p (.str s.data.toList)|.pointer none=>.p .xF|.nilFunc=>.p .DW|.nilIface=>.p .sX|.map none=>.p .vq|.slice none 0 0=>.full []|_=>.dy
def FV.Oe:Value->FV|.agg cs=>.agg (cs.toList.map FV.gT)|.tuple ⟨[]⟩=>.p (.eS [])|v=>FV.gT v
def ag.val (S:ag):Operand->FV|.tmp t=>S.get t|.const v=>FV.Oe v|.func f=>.p (.fn (.func f) [] [])|.global g=>match Kz g with|some xs=>.p (.imp xs)|none=>.dy
structure Al {α:Sort u}(p:α->Prop):Prop where
 out:∀x,p x
def force (v:FV)(K:FV->Prop):Prop:=match v with|.p x=>K (.p x)|.agg xs=>K (.agg xs)|.eS xs=>K (.eS xs)|.ptr o off=>K (.ptr o off)|.gi t T e xs=>K (.gi t T e xs)|.full xs=>K (.full xs)|.fn f a b=>K (.fn f a b)|.lM l=>K (.lM l)|.fT o T e=>K (.fT o T e)|.sY o x T e=>K (.sY o x T e)|.gB o b off=>K (.gB o b off)|.fu o=>K (.fu o)|.zo o=>K (.zo o)|.dy=>K .dy
theorem force_eq (v:FV)(K:FV->Prop):force v K=K v:=by cases v<;>rfl
def oT:List FV->(List FV->Prop)->Prop|[],K=>K []|x::xs,K=>force x λy=>oT xs λys=>K (y::ys)
theorem jS (xs:List FV)(K:List FV->Prop):oT xs K=K xs:=by
 induction xs generalizing K with
 |nil=>rfl
 |cons x xs ih=>simp only[oT,force_eq,ih]
def FV.elems:FV->Option (List (List AV))|.p (.sl xs)=>some xs|.gi _ _ _ xs=>some xs|.full xs=>some xs|_=>none
def Gs (a b:List UInt8):Bool:=Op.bytesLess a b
def xC (op:BinOp)(k:IntKind)(x y:Int):Int:=k.wrap (match op with|.and=>BitVec.ofInt k.bits x&&&BitVec.ofInt k.bits y|.or=>BitVec.ofInt k.bits x|||BitVec.ofInt k.bits y|.xor=>BitVec.ofInt k.bits x^^^BitVec.ofInt k.bits y|_=>BitVec.ofInt k.bits x&&&~~~BitVec.ofInt k.bits y).toNat
def ab4:BinOp->Bool|.shl=>true|.shr=>true|_=>false
def BN (op:BinOp)(k:IntKind)(a b:Int)(K:FV->Prop):Prop:=match op with|.shl=>0<=b/\∃c,k.wrap (a*2^(min b.toNat k.bits))=c/\K (.p (.int k c))|.shr=>0<=b/\∃c,a.fdiv (2^(min b.toNat k.bits))=c/\K (.p (.int k c))|_=>False
def Of (op:BinOp)(k:IntKind)(a b:Int)(K:FV->Prop):Prop:=match op with|.add=>∃c,k.wrap (a+b)=c/\K (.p (.int k c))|.sub=>∃c,k.wrap (a-b)=c/\K (.p (.int k c))|.mul=>∃c,k.wrap (a*b)=c/\K (.p (.int k c))|.quo=>b≠0/\∃c,k.wrap (a.tdiv b)=c/\K (.p (.int k c))|.rem=>b≠0/\∃c,a.tmod b=c/\K (.p (.int k c))|.and=>∃c,xC .and k a b=c/\K (.p (.int k c))|.or=>∃c,xC .or k a b=c/\K (.p (.int k c))|.xor=>∃c,xC .xor k a b=c/\K (.p (.int k c))|.andNot=>∃c,xC .andNot k a b=c/\K (.p (.int k c))|.eql=>Al λt:Bool=>t=(a==b)->K (.p (.bool t))|.neq=>Al λt:Bool=>t=(a !=b)->K (.p (.bool t))|.lss=>Al λt:Bool=>t=decide (a<b)->K (.p (.bool t))|.leq=>Al λt:Bool=>t=decide (a<=b)->K (.p (.bool t))|.gtr=>Al λt:Bool=>t=decide (a>b)->K (.p (.bool t))|.geq=>Al λt:Bool=>t=decide (a≥b)->K (.p (.bool t))|_=>False
def Og (op:BinOp)(a b:List UInt8)(K:FV->Prop):Prop:=match op with|.add=>a.length+b.length<2^62/\K (.p (.str (a++b)))|.eql=>Al λt:Bool=>t=(a==b)->K (.p (.bool t))|.neq=>Al λt:Bool=>t=!(a==b)->K (.p (.bool t))|.lss=>Al λt:Bool=>t=Gs a b->K (.p (.bool t))|.leq=>Al λt:Bool=>t=(Gs a b||a==b)->K (.p (.bool t))|.gtr=>Al λt:Bool=>t=!(Gs a b||a==b)->K (.p (.bool t))|.geq=>Al λt:Bool=>t=!Gs a b->K (.p (.bool t))|_=>False
def VJ:IntKind->Nat|.i8=>0|.i16=>1|.i32=>2|.i64=>3|.u8=>4|.u16=>5|.u32=>6|.u64=>7
def xI (k k':IntKind):Bool:=Nat.beq (VJ k) (VJ k')
theorem qR {k k':IntKind}(h:xI k k'=true):k=k':=by have :=aK h;cases k<;>cases k'<;>first|rfl|(simp[VJ]at this)
inductive gC where|bool|int (k:IntKind)|str deriving Inhabited
def ab5 (P:Program)(t:TypeId):Option (List gC)->Option (List gC)|none=>none|some l=>match Nat.beq (P.cellsOf t) l.length with|true=>some l|false=>none
mutual def dZ (P:Program):Nat->TypeId->Option (List gC)
 |0,_=>none
 |d+1,t=>match P.underlying t with
  |some .bool=>some [.bool]
  |some (.int k)=>some [.int k]
  |some .string=>some [.str]
  |some (.struct fs)=>match P.stoodInHeld t with|true=>none|false=>ab5 P t (nR P d 0 fs.toList)
  |some (.array n e)=>match dZ P d e with|none=>none|some l=>match Nat.beq (P.cellsOf e) l.length with|true=>ab5 P t (some (List.replicate n l).flatten)|false=>none
  |_=>none def nR (P:Program):Nat->Nat->List Field->Option (List gC)
 |0,_,_=>none
 |_+1,_,[]=>some []
 |d+1,off,f::fs=>match f.name== "_",Nat.beq f.offset off with
  |false,true=>match dZ P d f.type with|none=>none|some l=>match nR P d (off+l.length) fs with|none=>none|some r=>some (l++r)
  |_,_=>none end
def gC.fits:gC->AV->Bool|.bool,.bool _=>true|.int k,.int k' _=>xI k k'|.str,.str _=>true|_,_=>false
def fF:List gC->List AV->Bool
 |[],[]=>true
 |l::ls,x::xs=>match l.fits x with|true=>fF ls xs|false=>false
 |_,_=>false
def ij (agg:Bool)(L:List gC)(x:AV):Bool:=match agg,x with|true,.agg xs=>fF L xs|true,_=>false|false,.agg _=>false|false,x=>fF L [x]
def nK:AV->AV->Bool|.bool a,.bool b=>a==b|.int k a,.int k' b=>xI k k'&&a==b|.str a,.str b=>a==b|_,_=>false
def sameAs:List AV->List AV->Bool|[],[]=>true|x::xs,y::ys=>nK x y&&sameAs xs ys|_,_=>false
def qd:AV->AV->Bool|.agg a,.agg b=>sameAs a b|x,y=>nK x y
def DX (C:Ctx)(t:TypeId)(op:BinOp)(x y:FV)(K:FV->Prop):Prop:=match bK C.jh t with|none=>False|some i=>match i.shape.isAgg,x.eW,y.eW with|true,some (.agg xs),some (.agg ys)=>∃L,dZ C.P 40 t=some L/\C.P.eqGuardType C.P.depth t=false/\fF L xs=true/\fF L ys=true/\(match op with|.eql=>Al λb:Bool=>b=sameAs xs ys->K (.p (.bool b))|.neq=>Al λb:Bool=>b=!sameAs xs ys->K (.p (.bool b))|_=>False)|_,_,_=>False
def Hf (C:Ctx)(t:TypeId)(op:BinOp)(x y:FV)(K:FV->Prop):Prop:=match x,y with
 |.p (.int k a),.p (.int k' b)=>match ab4 op with|true=>BN op k a b K|false=>match xI k k' with|true=>Of op k a b K|false=>False
 |.p (.str a),.p (.str b)=>Og op a b K
 |.ptr _ _,.p .xF=>match op,bK C.jh t with|.eql,some ⟨_,_,.ptr _,_⟩=>K (.p (.bool false))|.neq,some ⟨_,_,.ptr _,_⟩=>K (.p (.bool true))|_,_=>False
 |.p .xF,.p .xF=>match op,bK C.jh t with|.eql,some ⟨_,_,.ptr _,_⟩=>K (.p (.bool true))|.neq,some ⟨_,_,.ptr _,_⟩=>K (.p (.bool false))|_,_=>False
 |.ptr o f,.ptr o' f'=>match Nat.beq o o',Nat.beq f f',op,bK C.jh t with
  |true,true,.eql,some ⟨_,_,.ptr e,_⟩=>match bK C.jh e with|some _=>K (.p (.bool true))|none=>False
  |true,true,.neq,some ⟨_,_,.ptr e,_⟩=>match bK C.jh e with|some _=>K (.p (.bool false))|none=>False
  |_,_,_,_=>False
 |.p (.bool a),.p (.bool b)=>match bK C.jh t with
  |some ⟨_,_,.bool,_⟩=>match op with|.eql=>Al λt:Bool=>t=(a==b)->K (.p (.bool t))|.neq=>Al λt:Bool=>t=!(a==b)->K (.p (.bool t))|_=>False
  |_=>False
 |x,y=>DX C t op x y K
def Mj:Operand->Bool|.const .nilIface=>true|_=>false
def AR (C:Ctx)(t:TypeId)(op:BinOp)(x:FV)(K:FV->Prop):Prop:=match bK C.jh t with
 |some ⟨_,_,.iface,_⟩=>match op,x with|.eql,.p .sX=>K (.p (.bool true))|.eql,.p (.iface _ _)=>K (.p (.bool false))|.neq,.p .sX=>K (.p (.bool false))|.neq,.p (.iface _ _)=>K (.p (.bool true))|_,_=>False
 |_=>False
def Mk:Operand->Bool|.const (.slice none 0 0)=>true|_=>false
def Ml (C:Ctx)(t:TypeId)(op:BinOp)(x:FV)(K:FV->Prop):Prop:=match bK C.jh t with
 |some ⟨_,_,.slice _,_⟩=>match x with
  |.fT _ _ _=>match op with|.eql=>K (.p (.bool false))|.neq=>K (.p (.bool true))|_=>False
  |x=>match x.elems with|none=>False|some xs=>match op with|.eql=>Al λb:Bool=>(xs≠[]->b=false)->K (.p (.bool b))|.neq=>Al λb:Bool=>(xs≠[]->b=true)->K (.p (.bool b))|_=>False
 |_=>False
def mI (C:Ctx)(aD:List (Nat×List FV))(t:TypeId)(a:FV)(K:FV->Prop):Prop:=match bK C.jh t with
 |none=>False
 |some i=>match a with
  |.ptr o off=>match getObj aD o with
   |none=>False
   |some cells=>match i.shape.isAgg with
    |true=>match takeN i.size (gb off cells)with|none=>False|some cs=>K (.agg cs)
    |false=>match gb off cells with|[]=>False|x::_=>K x
  |.p (.imp xs)=>match i.shape.isAgg with
   |true=>match Fb i.size xs with|none=>False|some cs=>K (.p (.agg cs))
   |false=>match xs with|[]=>False|x::_=>K (.p x)
  |.gB o base off=>match getObj aD o with
   |none=>False
   |some cells=>∃A ys B:List FV,cells=A++(ys++B)/\A.length=base/\(match i.shape.isAgg with
    |true=>match takeN i.size (gb off ys)with|none=>False|some cs=>K (.agg cs)
    |false=>match gb off ys with|[]=>False|x::_=>K x)
  |_=>False
def mJ (C:Ctx)(s:TypeId)(x:FV)(f:Nat)(K:FV->Prop):Prop:=match bK C.jh s with
 |some ⟨_,_,.struct fs,_⟩=>match gb f fs with|[]=>False|(o,t)::_=>match bK C.jh t with|none=>False|some j=>match j.size with|0=>False|_+1=>match x with|.ptr b off=>K (.ptr b (off+o))|.p (.imp xs)=>K (.p (.imp (gb o xs)))|.gB b base off=>K (.gB b base (off+o))|_=>False
 |_=>False
def vA (C:Ctx)(s:TypeId)(x:FV)(f:Nat)(K:FV->Prop):Prop:=match bK C.jh s with
 |some ⟨_,_,.struct fs,_⟩=>match gb f fs with
  |[]=>False
  |(o,t)::_=>match bK C.jh t with
   |none=>False
   |some j=>match x with
    |.agg xs=>match j.shape.isAgg with
     |true=>match takeN j.size (gb o xs)with|some cs=>K (.agg cs)|none=>False
     |false=>match gb o xs with|y::_=>K y|[]=>False
    |.p (.agg xs)=>match j.shape.isAgg with
     |true=>match Fb j.size (gb o xs)with|some cs=>K (.p (.agg cs))|none=>False
     |false=>match gb o xs with|y::_=>K (.p y)|[]=>False
    |_=>False
 |_=>False
def jw (C:Ctx)(aD:List (Nat×List FV))(t:TypeId)(x i:FV)(K:FV->Prop):Prop:=match i with
 |.p (.int _ n)=>match bK C.jh t with
  |some ⟨_,_,.slice e,_⟩=>match bK C.jh e with
   |none=>False
   |some j=>match x with
    |.fT o _ bI=>match getObj aD o,Nat.beq bI j.size with|some cells,true=>∃m base:Nat,n=m/\m*bI=base/\base+bI<=cells.length/\K (.gB o base 0)|_,_=>False
    |.sY o x _ bI=>match getObj aD o,Nat.beq bI j.size with|some cells,true=>∃m base:Nat,n=m/\(x+m)*bI=base/\base+bI<=cells.length/\K (.gB o base 0)|_,_=>False
    |x=>match x.elems with|none=>False|some xs=>0<=n/\∃ys,xs[n.toNat]?=some ys/\ys.length=j.size/\K (.p (.imp ys))
  |some ⟨_,_,.array len e,_⟩=>match bK C.jh e with|none=>False|some j=>∃m:Nat,n=m/\m<len/\(match x with|.ptr o off=>∃sym:Bool,(match sym with|true=>∃base,off+m*j.size=base/\K (.gB o base 0)|false=>K (.ptr o (off+m*j.size)))|.gB o b off=>∃base,b+(off+m*j.size)=base/\K (.gB o base 0)|.p (.imp xs)=>∃ys,gb (m*j.size) xs=ys/\K (.p (.imp ys))|_=>False)
  |_=>False
 |_=>False
def vB (C:Ctx)(t:TypeId)(x i:FV)(K:FV->Prop):Prop:=match i with
 |.p (.int _ n)=>match bK C.jh t with
  |some ⟨_,_,.str,_⟩=>match x with|.p (.str s)=>0<=n/\∃c,s[n.toNat]?=some c/\K (.p (.int .u8 c.toNat))|_=>False
  |some ⟨_,_,.array len e,_⟩=>match bK C.jh e with
   |none=>False
   |some j=>match j.shape.isAgg with
    |true=>∃m:Nat,n=m/\m<len/\(match x with
     |.agg xs=>match takeN j.size (gb (m*j.size) xs)with|some cs=>K (.agg cs)|none=>False
     |.p (.agg xs)=>match Fb j.size (gb (m*j.size) xs)with|some cs=>K (.p (.agg cs))|none=>False
     |_=>False)
    |false=>∃m:Nat,n=m/\m<len/\(match x with
     |.agg xs=>match gb (m*j.size) xs with|y::_=>K y|[]=>False
     |.p (.agg xs)=>match gb (m*j.size) xs with|y::_=>K (.p y)|[]=>False
     |_=>False)
  |_=>False
 |_=>False
def tN (x:Option FV)(dflt:Nat)(K:Nat->Prop):Prop:=match x with|none=>K dflt|some (.p (.int _ n))=>∃m:Nat,n=m/\K m|some _=>False
def Mm (C:Ctx)(t:TypeId)(x:FV)(lo hi:Option FV)(K:FV->Prop):Prop:=match bK C.jh t with
 |some ⟨_,_,.str,_⟩=>match x with|.p (.str s)=>tN hi s.length λh=>tN lo 0 λl=>l<=h/\h<=s.length/\∃s',(s.take h).drop l=s'/\K (.p (.str s'))|_=>False
 |some ⟨_,_,.slice e,_⟩=>match bK C.jh e with|none=>False|some j=>match x.elems with|none=>False|some xs=>tN hi xs.length λh=>tN lo 0 λl=>l<=h/\h<=xs.length/\(∀ys,ys∈xs->ys.length=j.size)/\∃xs',(xs.take h).drop l=xs'/\K (.p (.sl xs'))
 |some ⟨_,_,.array len e,_⟩=>match bK C.jh e with|none=>False|some j=>match x with|.p (.imp xs)=>tN hi len λh=>tN lo 0 λl=>l<=h/\h<=len/\j.size=1/\len<=xs.length/\∃xs',((xs.take h).drop l).map (λx=>[x])=xs'/\K (.p (.sl xs'))|_=>False
 |_=>False
def mK (fs:List (Nat×TypeId))(jh:List (TypeId×jE))(S:ag):List (Nat×Operand)->List FV->Option (List FV)
 |[],cells=>some cells
 |(i,x)::rest,cells=>match gb i fs with
  |[]=>none
  |(o,t)::_=>match bK jh t with
   |none=>none
   |some j=>match Nat.beq j.size 0,Nat.beq (S.val x).cells.length j.size,jQ (S.val x).cells with
    |false,true,true=>match gE cells o (S.val x).cells with|none=>none|some cells'=>mK fs jh S rest cells'
    |_,_,_=>none
def fR (size:Nat)(S:ag):List (Nat×Operand)->List FV->Option (List FV)
 |[],cells=>some cells
 |(i,x)::rest,cells=>match Nat.beq size 0,Nat.beq (S.val x).cells.length size,jQ (S.val x).cells with
  |false,true,true=>match gE cells (i*size) (S.val x).cells with|none=>none|some cells'=>fR size S rest cells'
  |_,_,_=>none
def placesOf (jh:List (TypeId×jE)):List (Nat×TypeId)->Option (List (Nat×Nat))|[]=>some []|(o,t)::fs=>match bK jh t with|none=>none|some j=>match placesOf jh fs with|none=>none|some ps=>some ((o,j.size)::ps)
def Gt (C:Ctx)(S:ag)(t:TypeId)(parts:List (Nat×Operand))(K:FV->Prop):Prop:=match bK C.jh t with
 |some ⟨_,_,.struct fs,zero⟩=>match placesOf C.jh fs with|none=>False|some _=>match mK fs C.jh S parts (zero.map FV.gT)with|some cs=>oT cs λcs=>K (.agg cs)|none=>False
 |some ⟨_,_,.array _ e,zero⟩=>match bK C.jh e with|none=>False|some j=>match fR j.size S parts (zero.map FV.gT)with|some cs=>oT cs λcs=>K (.agg cs)|none=>False
 |_=>False
def nS {α:Type}:Nat->List α->List α|0,_=>[]|n+1,xs=>xs++nS n xs
def chunk {α:Type}(size:Nat):Nat->List α->List (List α)|0,_=>[]|n+1,xs=>xs.take size::chunk size n (xs.drop size)
def lW (C:Ctx)(S:ag)(t:TypeId)(len:Nat)(parts:List (Nat×Operand))(K:FV->Prop):Prop:=match bK C.jh t with
 |some ⟨_,_,.slice e,_⟩=>match bK C.jh e with
  |none=>False
  |some j=>match Nat.ble (len*j.size) 1000000 with
   |false=>False
   |true=>match fR j.size S parts (nS len (j.zero.map FV.gT))with
    |some cs=>match jQ cs with|false=>False|true=>match FV.fQ cs with|some ys=>K (.full (chunk j.size len ys))|none=>False
    |none=>False
 |_=>False
def gv:Nat->List Nat->Bool|_,[]=>false|i,d::ds=>match Nat.beq i d with|true=>true|false=>gv i ds
def Shape.Fc:Shape->Bool|.slice _=>true|.str=>true|_=>false
def FV.items:FV->Option (List (List AV))|.p (.str s)=>some (s.map λ(b:UInt8)=>[AV.int .u8 (b.toNat:Int)])|y=>y.elems
def vC (S:ag)(d:Nat)(K:Nat->Prop):Prop:=match S.off with|0=>K d|n+1=>K (n+1+d)
theorem lu (S:ag)(d:Nat)(K:Nat->Prop):vC S d K=K (S.off+d):=by unfold vC;split;rename_i h;rw[h,dn];rename_i n h;rw[h]
def qJ (S:ag)(d:Nat)(K:Nat->Prop):Prop:=match S.off with
 |0=>match iy d with|true=>False|false=>K d
 |n+1=>match iy (n+1+d)with|true=>False|false=>K (n+1+d)
theorem jF (S:ag)(d:Nat)(K:Nat->Prop):qJ S d K=(iy (S.off+d)=false/\K (S.off+d)):=by unfold qJ;split;rename_i h;rw[h,dn];cases iy d<;>simp;rename_i n h;rw[h];cases iy (n+1+d)<;>simp
def Hg (n:Nat)(K:Nat->Prop):Prop:=match n with|0=>K 0|m+1=>K (m+1)
theorem Oh (n:Nat)(K:Nat->Prop):Hg n K=K n:=by cases n<;>rfl
def tc (C:Ctx)(t u d:TypeId)(S:ag)(x y:FV)(K:ag->Prop):Prop:=match bK C.jh t,bK C.jh u with
 |some ⟨_,_,.slice e,_⟩,some ui=>match ui.shape.Fc with
  |false=>False
  |true=>match bK C.jh e with
   |none=>False
   |some j=>match y.items with
    |none=>False
    |some ys=>match x with
     |.gi k T bI xs=>match Nat.beq bI j.size,Nat.beq j.bytes 0,Nat.beq T e with|true,false,true=>(∀zs,zs∈xs->zs.length=bI)/\(∀zs,zs∈ys->zs.length=bI)/\(xs.length+ys.length)*j.bytes<=140737488355328/\∃zs,xs++ys=zs/\K ((S.kill k).put (some d) (.gi k T bI zs))|_,_,_=>False
     |.fT k T bI=>match Nat.beq bI j.size,Nat.beq T e,Nat.beq j.bytes 0 with
      |true,true,false=>match Ad S.aD k with|none=>False|some xs=>∃n:Nat,xs.length=n*j.size/\(∀zs,zs∈ys->zs.length=j.size)/\(n+ys.length)*j.bytes<=140737488355328/\∃zs,FV.dJ k (xs++aI ys.flatten)=zs/\K ({S.kill k with aD:=(k,zs)::dW k S.aD}.put (some d) (.fT k e j.size))
      |_,_,_=>False
     |.full []=>match Nat.beq j.bytes 0 with|false=>(∀zs,zs∈ys->zs.length=j.size)/\ys.length*j.bytes<=140737488355328/\vC S d λnm=>K ((S.kill nm).put (some d) (.gi nm e j.size ys))|true=>False
     |.full (q::r)=>match Nat.beq j.bytes 0 with|false=>ys≠[]/\(∀zs,zs∈q::r->zs.length=j.size)/\(∀zs,zs∈ys->zs.length=j.size)/\((q::r).length+ys.length)*j.bytes<=140737488355328/\vC S d λnm=>∃zs,(q::r)++ys=zs/\K ((S.kill nm).put (some d) (.gi nm e j.size zs))|true=>False
     |_=>False
 |_,_=>False
def Ry (C:Ctx)(t u d:TypeId)(S:ag)(x:FV)(o2:Nat)(T2:TypeId)(e2:Nat)(K:ag->Prop):Prop:=match bK C.jh t,bK C.jh u with
 |some ⟨_,_,.slice e,_⟩,some ui=>match ui.shape.Fc with
  |false=>False
  |true=>match bK C.jh e with
   |none=>False
   |some j=>match Nat.beq e2 j.size,Nat.beq T2 e,Nat.beq j.bytes 0 with
    |true,true,false=>match getObj S.aD o2 with
     |none=>False
     |some ys=>match x with
      |.fT k T bI=>match Nat.beq bI j.size,Nat.beq T e,Nat.beq k o2 with
       |true,true,false=>match Ad S.aD k with|none=>False|some xs=>∃n m:Nat,xs.length=n*j.size/\ys.length=m*j.size/\jQ ys=true/\(n+m)*j.bytes<=140737488355328/\∃zs,FV.dJ k (xs++ys)=zs/\K ({S.kill k with aD:=(k,zs)::dW k S.aD}.put (some d) (.fT k e j.size))
       |_,_,_=>False
      |.full []=>∃m:Nat,0<m/\ys.length=m*j.size/\jQ ys=true/\m*j.bytes<=140737488355328/\qJ S d λnm=>∃zs,FV.dJ nm ys=zs/\K ({S.kill nm with aD:=(nm,zs)::dW nm S.aD}.put (some d) (.fT nm e j.size))
      |_=>False
    |_,_,_=>False
 |_,_=>False
def jG (C:Ctx)(aD:List (Nat×List FV))(b:Builtin)(args:List FV)(types:List TypeId)(K:FV->Prop):Prop:=match b with
 |.len=>match args,types with
  |[x],[t]=>match bK C.jh t with
   |none=>False
   |some ⟨_,_,.str,_⟩=>match x with|.p (.str s)=>K (.p (.int .i64 s.length))|_=>False
   |some ⟨_,_,.slice _,_⟩=>match x with
    |.fT o _ bI=>match getObj aD o with|some cells=>∃n:Nat,cells.length=n*bI/\K (.p (.int .i64 n))|none=>False
    |.sY o x _ bI=>match getObj aD o with|some cells=>∃n:Nat,cells.length=(x+n)*bI/\K (.p (.int .i64 n))|none=>False
    |x=>match x.elems with|some xs=>K (.p (.int .i64 xs.length))|none=>False
   |_=>False
  |_,_=>False
 |.min=>match args with
  |[.p (.int k a),.p (.int k' b)]=>match xI k k' with|true=>∃c,(if b<a then b else a)=c/\K (.p (.int k c))|false=>False
  |_=>False
 |.max=>match args with
  |[.p (.int k a),.p (.int k' b)]=>match xI k k' with|true=>∃c,(if b>a then b else a)=c/\K (.p (.int k c))|false=>False
  |_=>False
 |_=>False
def ab6 (rest:Option (List AV))(x:FV):FV:=match rest with|none=>x|some r=>.eS (x::aI r)
def ag.got (S:ag)(dst:Option Nat):fN->ag
 |.own rest T bI xss=>match dst with|some d=>{S.kill (S.off+d)with aD:=(S.off+d,aI xss.flatten)::dW (S.off+d) S.aD}.put (some d) (ab6 rest (.fT (S.off+d) T bI))|none=>S
 |.val x=>S.put dst (.p x)
 |.fresh T bI xs=>match dst with|some d=>(S.kill (S.off+d)).put (some d) (.gi (S.off+d) T bI xs)|none=>S
 |.vf x=>S.put dst x
def aen (S:ag)(dst:Option Nat):fN->Prop|.own _ _ _ _=>∀d,dst=some d->iy (S.off+d)=false|_=>True
def JD (S:ag)(dst:Option Nat)(r:fN)(K:ag->Prop):Prop:=match r with
 |.own rest T bI xss=>match dst with|some d=>qJ S d λnm=>∃zs,aI xss.flatten=zs/\K ({S.kill nm with aD:=(nm,zs)::dW nm S.aD}.put (some d) (ab6 rest (.fT nm T bI)))|none=>K S
 |.val x=>K (S.put dst (.p x))
 |.fresh T bI xs=>match dst with|some d=>vC S d λnm=>K ((S.kill nm).put (some d) (.gi nm T bI xs))|none=>K S
 |.vf x=>K (S.put dst x)
theorem Gu {S:ag}{dst:Option Nat}{r:fN}{K:ag->Prop}(h:JD S dst r K):aen S dst r/\K (S.got dst r):=by
 unfold JD at h;cases r with
 |val x=>exact⟨trivial,h⟩
 |fresh T bI xs=>
  cases dst with
  |none=>exact⟨trivial,h⟩
  |some d=>simp only[lu]at h;exact⟨trivial,h⟩
 |vf x=>exact⟨trivial,h⟩
 |own rest T bI xss=>
  cases dst with
  |none=>exact⟨λd hd=>(by cases hd),h⟩
  |some d=>simp only[jF]at h;obtain⟨h1,zs,rfl,h2⟩:=h;exact⟨λd' hd=>by cases hd;exact h1,h2⟩
abbrev ov:=Nat->List FV->(FV->ag->Prop)->ag->Prop
abbrev iG:=ov->FuncId->List FV->(FV->ag->Prop)->ag->Prop
def ab7 (P:Program)(g:FuncId):Prop:=∀(v:Value)(w:World),(callFunc g #[v]).run P w=.ok (.value v) w
def Rz (S:ag)(d:Nat):ag:={(S.kill (S.off+d)).put (some d) (.ptr (S.off+d) 0)with cz:=(S.off+d,[])::BM (S.off+d) S.cz}
def AV.flat:AV->Bool|.bool _=>true|.int _ _=>true|.str _=>true|.xF=>true|.DW=>true|.sX=>true|.vq=>true|_=>false
def Uk:List AV->Bool|[]=>true|x::xs=>match x.flat with|true=>Uk xs|false=>false
theorem VK {xs:List AV}(h:Uk xs=true):∀x,x∈xs->x.flat=true:=by
 induction xs with
 |nil=>simp
 |cons x xs ih=>simp only[Uk]at h;split at h;rename_i h1;intro y hy;rcases aC.1 hy with rfl|hy;exact h1;exact ih h y hy;cases h
theorem dh.flat {bh tL:Nat->Nat->Prop}{w:World}{v:Value}{x:AV}(h:dh bh w v x)(hx:x.flat=true):dh tL w v x:=by
 cases h with
 |bool b=>exact .bool b
 |int k n=>exact .int k n
 |str s=>exact .str s
 |xF=>exact .xF
 |DW=>exact .DW
 |sX=>exact .sX
 |vq=>exact .vq
 |_=>simp[AV.flat]at hx
def Ym (C:Ctx)(S:ag)(dst:Option Nat)(g:FuncId)(o:Nat)(bs:List UInt8)(args:List FV)(K:ag->Prop):Prop:=match FV.fQ args with|none=>False|some xs=>∃(out:Option (List UInt8)) (r:AV),uE C g xs bs out r/\(match out with|some bs'=>K ({S with cz:=Yl S.cz o bs'}.put dst (.p r))|none=>K ({S with cz:=BM o S.cz}.put dst (.p r)))
def Hh (S:ag):List FV->Option (Nat×List UInt8×List FV)
 |.ptr o 0::rest=>match lI S.cz o with|some bs=>some (o,bs,rest)|none=>none
 |_=>none
def ag.BO (S:ag)(ob:Nat)(cs:List FV):ag:={S with aD:=setObj S.aD ob cs}
def DY (d:Nat)(z:AV):List (Nat×List FV)->List (Nat×List FV)|[]=>[]|(u,i)::r=>(u,FV.Yb d z i)::DY d z r
def ag.Oi (S:ag)(d:Nat)(z:AV):ag:={S with tmps:=λi=>(S.tmps i).fm d z,aD:=DY d z S.aD,bD:=xH (FV.fm d z) S.bD,maps:=Am (FV.fm d z) (Ae d S.maps)}
def iF {α:Type}:List (AV×α)->List AV|[]=>[]|(k,_)::r=>k::iF r
def AS {α:Type}:List (AV×α)->List α|[]=>[]|(_,x)::r=>x::AS r
def afa {α:Type}(l:List (Nat×α))(d:Nat):Option α:=match iy d with|true=>none|false=>getM l d
theorem VL {α:Type}{l:List (Nat×α)}{d:Nat}{x:α}(h:afa l d=some x):iy d=false/\getM l d=some x:=by unfold afa at h;split at h;cases h;rename_i hb;exact⟨hb,h⟩
structure Yn (S:ag)(d:Nat)(ks vs:List AV):Prop where
 mp:∃l,afa S.maps d=some l/\iF l=ks/\FV.fQ (AS l)=some vs
def Yo (C:Ctx)(S:ag)(dst:Option Nat)(g:FuncId)(args:List FV)(K:ag->Prop):Prop:=∃(d:Nat) (ks vs:List AV),Yn S d ks vs/\match FV.fQ (FV.Yb d (.mp ks vs) args)with|some xs=>∃R,au C g xs R/\∀r,R r->JD (S.Oi d (.mp ks vs)) dst r K|none=>False
def DZ (d:Nat)(ys:List AV):List (Nat×List FV)->List (Nat×List FV)|[]=>[]|(u,i)::r=>match Nat.beq u d with|true=>DZ d ys r|false=>(u,FV.Rx d ys i)::DZ d ys r
def ag.Mg (S:ag)(d:Nat)(ys:List AV):ag:={S with tmps:=λi=>(S.tmps i).fz d ys,aD:=DZ d ys S.aD,bD:=xH (FV.fz d ys) S.bD,maps:=Am (FV.fz d ys) S.maps}
def tO:List AV->Bool|[]=>true|x::xs=>match x.one with|true=>tO xs|false=>false
def ab8 (C:Ctx)(S:ag)(dst:Option Nat)(g:FuncId)(args:List FV)(K:ag->Prop):Prop:=∃(d:Nat) (ys:List AV),match Ad S.aD d with|none=>False|some cells=>FV.fQ cells=some ys/\tO ys=true/\match FV.fQ (FV.Rx d ys args)with|some xs=>∃R,au C g xs R/\∀r,R r->JD (S.Mg d ys) dst r K|none=>False
def Yp (S:ag)(dst:Option Nat)(o:Nat)(T:TypeId)(bI:Nat)(r:Bool)(ys:List AV)(K:ag->Prop):Prop:=match r with|false=>K ((S.BO o (aI ys)).put dst (.p (.eS [])))|true=>match dst with|some d=>∃zs,aI ys=zs/\K ({S.kill o with aD:=(o,zs)::dW o S.aD}.put (some d) (.fT o T bI))|none=>False
def Oj (C:Ctx)(S:ag)(dst:Option Nat)(g:FuncId)(args:List FV)(K:ag->Prop):Prop:=match args with
 |.ptr o 0::rest=>match getObj S.aD o,FV.fQ rest with
  |some cells,some xs=>match FV.fQ cells with|some (z::zs)=>∃R,GY C g (z::zs) xs R/\∀r ys,R r ys->K ((S.BO o (aI ys)).put dst (.p r))|_=>False
  |_,_=>False
 |.fT o T bI::rest=>match Ad S.aD o,FV.fQ rest with
  |some cells,some xs=>match FV.fQ cells with|some zs=>∃R,VI C g T bI zs xs R/\∀r ys,R r ys->Yp S dst o T bI r ys K|none=>False
  |_,_=>False
 |args=>Yo C S dst g args K\/ab8 C S dst g args K
mutual inductive Fe (S:ag):FV->AV->Prop|plain {x:FV}{y:AV}:x.eW=some y->Fe S x y|fT {o:Nat}{T:TypeId}{bI:Nat}{cells:List FV}{xss:List (List AV)}:Ad S.aD o=some cells->uG S cells xss.flatten->(∀ys,ys∈xss->ys.length=bI/\∀y,y∈ys->y.one=true)->Fe S (.fT o T bI) (.sl xss)|ptr {o:Nat}{cells:List FV}{ys:List AV}:Ad S.aD o=some cells->uG S cells ys->(∀y,y∈ys->y.one=true)->Fe S (.ptr o 0) (.imp ys)|fu {o:Nat}{l:List (AV×FV)}{ks vs:List AV}:getM S.maps o=some l->iF l=ks->uG S (AS l) vs->Fe S (.fu o) (.mp ks vs)|fn {f:Fn}{fs cs:List FV}{a b:List AV}:uG S fs a->uG S cs b->Fe S (.fn f fs cs) (.fn f a b)|agg {xs:List FV}{ys:List AV}:uG S xs ys->(∀y,y∈ys->y.one=true)->Fe S (.agg xs) (.agg ys) inductive uG (S:ag):List FV->List AV->Prop|plain {xs:List FV}{ys:List AV}:FV.fQ xs=some ys->uG S xs ys|nil:uG S [] []|cons {x:FV}{y:AV}{xs:List FV}{ys:List AV}:Fe S x y->uG S xs ys->uG S (x::xs) (y::ys) end
def AV.Hi:AV->Bool|.eS xs=>Uk xs|x=>x.flat
def Yq (C:Ctx)(S:ag)(dst:Option Nat)(g:FuncId)(args:List FV)(K:ag->Prop):Prop:=∃(xs:List AV) (R:fN->Prop),uG S args xs/\au C g xs R/\∀r,R r->(∃x,r=.val x/\x.Hi=true)/\JD S dst r K
def bt (x y:FV):Prop:=∀(G:aZ)(w:World)(v:Value),aO G w v x->aO G w v y
structure cq (S S':ag):Prop where
 n:S'.n=S.n
 off:S'.off=S.off
 cm:S'.cm=S.cm
 cz:∀o bs,lI S'.cz o=some bs->lI S.cz o=some bs/\(getObj S.aD o=none->getObj S'.aD o=none)
 bD:S'.bD.length=S.bD.length/\∀(i:Nat)(f f':Fr),S.bD[i]?=some f->S'.bD[i]?=some f'->f'.n=f.n/\f'.off=f.off/\∀j,bt (f.tmps j) (f'.tmps j)
 tmps:∀i,bt (S.tmps i) (S'.tmps i)
 aD:∀o ys,getObj S'.aD o=some ys->∃xs,getObj S.aD o=some xs/\xs.length=ys.length/\∀(i:Nat)(x y:FV),xs[i]?=some x->ys[i]?=some y->bt x y
 maps:∀o l',getM S'.maps o=some l'->∃l,getM S.maps o=some l/\l.length=l'.length/\∀(i:Nat)(p p':AV×FV),l[i]?=some p->l'[i]?=some p'->p'.1=p.1/\bt p.2 p'.2
 jg:∀q x,getM S'.jg q=some x->getM S.jg q=some x
def ag7 (C:Ctx)(g:FuncId)(K:ag->Prop)(S:ag):Prop:=match gv g C.ex.rel with|true=>∃T,cq S T/\K T|false=>K S
def tP (bh:Nat->Nat->Prop)(loc mp:Nat->Option Nat):aZ:=⟨bh,loc,λ_=>none,λ_=>none,λ_=>none,mp,λ_=>none⟩
def Ff:List (Nat×Nat)->Nat->Nat|[],o=>o|(u,i)::r,o=>match Nat.beq u o with|true=>i|false=>Ff r o
mutual def FV.nm (ρ:List (Nat×Nat)):FV->FV|.ptr o off=>.ptr (Ff ρ o) off|.gB o b off=>.gB (Ff ρ o) b off|.fu o=>.fu (Ff ρ o)|.agg xs=>.agg (FV.JE ρ xs)|.eS xs=>.eS (FV.JE ρ xs)|.fn f first captured=>.fn f (FV.JE ρ first) (FV.JE ρ captured)|x=>x def FV.JE (ρ:List (Nat×Nat)):List FV->List FV|[]=>[]|x::xs=>FV.nm ρ x::FV.JE ρ xs end
mutual def FV.only (N:List Nat)(m:Nat):FV->Bool
 |.p _=>true
 |.agg xs=>FV.xJ N m xs
 |.eS xs=>FV.xJ N m xs
 |.ptr o _=>gv o N
 |.fu o=>Nat.beq o m
 |.full _=>true
 |.fn _ a b=>match FV.xJ N m a with|true=>FV.xJ N m b|false=>false
 |.dy=>true
 |_=>false def FV.xJ (N:List Nat)(m:Nat):List FV->Bool|[]=>true|x::xs=>match x.only N m with|true=>FV.xJ N m xs|false=>false end
def KA (N:List Nat)(m:Nat):List (AV×FV)->Bool|[]=>true|(_,x)::r=>match x.only N m with|true=>KA N m r|false=>false
def ji:List (Nat×List FV)->List Nat|[]=>[]|(o,_)::r=>o::ji r
structure Yr (g:Nat)(bh:Nat->Nat->Prop)(loc mp:Nat->Option Nat)(w:World)(aD:List (Nat×List FV))(m:Nat)(l:List (AV×FV)):Prop where
 dom:∀o b,loc o=some b->iy o=true/\gv o (ji aD)=true/\(∃cs T fr,w.heap[b]?=some (.cells cs T fr))/\g<=b/\b<w.heap.size/\∀i,¬bh b i/\w.frozen? ⟨b,i,none⟩=false
 aD:∀o cells,getObj aD o=some cells->∃b,loc o=some b/\∀(i:Nat)(x:FV),cells[i]?=some x->∃c,w.cell? ⟨b,i,none⟩=some c/\aO (tP bh loc mp) w c x
 inj:∀o o' b,loc o=some b->loc o'=some b->o=o'
 Ys:∀o b,mp o=some b->o=m/\iy m=true/\g<=b/\b<w.heap.size/\∀i,¬bh b i
 map:∃(b gm:Nat) (es:List MapEntry),mp m=some b/\w.heap[b]?=some (.map es.toArray gm)/\oQ es gm/\es.length=l.length/\∀(i:Nat)(e:MapEntry)(p:AV×FV),es[i]?=some e->l[i]?=some p->dh bh w e.key p.1/\aO (tP bh loc mp) w e.val p.2
 apart:∀o o' b,mp o=some b->loc o'≠some b
def nL (C:Ctx)(f:FuncId)(aD:List (Nat×List FV))(m:Nat)(l:List (AV×FV))(args:List FV)(R:AV->List (AV×FV)->Prop):Prop:=(∃fn,C.P.funcs[f]?=some fn/\fn.body.isNone=false/\(fn.name== "runtime.NumGoroutine")=false)/\∀(bh:Nat->Nat->Prop)(loc mp:Nat->Option Nat)(w:World)(vs:List Value),C.J w/\oR bh w->C.mD<=w.heap.size->(∀b o,bh b o->b<w.heap.size)->Yr C.mD bh loc mp w aD m l->vs.length=args.length->(∀(i:Nat)(v:Value)(x:FV),vs[i]?=some v->args[i]?=some x->aO (tP bh loc mp) w v x)->Calls C.P f vs.toArray w λe w'=>∃v r l',e=.returned v/\R r l'/\dh (lq bh w.heap.size) w' v r/\(∀o b,loc o=some b->(∀cells (i:Nat)(x:FV),getObj aD o=some cells->cells[i]?=some x->∃c,w'.cell? ⟨b,i,none⟩=some c/\aO (tP (lq bh w.heap.size) loc mp) w' c x)/\∀cs T fr,w.heap[b]?=some (.cells cs T fr)->∃cs',w'.heap[b]?=some (.cells cs' T fr)/\cs'.size=cs.size)/\(∃(b gm:Nat) (es:List MapEntry),mp m=some b/\w'.heap[b]?=some (.map es.toArray gm)/\oQ es gm/\es.length=l'.length/\∀(i:Nat)(e:MapEntry)(p:AV×FV),es[i]?=some e->l'[i]?=some p->dh (lq bh w.heap.size) w' e.key p.1/\aO (tP (lq bh w.heap.size) loc mp) w' e.val p.2)/\w'.os=w.os/\w'.tape=w.tape/\w'.output=w.output/\w.heap.size<=w'.heap.size/\∀k,k<w.heap.size->(∀o,loc o≠some k)->(∀o,mp o≠some k)->w'.heap[k]?=w.heap[k]?
def uH (N:List Nat)(m:Nat):List (Nat×List FV)->Bool|[]=>true|(_,[])::_=>false|(o,c::cs)::r=>match iy o,FV.xJ N m (c::cs)with|true,true=>uH N m r|_,_=>false
def Hj (n:Nat):List Nat->Bool|[]=>true|m::r=>match Nat.beq n m with|true=>false|false=>Hj n r
def Mn:List Nat->Bool|[]=>true|n::r=>match Hj n r with|true=>Mn r|false=>false
def Hl (ρ:List (Nat×Nat)):List (Nat×List FV)->List Nat|[]=>[]|(o,_)::r=>Ff ρ o::Hl ρ r
def zu (S:ag)(ρ:List (Nat×Nat)):List (Nat×List FV)->Prop|[]=>True|(o,cells)::r=>getObj S.aD (Ff ρ o)=some (FV.JE ρ cells)/\zu S ρ r
def Mo (C:Ctx)(S:ag)(dst:Option Nat)(g:FuncId)(args:List FV)(K:ag->Prop):Prop:=∃(ρ:List (Nat×Nat)) (aD:List (Nat×List FV)) (m:Nat) (l:List (AV×FV)) (az:List FV) (R:AV->List (AV×FV)->Prop),FV.JE ρ az=args/\(FV.xJ (ji aD) m az=true/\uH (ji aD) m aD=true/\iy m=true/\KA (ji aD) m l=true/\Mn (Hl ρ aD)=true)/\zu S ρ aD/\getM S.maps (Ff ρ m)=some (uF (FV.nm ρ) l)/\getM C.ex.Mh (Ff ρ m)=none/\nL C g aD m l az R/\∀r l',R r l'->K ((S.Fa (sZ S.maps (Ff ρ m) (uF (FV.nm ρ) l'))).put dst (.p r))
def KB (C:Ctx)(call:iG)(Y:ov)(S:ag)(dst:Option Nat)(g:FuncId)(args:List FV)(K:ag->Prop):Prop:=match Hh S args with|some (o,bs,rest)=>Ym C S dst g o bs rest K|none=>call Y g args (λv S'=>ag7 C g K (S'.put dst v)) S\/(((ab7 C.P g/\match args with|[x]=>K (S.put dst x)|_=>False)\/Mo C S dst g args K)\/Yq C S dst g args K)\/Oj C S dst g args K
def als:List FV->Option Int|[.full [],.p (.int .i64 n)]=>some n|_=>none
def Mp (C:Ctx)(call:iG)(Y:ov)(S:ag)(dst:Option Nat)(f:FV)(args:List FV)(K:ag->Prop):Prop:=match f with
 |.p (.fn (.func g) first captured)=>match gv g C.ex.inl with|true=>KB C call Y S dst g (aI first++args++aI captured) K|false=>match FV.fQ args with|some xs=>∃R,au C g (first++xs++captured) R/\∀r,R r->JD S dst r K|none=>KB C call Y S dst g (aI first++args++aI captured) K
 |.fn (.func g) first captured=>match FV.fQ (first++args++captured)with|some xs=>∃R,au C g xs R/\∀r,R r->JD S dst r K|none=>KB C call Y S dst g (first++args++captured) K
 |.lM l=>Y l args (λv S'=>K (S'.put dst v)) S
 |_=>False
def newObj (S:ag)(d:Nat)(cells:List FV):ag:={(S.kill (S.off+d)).put (some d) (.ptr (S.off+d) 0)with aD:=(S.off+d,FV.dJ (S.off+d) cells)::dW (S.off+d) S.aD}
def Gv (S:ag)(d:Nat)(cells:List FV)(K:ag->Prop):Prop:=qJ S d λnm=>K {(S.kill nm).put (some d) (.ptr nm 0)with aD:=(nm,FV.dJ nm cells)::dW nm S.aD}
theorem vE (S:ag)(d:Nat)(cells:List FV)(K:ag->Prop):Gv S d cells K=(iy (S.off+d)=false/\K (newObj S d cells)):=by unfold Gv newObj;rw[jF]
def Mq (S:ag)(d:Nat)(K:ag->Prop):Prop:=qJ S d λnm=>K {(S.kill nm).put (some d) (.ptr nm 0)with cz:=(nm,[])::BM nm S.cz}
theorem Ho (S:ag)(d:Nat)(K:ag->Prop):Mq S d K=(iy (S.off+d)=false/\K (Rz S d)):=by unfold Mq Rz;rw[jF]
def tQ {α:Type}(k:AV):List (AV×α)->Option α|[]=>none|(k',x)::r=>match qd k k' with|true=>some x|false=>tQ k r
def Gd {α:Type}(k:AV)(x:α):List (AV×α)->List (AV×α)|[]=>[(k,x)]|(k',y)::r=>match qd k k' with|true=>(k,x)::r|false=>(k',y)::Gd k x r
def qS {α:Type}:List AV->List α->List (AV×α)|k::ks,x::xs=>(k,x)::qS ks xs|_,_=>[]
def FV.entries (maps:List (Nat×List (AV×FV))):FV->Option (List (AV×FV))|.fu o=>getM maps o|.p (.mp ks vs)=>some (qS ks (aI vs))|.p .vq=>some []|_=>none
def okV (ok:Bool)(x:FV)(b:Bool):FV:=match ok with|true=>.eS [x,.p (.bool b)]|false=>x
def Hp (C:Ctx)(maps:List (Nat×List (AV×FV)))(t:TypeId)(x i:FV)(ok:Bool)(K:FV->Prop):Prop:=match bK C.jh t with
 |some ⟨_,_,.map kT eT,_⟩=>match bK C.jh kT,i.eW,x.entries maps with|some ki,some kk,some l=>∃L,dZ C.P 40 kT=some L/\ij ki.shape.isAgg L kk=true/\(∀p,p∈l->ij ki.shape.isAgg L p.1=true)/\∃r,tQ kk l=r/\(match r with|some v=>K (okV ok v true)|none=>∃z:Value,(C.P.info? eT).map (·.zero)=some (some z)/\K (okV ok (FV.Oe z) false))|_,_,_=>False
 |_=>False
def Ul (C:Ctx)(S:ag)(dst:Option Nat)(t:TypeId)(m k:FV)(x:FV)(K:ag->Prop):Prop:=match bK C.jh t with
 |some ⟨_,_,.map kT _,_⟩=>match m with
  |.fu ob=>match bK C.jh kT,k.eW,getM S.maps ob with|some ki,some kk,some l=>∃L,dZ C.P 40 kT=some L/\ij ki.shape.isAgg L kk=true/\(∀p,p∈l->ij ki.shape.isAgg L p.1=true)/\∃l',Gd kk x l=l'/\(match getM C.ex.Mh ob with|none=>K ((S.Fa (sZ S.maps ob l')).put dst (.p (.eS [])))|some (_,_,k)=>k=some kk/\K ((S.Fa (sZ S.maps ob l')).put dst (.p (.eS []))))|_,_,_=>False
  |_=>False
 |_=>False
def Mr (S:ag)(d:Nat)(K:ag->Prop):Prop:=qJ S d λnm=>K {(S.kill nm).put (some d) (.fu nm)with maps:=(nm,[])::Am (FV.kill nm) (Ae nm S.maps)}
def RA (op:UnOp)(x:FV)(K:FV->Prop):Prop:=match op,x with|.not,.p (.bool b)=>Al λt:Bool=>t=!b->K (.p (.bool t))|.neg,.p (.int k n)=>∃c,k.wrap (0-n)=c/\K (.p (.int k c))|.xor,.p (.int k n)=>∃c,xC .xor k (match k.signed with|true=>-1|false=>k.max) n=c/\K (.p (.int k c))|_,_=>False
def fN.plain:fN->FV|.val x=>.p x|.fresh _ _ xs=>.p (.sl xs)|.vf x=>x|.own rest _ _ xss=>match rest with|none=>.p (.sl xss)|some r=>.p (.eS (.sl xss::r))
def zv (C:Ctx)(f:FV)(args:List FV)(K:FV->Prop):Prop:=match f with
 |.p (.fn (.func g) first captured)=>match FV.fQ args with|some xs=>∃R,au C g (first++xs++captured) R/\∀r,R r->K r.plain|none=>False
 |.fn (.func g) first captured=>match FV.fQ (first++args++captured)with|some xs=>∃R,au C g xs R/\∀r,R r->K r.plain|none=>False
 |_=>False
def Um (C:Ctx)(sh:Shape)(xs:Option (List (List AV)))(K:FV->Prop):Prop:=match sh,xs with
 |.slice e,some xs=>match bK C.jh e with|some ⟨1,_,.int .u8,_⟩=>∃bs:List UInt8,xs=bs.map (λb=>[AV.int .u8 (b.toNat:Int)])/\K (.p (.str bs))|_=>False
 |_,_=>False
def RB (C:Ctx)(src dst:TypeId)(v:FV)(K:FV->Prop):Prop:=match bK C.jh src with
 |none=>False
 |some ⟨_,_,sh,_⟩=>match bK C.jh dst with
  |some ⟨_,_,.int k,_⟩=>match v with|.p (.int _ n)=>∃c,k.wrap n=c/\K (.p (.int k c))|_=>False
  |some ⟨_,_,.str,_⟩=>match v with|.p (.str s)=>K (.p (.str s))|.p (.int _ n)=>∃c:UInt8,n=(c.toNat:Int)/\c.toNat<128/\K (.p (.str [c]))|v=>Um C sh v.elems K
  |_=>False
def ej (C:Ctx)(S:ag)(op:Op)(K:FV->Prop):Prop:=match op with
 |.move x=>force (S.val x) K
 |.assign x=>force (S.val x) K
 |.pick c a b=>match S.val c with|.p (.bool true)=>force (S.val a) K|.p (.bool false)=>force (S.val b) K|_=>False
 |.binOp op t x y _=>match Mj y with|true=>AR C t op (S.val x) K|false=>match Mk y with|true=>Ml C t op (S.val x) K|false=>Hf C t op (S.val x) (S.val y) K
 |.unOp op _ x=>RA op (S.val x) K
 |.convert src dst x=>RB C src dst (S.val x) K
 |.makeInterface t x=>match bK C.jh t with
  |some ⟨_,_,.iface,_⟩=>False
  |some _=>match(S.val x).eW with|some y=>K (.p (.iface t y))|none=>False
  |none=>False
 |.makeFunc fn first captured=>oT (first.toList.map S.val) λa=>oT (captured.toList.map S.val) λb=>K (.fn fn a b)
 |.build t parts=>Gt C S t parts.toList K
 |.buildSlice t len parts=>lW C S t len parts.toList K
 |.load t a=>mI C S.aD t (S.val a) K
 |.nilCheck x=>match S.val x with|.ptr b off=>K (.ptr b off)|.p (.imp xs)=>K (.p (.imp xs))|.gB o base off=>K (.gB o base off)|.p (.fn (.func f) a b)=>K (.p (.fn (.func f) a b))|.fn (.func f) a b=>K (.fn (.func f) a b)|_=>False
 |.fieldAddr s x f=>mJ C s (S.val x) f K
 |.field s x f=>vA C s (S.val x) f K
 |.indexAddr t x i=>jw C S.aD t (S.val x) (S.val i) K
 |.index t x i=>vB C t (S.val x) (S.val i) K
 |.lookup t x i ok=>Hp C S.maps t (S.val x) (S.val i) ok K
 |.slice t x lo hi none=>Mm C t (S.val x) (lo.map S.val) (hi.map S.val) K
 |.extract x i=>match S.val x with
  |.eS xs=>match gb i xs with|y::_=>K y|[]=>False
  |.p (.eS xs)=>match gb i xs with|y::_=>K (.p y)|[]=>False
  |_=>False
 |.call c=>match c.callee with|.builtin b=>jG C S.aD b (c.args.toList.map S.val) c.argTypes.toList K|.value f=>zv C (S.val f) (c.args.toList.map S.val) K|.invoke _ _=>False
 |_=>False
def Fg:List Nat->(ag->Prop)->ag->Prop|[],K,S=>K S|d::ds,K,S=>match Ad S.aD d with|none=>False|some cells=>match FV.fQ cells with|none=>False|some ys=>match tO ys with|true=>Fg ds K (S.Mg d ys)|false=>False
def Fh (C:Ctx)(S:ag)(e:TypeId)(len:Nat)(parts:List (Nat×Operand))(K:List FV->Nat->Prop):Prop:=match bK C.jh e with
 |none=>False
 |some j=>match Nat.ble (len*j.size) 1000000,Nat.beq j.size 0 with
  |true,false=>match fR j.size S parts (nS len (j.zero.map FV.gT))with
   |some cs=>match jQ cs with|false=>False|true=>oT cs λcs=>K cs j.size
   |none=>False
  |_,_=>False
def xK (C:Ctx)(S:ag)(e:TypeId)(d len:Nat)(parts:List (Nat×Operand))(K:ag->Prop):Prop:=Fh C S e len parts λcs z=>qJ S d λnm=>K ({S.kill nm with aD:=(nm,FV.dJ nm cs)::dW nm S.aD}.put (some d) (.fT nm e z))
def RC (C:Ctx)(S:ag)(t:TypeId)(d:Nat)(len cap:FV)(K:ag->Prop):Prop:=match bK C.jh t with
 |some ⟨_,_,.slice e,_⟩=>match bK C.jh e with
  |some ⟨1,bytes,_,[z]⟩=>match len,cap with|.p (.int _ n),.p (.int _ n')=>∃m:Nat,n=m/\n'=m/\bytes*m<=281474976710656/\m<=9223372036854775807/\qJ S d λnm=>∃cs,FV.dJ nm (List.replicate m (FV.gT z))=cs/\K ({S.kill nm with aD:=(nm,cs)::dW nm S.aD}.put (some d) (.fT nm e 1))|_,_=>False
  |some j=>match len,cap with|.p (.int _ n),.p (.int _ n')=>∃m:Nat,n=0/\n'=m/\j.bytes*m<=281474976710656/\m<=9223372036854775807/\vC S d λnm=>K ((S.kill nm).put (some d) (.gi nm e j.size []))|_,_=>False
  |none=>False
 |_=>False
def RD (C:Ctx)(t:TypeId)(dst:Option Nat)(S:ag)(k:Nat)(T:TypeId)(bI:Nat)(hi:FV)(K:ag->Prop):Prop:=match dst,bK C.jh t,hi with
 |some d,some ⟨_,_,.slice e,_⟩,.p (.int _ n)=>match bK C.jh e with|none=>False|some j=>match Nat.beq bI j.size,Ad S.aD k with|true,some xs=>∃m N:Nat,n=m/\xs.length=N*bI/\m<=N/\∃zs,FV.dJ k (xs.take (m*bI))=zs/\K ({S.kill k with aD:=(k,zs)::dW k S.aD}.put (some d) (.fT k T bI))|_,_=>False
 |_,_,_=>False
def Ea (C:Ctx)(S:ag)(src dst:TypeId)(d:Nat)(s:List UInt8)(K:ag->Prop):Prop:=match bK C.jh src,bK C.jh dst with
 |some ⟨_,_,.str,_⟩,some ⟨_,_,.slice e,_⟩=>match bK C.jh e with|some ⟨1,_,.int .u8,_⟩=>vC S d λnm=>K ((S.kill nm).put (some d) (.gi nm e 1 (s.map λb=>[AV.int .u8 (b.toNat:Int)])))|_=>False
 |_,_=>False
def Un (C:Ctx)(dst:Option Nat)(S:ag)(src ty:TypeId)(x:Operand)(K:ag->Prop):Prop:=match bK C.jh ty,dst with
 |some ⟨_,_,.slice _,_⟩,some d=>match S.val x with|.p (.str s)=>Ea C S src ty d s K|_=>False
 |_,_=>ej C S (.convert src ty x) λv=>K (S.put dst v)
def Ms (C:Ctx)(t u d:TypeId)(S:ag)(y:FV)(K:ag->Prop):Prop:=match bK C.jh t,bK C.jh u with
 |some ⟨_,_,.slice e,_⟩,some ui=>match ui.shape.Fc with|false=>False|true=>match bK C.jh e with|none=>False|some j=>match y.items,Nat.beq j.bytes 0,Nat.beq j.size 0 with|some ys,false,false=>ys≠[]/\(∀zs,zs∈ys->zs.length=j.size)/\ys.length*j.bytes<=140737488355328/\qJ S d λnm=>∃zs,aI ys.flatten=zs/\K ({S.kill nm with aD:=(nm,zs)::dW nm S.aD}.put (some d) (.fT nm e j.size))|_,_,_=>False
 |_,_=>False
def RE (C:Ctx)(t u d:TypeId)(S:ag)(x y:FV)(K:ag->Prop):Prop:=match gv d C.ex.opens with
 |true=>match x with|.full []=>Ms C t u d S y K|x=>tc C t u d S x y K
 |false=>tc C t u d S x y K
def RG (C:Ctx)(t:TypeId)(x h m:FV)(K:FV->Prop):Prop:=match bK C.jh t with
 |some ⟨_,_,.slice e,_⟩=>match bK C.jh e with|none=>False|some _=>match x.elems,h,m with|some _,.p (.int _ a),.p (.int _ b)=>a=0/\b=0/\K (.full [])|_,_,_=>False
 |_=>False
def Mt (C:Ctx)(t:TypeId)(dst:Option Nat)(S:ag)(k:Nat)(T:TypeId)(bI:Nat)(lo:FV)(K:ag->Prop):Prop:=match dst,bK C.jh t,lo with
 |some d,some ⟨_,_,.slice e,_⟩,.p (.int _ n)=>match bK C.jh e with|none=>False|some j=>match Nat.beq bI j.size,Ad S.aD k with|true,some xs=>∃m N:Nat,n=m/\xs.length=N*bI/\m<=N/\K (S.put (some d) (.sY k m T bI))|_,_=>False
 |_,_,_=>False
def Mu (C:Ctx)(t:TypeId)(dst:Option Nat)(S:ag)(x:FV)(K:ag->Prop):Prop:=match x with
 |.sY k b T bI=>match bK C.jh t with
  |some ⟨_,_,.slice e,_⟩=>match bK C.jh e with|none=>False|some j=>match Nat.beq bI j.size,Ad S.aD k with|true,some xs=>jQ (j.zero.map FV.gT)=true/\∃N:Nat,xs.length=(b+N)*bI/\∃zs,xs.take (b*bI)++nS N (j.zero.map FV.gT)=zs/\K ((S.BO k zs).put dst (.p (.eS [])))|_,_=>False
  |_=>False
 |_=>False
def Ol (C:Ctx)(dst:Option Nat)(S:ag)(t:TypeId)(x:Operand)(lo hi mx:Option Operand)(K:ag->Prop):Prop:=match S.val x with
 |.fT k T bI=>match lo,hi,mx with|none,some h,none=>RD C t dst S k T bI (S.val h) K|some l,none,none=>Mt C t dst S k T bI (S.val l) K|_,_,_=>False
 |v=>match lo,hi,mx with|none,some h,some m=>RG C t v (S.val h) (S.val m) λv=>K (S.put dst v)|_,_,_=>ej C S (.slice t x lo hi mx) λv=>K (S.put dst v)
mutual def FV.JF (d E:Nat)(qj:List (List AV)):FV->FV
 |.ptr o off=>match Nat.beq o d with|true=>.dy|false=>.ptr o off
 |.gB o b off=>match Nat.beq o d with|true=>.dy|false=>.gB o b off
 |.fT o T e=>match Nat.beq o d with
  |true=>match Nat.beq e E with|true=>.gi o T e qj|false=>.dy
  |false=>.fT o T e
 |.sY o x T e=>match Nat.beq o d with|true=>.dy|false=>.sY o x T e
 |.gi t T e xs=>match Nat.beq t d with|true=>.p (.sl xs)|false=>.gi t T e xs
 |.agg xs=>.agg (FV.BP d E qj xs)
 |.eS xs=>.eS (FV.BP d E qj xs)
 |.fn f first captured=>.fn f (FV.BP d E qj first) (FV.BP d E qj captured)
 |.p x=>.p x
 |.full xs=>.full xs
 |.lM l=>match Nat.beq l d with|true=>.dy|false=>.lM l
 |.fu o=>match Nat.beq o d with|true=>.dy|false=>.fu o
 |.zo o=>match Nat.beq o d with|true=>.dy|false=>.zo o
 |.dy=>.dy def FV.BP (d E:Nat)(qj:List (List AV)):List FV->List FV|[]=>[]|x::xs=>FV.JF d E qj x::FV.BP d E qj xs end
theorem FV.vF (d E:Nat)(qj:List (List AV))(xs:List FV):FV.BP d E qj xs=xs.map (FV.JF d E qj):=by
 induction xs with
 |nil=>simp[FV.BP]
 |cons x xs ih=>simp[FV.BP,ih]
def zw (d E:Nat)(qj:List (List AV)):List (Nat×List FV)->List (Nat×List FV)|[]=>[]|(u,i)::r=>match Nat.beq u d with|true=>zw d E qj r|false=>(u,FV.BP d E qj i)::zw d E qj r
def ag.Om (S:ag)(d E:Nat)(qj:List (List AV)):ag:={S with tmps:=λi=>(S.tmps i).JF d E qj,aD:=zw d E qj S.aD,bD:=xH (FV.JF d E qj) S.bD,cz:=BM d S.cz,maps:=Am (FV.JF d E qj) (Ae d S.maps),jg:=Ae d S.jg}
structure ag8 (S:ag)(d E:Nat)(qj:List (List AV)):Prop where
 obj:∃cells,Ad S.aD d=some cells/\FV.fQ cells=some qj.flatten
 each:∀ys,ys∈qj->ys.length=E/\∀y,y∈ys->y.one=true
def BQ (C:Ctx)(call:iG)(Y:ov)(o:Oper)(K:ag->Prop)(S:ag):Prop:=match o.op with
 |.makeFunc fn first captured=>∃fr:List Nat,Fg fr (λS=>oT (first.toList.map S.val) λa=>oT (captured.toList.map S.val) λb=>K (S.put o.dst (.fn fn a b))) S
 |.buildSlice t len parts=>match o.dst,bK C.jh t with
  |some d,some ⟨_,_,.slice e,_⟩=>match gv d C.ex.opens with
   |true=>xK C S e d len parts.toList K
   |false=>lW C S t len parts.toList λv=>match v with
    |.full xs=>match bK C.jh e with|none=>False|some j=>vC S d λnm=>K ((S.kill nm).put (some d) (.gi nm e j.size xs))
    |_=>False
  |_,_=>False
 |.alloc t=>match o.dst,bK C.jh t with
  |some d,some i=>match Nat.beq t C.bT,i.zero with|true,[.pointer none,.slice none 0 0]=>Mq S d K|_,_=>oT (i.zero.map FV.gT) λcs=>Gv S d cs K
  |_,_=>False
 |.box t x=>match o.dst,bK C.jh t with
  |some d,some i=>match Nat.beq (S.val x).cells.length i.size with
   |true=>match jQ (S.val x).cells with|true=>oT (S.val x).cells λcs=>Gv S d cs K|false=>False
   |false=>False
  |_,_=>False
 |.store t a x=>match bK C.jh t,S.val a with
  |some i,.ptr ob off=>match getObj S.aD ob with
   |none=>False
   |some cells=>match Nat.beq (S.val x).cells.length i.size with
    |true=>match jQ (S.val x).cells with
     |true=>match gE cells off (S.val x).cells with|some cs=>oT cs λcs=>K ((S.BO ob cs).put o.dst (.p (.eS [])))|none=>False
     |false=>False
    |false=>False
  |some i,.gB ob base off=>match getObj S.aD ob with
   |none=>False
   |some cells=>match Nat.beq (S.val x).cells.length i.size with
    |true=>match jQ (S.val x).cells with|true=>∃A ys B:List FV,cells=A++(ys++B)/\A.length=base/\(match gE ys off (S.val x).cells with|some zs=>oT zs λzs=>∃cs,A++(zs++B)=cs/\K ((S.BO ob cs).put o.dst (.p (.eS [])))|none=>False)|false=>False
    |false=>False
  |_,_=>False
 |.makeMap _ none=>match o.dst with|some d=>Mr S d K|none=>False
 |.makeSlice t len cap=>match o.dst with|some d=>RC C S t d (S.val len) (S.val cap) K|none=>False
 |.mapUpdate t m k x=>Ul C S o.dst t (S.val m) (S.val k) (S.val x) K
 |.insert t m k x=>Ul C S o.dst t (S.val m) (S.val k) (S.val x) K
 |.slice t x lo hi mx=>Ol C o.dst S t x lo hi mx K
 |.convert src ty x=>Un C o.dst S src ty x K
 |.call c=>match c.callee with
  |.builtin .append=>match c.args.toList.map S.val,c.argTypes.toList,o.dst with
   |[x,y],[t,u],some d=>match y with|.fT o2 T2 e2=>Ry C t u d S x o2 T2 e2 K|y=>RE C t u d S x y K
   |_,_,_=>False
  |.builtin .clear=>match c.args.toList.map S.val,c.argTypes.toList with|[x],[t]=>Mu C t o.dst S x K|_,_=>False
  |.builtin b=>jG C S.aD b (c.args.toList.map S.val) c.argTypes.toList λv=>K (S.put o.dst v)
  |.value f=>Mp C call Y S o.dst (S.val f) (c.args.toList.map S.val) K
  |.invoke _ _=>False
 |op=>ej C S op λv=>K (S.put o.dst v)
def Hq:Bool->Bool->Bool|true,b=>b|false,true=>false|false,false=>true
theorem nT (a b:Bool):Hq a b=(a==b):=by cases a<;>cases b<;>rfl
def oE (C:Ctx)(call:iG)(Y:ov)(ops:Array Oper):List Oper->(ag->Prop)->ag->Prop
 |[],K,S=>K S
 |o::rest,K,S=>match o.guard with
  |none=>BQ C call Y o (oE C call Y ops rest K) S
  |some (j,want)=>match(ops[j]?).bind (·.dst)with
   |none=>False
   |some d=>match S.get d with
    |.p (.bool b)=>match Hq b want with|true=>BQ C call Y o (oE C call Y ops rest K) S|false=>oE C call Y ops rest K (S.put o.dst (.p (.eS [])))
    |.p (.eS [])=>oE C call Y ops rest K (S.put o.dst (.p (.eS [])))
    |_=>False
def Gw (C:Ctx)(ops:Array Oper):List Oper->(ag->Prop)->ag->Prop
 |[],K,S=>K S
 |o::rest,K,S=>match o.guard with
  |none=>∃v,ej C S o.op (λu=>u=v)/\Gw C ops rest K (S.put o.dst v)
  |some (j,want)=>match(ops[j]?).bind (·.dst)with
   |none=>False
   |some d=>match S.get d with
    |.p (.bool b)=>match Hq b want with|true=>∃v,ej C S o.op (λu=>u=v)/\Gw C ops rest K (S.put o.dst v)|false=>Gw C ops rest K (S.put o.dst (.p (.eS [])))
    |.p (.eS [])=>Gw C ops rest K (S.put o.dst (.p (.eS [])))
    |_=>False
def dstsOf:List Oper->List Nat|[]=>[]|o::os=>match o.dst with|some d=>d::dstsOf os|none=>dstsOf os
def ag.ur (S:ag)(ds:List Nat):ag:={S with tmps:=λi=>match gv i ds with|true=>.dy|false=>S.tmps i}
def tR (K:ag->Prop)(Q:Exit->ag->Prop):Exit->ag->Prop|.normal,S=>K S|e,S=>Q e S
def Hr (id:Nat)(Q:Exit->ag->Prop):Exit->ag->Prop
 |.exit n,S=>match Nat.beq n id with|true=>Q .normal S|false=>Q (.exit n) S
 |e,S=>Q e S
def guarded:List Oper->Bool|[]=>false|o::os=>match o.guard with|some _=>true|none=>guarded os
def oU:List Oper->List Nat
 |[]=>[]
 |[o]=>match o.dst with|some d=>[d]|none=>[]
 |o::os=>match o.op,o.dst with|.assign _,some d=>d::oU os|_,_=>oU os
def getAll (S:ag):List Nat->List FV|[]=>[]|r::rs=>S.get r::getAll S rs
def Eb (K:ag->Prop):ag->List Nat->(List FV->Prop)->Prop|S,[],φ=>Al λ_:φ []=>K S|S,r::rs,φ=>Al λv=>Eb K (S.put (some r) v) rs λvs=>φ (v::vs)
def td (ops:Array Oper):Nat->Nat->Nat->Bool|0,_,_=>false|fuel+1,j,i=>match ops[j]?with|none=>false|some o=>o.after.toList.any λe=>Region.binds .any e&&(e.on==i||td ops fuel e.on i)
def On (ops:Array Oper)(q:Nat->Bool)(listed:Array Bool)(k:Nat):Bool:=match ops[k]?with|none=>false|some o=>(List.range ops.size).all λj=>j==k||listed.getD j true||td ops ops.size j k||(q j&&match ops[j]?with|none=>true|some oj=>o.apart ops oj)
def tf (ops:Array Oper)(m:Nat):Nat->Nat->Array Bool->Bool|0,_,listed=>(Region.ready .any ops listed).isEmpty|fuel+1,k,listed=>(match decide (k<m)with|true=>(Region.ready .any ops listed).contains k&&On ops (λj=>decide (j<m)) listed k|false=>Region.ready .any ops listed==[k])&&tf ops m fuel (k+1) (listed.setIfInBounds k true)
def AT (ops:Array Oper)(m:Nat):Bool:=decide (m<=ops.size)&&Region.noSelect ops&&tf ops m ops.size 0 (Array.replicate ops.size false)
mutual def FV.safe (pr:List Nat):FV->Bool
 |.p _=>true
 |.agg xs=>FV.tS pr xs
 |.eS xs=>FV.tS pr xs
 |.ptr o _=>gv o pr
 |.gi t _ _ _=>gv t pr
 |.full _=>true
 |.fn _ a b=>match FV.tS pr a with|true=>FV.tS pr b|false=>false
 |.lM l=>gv l pr
 |.fT o _ _=>gv o pr
 |.sY o _ _ _=>gv o pr
 |.gB o _ _=>gv o pr
 |.fu o=>gv o pr
 |.zo o=>gv o pr
 |.dy=>true def FV.tS (pr:List Nat):List FV->Bool|[]=>true|x::xs=>match FV.safe pr x with|true=>FV.tS pr xs|false=>false end
def opsL:Op->Option (List Operand)|.move x=>some [x]|.assign x=>some [x]|.pick c x y=>some [c,x,y]|.binOp _ _ x y _=>some [x,y]|.unOp _ _ x=>some [x]|.convert _ _ x=>some [x]|.load _ x=>some [x]|.nilCheck x=>some [x]|.fieldAddr _ x _=>some [x]|.field _ x _=>some [x]|.indexAddr _ x i=>some [x,i]|.index _ x i=>some [x,i]|.slice _ x lo hi none=>some (x::(lo.toList++hi.toList))|.extract x _=>some [x]|.call ⟨.value f,args,_⟩=>some (f::args.toList)|.call ⟨.builtin _,args,_⟩=>some args.toList|.build _ parts=>some (parts.toList.map (·.2))|.buildSlice _ _ parts=>some (parts.toList.map (·.2))|_=>none
def xL (pr:List Nat)(S:ag):List Operand->Bool|[]=>true|z::zs=>match(S.val z).safe pr with|true=>xL pr S zs|false=>false
def xb (pr:List Nat)(S:ag)(op:Op)(v:FV):Bool:=match opsL op with|none=>false|some zs=>match xL pr S zs with|true=>v.safe pr|false=>false
def KC (pr:List Nat)(k:Nat):FV->Bool|.gi t _ _ _=>!gv t pr|.full _=>!gv k pr|_=>false
def nU (il:List FuncId)(pr:List Nat)(S:ag)(dst:Option Nat):Op->Bool
 |.alloc _=>match dst with|some d=>!gv (S.off+d) pr|none=>false
 |.store _ a _=>match S.val a with|.ptr ob _=>!gv ob pr|_=>false
 |.call ⟨.builtin .append,args,_⟩=>match args.toList.map S.val,dst with
  |[x,y],some d=>match y with|.fT _ _ _=>false|_=>KC pr (S.off+d) x
  |_,_=>false
 |.call ⟨.value f,args,_⟩=>match S.val f with
  |.p (.fn (.func g) _ _)=>match gv g il,FV.fQ (args.toList.map S.val),dst with|false,some _,some d=>!gv (S.off+d) pr|_,_,_=>false
  |_=>false
 |_=>false
inductive JG where|fin|one (k:Nat)(p:JG)|alt (k:Nat)(p r:JG)|stop
def JG.Uo:JG->List Nat|.alt k _ r=>k::r.Uo|_=>[]
structure qT where
 calm:List Nat
 ajQ:List Nat
 ag9:List Nat
 pr:List Nat
def qT.of (c:qT)(i:Nat):Nat:=match gv i c.calm with|true=>1|false=>match gv i c.ajQ with|true=>2|false=>match gv i c.ag9 with|true=>3|false=>0
def nM (ops:Array Oper)(c:qT):JG->Bool->Nat->Array Bool->Bool
 |.fin,top,_,listed=>top&&(Region.ready .any ops listed).isEmpty
 |.stop,top,_,_=>!top
 |.one k p,top,fuel,listed=>top&&match fuel with|0=>false|fuel+1=>Nat.ble (c.of k) 1&&(Region.ready .any ops listed).contains k&&On ops (λj=>Nat.ble (c.of j) (c.of k+1)) listed k&&nM ops c p true fuel (listed.setIfInBounds k true)
 |.alt k p r,top,fuel,listed=>(!top||Region.ready .any ops listed==(k::r.Uo))&&match fuel with|0=>false|fuel'+1=>nM ops c p true fuel' (listed.setIfInBounds k true)&&nM ops c r false fuel listed
def afb (C:Ctx)(ops:Array Oper)(pr:List Nat)(o:Oper)(K:ag->Prop)(S:ag):Prop:=match o.guard with
 |none=>∃v,ej C S o.op (λu=>u=v)/\xb pr S o.op v=true/\K (S.put o.dst v)
 |some (j,want)=>match(ops[j]?).bind (·.dst)with
  |none=>False
  |some d=>match S.get d with
   |.p (.bool b)=>match Hq b want with|true=>∃v,ej C S o.op (λu=>u=v)/\xb pr S o.op v=true/\K (S.put o.dst v)|false=>K (S.put o.dst (.p (.eS [])))
   |.p (.eS [])=>K (S.put o.dst (.p (.eS [])))
   |_=>False
def afc (C:Ctx)(call:iG)(Y:ov)(ops:Array Oper)(pr:List Nat)(o:Oper)(K:ag->Prop)(S:ag):Prop:=match o.guard with
 |none=>nU C.ex.inl pr S o.dst o.op=true/\BQ C call Y o K S
 |some (j,want)=>match(ops[j]?).bind (·.dst)with
  |none=>False
  |some d=>match S.get d with
   |.p (.bool b)=>match Hq b want with|true=>nU C.ex.inl pr S o.dst o.op=true/\BQ C call Y o K S|false=>K (S.put o.dst (.p (.eS [])))
   |.p (.eS [])=>K (S.put o.dst (.p (.eS [])))
   |_=>False
def Oo (C:Ctx)(o:Oper)(K:ag->Prop)(S:ag):Prop:=match o.guard,o.op,o.dst with
 |none,.call ⟨.value f,args,_⟩,some d=>match S.val f with
  |.p (.fn (.func g) [] [])=>match gv g C.ex.inl,FV.fQ (args.toList.map S.val),Hh S (args.toList.map S.val)with|false,none,none=>Mo C S (some d) g (args.toList.map S.val) K|_,_,_=>False
  |_=>False
 |_,_,_=>False
def xM (C:Ctx)(call:iG)(Y:ov)(ops:Array Oper)(c:qT)(k:Nat)(K:ag->Prop)(S:ag):Prop:=match ops.toList[k]?with
 |none=>False
 |some o=>match c.of k with
  |0=>Gw C ops [o] K S
  |1=>afb C ops c.pr o K S
  |2=>match gv k c.ag9 with|true=>Oo C o K S|false=>afc C call Y ops c.pr o K S
  |_=>oE C call Y ops [o] K S
def nN (C:Ctx)(call:iG)(Y:ov)(ops:Array Oper)(c:qT)(K:ag->Prop):JG->ag->Prop|.fin,S=>K S|.stop,_=>True|.one k p,S=>xM C call Y ops c k (nN C call Y ops c K p) S|.alt k p r,S=>match r with|.stop=>xM C call Y ops c k (nN C call Y ops c K p) S|_=>xM C call Y ops c k (nN C call Y ops c K p) S/\nN C call Y ops c K r S
inductive How where|lex (m:Nat)|keep (φ:List FV->Prop)|plan (c:qT)(p:JG)(T:Option ag)|sea (c:qT)(J:Array Bool->ag->Prop)
def jW (C:Ctx)(call:iG)(Y:ov)(ops:Array Oper)(draw:Bool)(K:ag->Prop)(S:ag):Prop:=match draw,guarded ops.toList with
 |false,false=>oE C call Y ops ops.toList K S
 |false,true=>∃φ:Option (List FV->Prop),match φ with|some φ=>Gw C ops ops.toList (λS'=>φ (getAll S' (oU ops.toList))) S/\Eb K (S.ur (dstsOf ops.toList)) (oU ops.toList) φ|none=>oE C call Y ops ops.toList K S
 |true,_=>∃how:How,match how with
  |.lex m=>AT ops m=true/\Gw C ops (ops.toList.take m) (oE C call Y ops (ops.toList.drop m) K) S
  |.keep φ=>AT ops ops.size=true/\Gw C ops ops.toList (λS'=>φ (getAll S' (oU ops.toList))) S/\Eb K (S.ur (dstsOf ops.toList)) (oU ops.toList) φ
  |.plan c p T=>nM ops c p true ops.size (Array.replicate ops.size false)=true/\match T with|none=>nN C call Y ops c K p S|some T=>nN C call Y ops c (λS'=>cq S' T) p S/\K T
  |.sea c J=>J (Array.replicate ops.size false) S/\(∀(listed:Array Bool)(S':ag)(k:Nat),J listed S'->k∈Region.ready .any ops listed->xM C call Y ops c k (J (listed.setIfInBounds k true)) S')/\∀(listed:Array Bool)(S':ag),J listed S'->Region.ready .any ops listed=[]->K S'
def Yt (m k y d0 d1 d2 d3 n:Nat):Bool:=ltB d0 n&&ltB d1 n&&ltB d2 n&&ltB d3 n&&!gv m [d0,d1,d2,d3]&&!gv k [d0,d1,d2,d3]&&!gv y [d0,d1,d2,d3]&&!gv d0 [d1,d2,d3]&&!gv d1 [d2,d3]&&!Nat.beq d2 d3
def uu (C:Ctx)(l:List Oper)(K:ag->Prop)(S:ag):Prop:=∃(t tx ty m k y d0 d1 d2 d3:Nat),l.map (·.op)=[.mapEntry t (.tmp m) (.tmp k),.extract (.tmp d0) 0,.call ⟨.builtin .append,#[.tmp d1,.tmp y],#[tx,ty]⟩,.extract (.tmp d0) 1,.entryStore t (.tmp m) (.tmp d3) (.tmp d2)]/\l.map (·.dst)=[some d0,some d1,some d2,some d3,none]/\l.map (·.guard)=[none,none,none,none,none]/\Yt m k y d0 d1 d2 d3 S.n=true/\match bK C.jh t,bK C.jh tx,bK C.jh ty with
 |some ⟨_,_,.map kT eT,_⟩,some ⟨_,_,.slice e,_⟩,some ui=>match ui.shape.Fc,bK C.jh e,bK C.jh kT,S.get m with
  |true,some j,some ki,.fu ob=>match(S.get k).eW,(S.get y).items,getM S.maps ob,getM C.ex.Mh ob with|some kk,some ys,some l,some (T,z,x)=>Nat.beq T e=true/\Nat.beq z j.size=true/\Nat.beq j.bytes 0=false/\x≠some kk/\(C.P.info? eT).map (·.zero)=some (some (.slice none 0 0))/\∃L,dZ C.P 40 kT=some L/\ij ki.shape.isAgg L kk=true/\(∀p,p∈l->ij ki.shape.isAgg L p.1=true)/\(∀zs,zs∈ys->zs.length=j.size)/\∃old:List (List AV),(match tQ kk l with|some v=>v=.p (.sl old)|none=>old=[])/\(∀zs,zs∈old->zs.length=j.size)/\(old.length+ys.length)*j.bytes<=140737488355328/\∃l',Gd kk (.p (.sl (old++ys))) l=l'/\K ((S.ur [d0,d1,d2,d3]).Fa (sZ S.maps ob l'))|_,_,_,_=>False
  |_,_,_,_=>False
 |_,_,_=>False
def xN (ops:Array Oper)(m:Nat)(l:Array Bool):Bool:=let r:=Region.ready .any ops;let a:=l.setIfInBounds m true;let b:=a.setIfInBounds (m+1) true;let b2:=b.setIfInBounds (m+2) true;let b3:=b2.setIfInBounds (m+3) true;let c:=b.setIfInBounds (m+3) true;let c2:=c.setIfInBounds (m+2) true;let d:=a.setIfInBounds (m+3) true;let d1:=d.setIfInBounds (m+1) true;let d2:=d1.setIfInBounds (m+2) true;r l==[m]&&r a==[m+1,m+3]&&r b==[m+2,m+3]&&r b2==[m+3]&&r b3==[m+4]&&r (b3.setIfInBounds (m+4) true)==[]&&r c==[m+2]&&r c2==[m+4]&&r (c2.setIfInBounds (m+4) true)==[]&&r d==[m+1]&&r d1==[m+2]&&r d2==[m+4]&&r (d2.setIfInBounds (m+4) true)==[]
def BR (ops:Array Oper):Nat->Nat->Array Bool->Bool|0,k,listed=>xN ops k listed&&(List.range k).all λj=>listed.getD j true|f+1,k,listed=>(Region.ready .any ops listed).contains k&&On ops (λj=>decide (j<k+(f+1))) listed k&&BR ops f (k+1) (listed.setIfInBounds k true)
def BS (ops:Array Oper):Bool:=Nat.ble 5 ops.size&&BR ops (ops.size-5) 0 (Array.replicate ops.size false)
def Gx (C:Ctx)(call:iG)(Y:ov)(ops:Array Oper)(draw:Bool)(K:ag->Prop)(S:ag):Prop:=match draw with|true=>BS ops=true/\Gw C ops (ops.toList.take (ops.size-5)) (uu C (ops.toList.drop (ops.size-5)) K) S|false=>oE C call Y ops (ops.toList.take (ops.toList.length-5)) (uu C (ops.toList.drop (ops.toList.length-5)) K) S
def Hs:List zq->Nat->Option zq|[],_=>none|p::_,0=>some p|_::r,n+1=>Hs r n
def VM:List zq->Nat->zq->List zq|[],_,_=>[]|_::r,0,q=>q::r|p::r,n+1,q=>p::VM r n q
def ab9:List Fr->Nat->Option Fr|[],_=>none|p::_,0=>some p|_::r,n+1=>ab9 r n
def Oq (f:Nat->FV):List Nat->List FV->Nat->FV|p::ps,x::xs=>Oq (λi=>match Nat.beq i p with|true=>x|false=>f i) ps xs|_,_=>f
def ag.enter (S:ag)(n:Nat)(tmps:Nat->FV):ag:={n:=n,off:=S.off+1000,tmps:=tmps,aD:=S.aD,bD:=⟨S.n,S.off,S.tmps⟩::S.bD,cm:=S.cm,cz:=S.cz,maps:=S.maps,jg:=S.jg}
def ag.leave (S:ag)(K:ag->Prop):Prop:=match S.bD with|[]=>False|f::r=>K {n:=f.n,off:=f.off,tmps:=f.tmps,aD:=S.aD,bD:=r,cm:=S.cm,cz:=S.cz,maps:=S.maps,jg:=S.jg}
def tU (args:List FV):Nat->FV:=λi=>match args[i]?with|some x=>x|none=>.p (.eS [])
def xO (lvl:Nat)(st:zq)(K:ag->Prop)(S:ag):Prop:=match Hs S.cm lvl with|some .busy=>ag.leave {S with cm:=VM S.cm lvl st} K|_=>False
def Yu (lvl:Nat)(K:FV->ag->Prop):Exit->ag->Prop|.normal,S=>xO lvl .ready (K (.p (.bool true))) S|.ret,S=>xO lvl .Mi (K (.p (.bool false))) S|.exit id,S=>xO lvl (.GZ id) (K (.p (.bool false))) S|_,_=>False
def Up (lvl:Nat)(K:ag->Prop)(S:ag):Prop:=match Hs S.cm lvl with|some .ready=>K {S with cm:=VM S.cm lvl .busy}|_=>False
def BT (lvl:Nat)(Q:Exit->ag->Prop)(S:ag):Prop:=match Hs S.cm lvl with|some .ready=>Q .normal {S with cm:=S.cm.take lvl}|some .Mi=>Q .ret {S with cm:=S.cm.take lvl}|some (.GZ id)=>Q (.exit id) {S with cm:=S.cm.take lvl}|_=>False
def Yv (S:ag)(depth:Nat):Option Fr:=ab9 S.bD (S.bD.length-depth-1)
def vG (Y:ov)(assign body:(Exit->ag->Prop)->ag->Prop)(ps:List Nat)(lvl depth:Nat):ov:=λl args K S1=>match Nat.beq l (1000000+lvl)with|false=>Y l args K S1|true=>match Hs S1.cm lvl,Yv S1 depth with|some .ready,some fr=>Nat.beq args.length ps.length=true/\assign (tR (Up lvl (body (Yu lvl K))) λ_ _=>False) (S1.enter fr.n (Oq fr.tmps ps args))|_,_=>False
def xD (C:Ctx)(call:iG)(Y:ov):Code->(Exit->ag->Prop)->ag->Prop
 |.skip,Q,S=>Q .normal S
 |.region id ops draw,Q,S=>match gv id C.ag6 with
  |true=>∃T,cq S T/\jW C call Y ops draw (Q .normal) T
  |false=>match gv (S.off+id) C.ex.Mg with
   |true=>(∃(d E:Nat) (qj:List (List AV)),ag8 S d E qj/\jW C call Y ops draw (Q .normal) (S.Om d E qj))\/jW C call Y ops draw (Q .normal) S
   |false=>match gv (S.off+id) C.ex.frm with
    |true=>(∃(d:Nat) (ks vs:List AV),Yn S d ks vs/\jW C call Y ops draw (Q .normal) (S.Oi d (.mp ks vs)))\/jW C call Y ops draw (Q .normal) S
    |false=>match gv (S.off+id) C.ex.fzo with
     |true=>∃fr:List Nat,Fg fr (λS=>jW C call Y ops draw (Q .normal) S) S
     |false=>match gv (S.off+id) C.ex.rmr with
      |true=>match Nat.ble 5 ops.size with|true=>Gx C call Y ops draw (Q .normal) S|false=>jW C call Y ops draw (Q .normal) S
      |false=>jW C call Y ops draw (Q .normal) S
 |.seq a b,Q,S=>xD C call Y a (tR (xD C call Y b Q) Q) S
 |.cond c x y,Q,S=>match S.val c with|.p (.bool true)=>xD C call Y x Q S|.p (.bool false)=>xD C call Y y Q S|_=>False
 |.block id c,Q,S=>xD C call Y c (Hr id Q) S
 |.loop c,Q,S=>∃(α:Type) (I:α->ag->Prop) (μ:α->Nat),(∃a S',cq S S'/\I a S')/\∀a S,I a S->xD C call Y c (tR (λS'=>∃a' tJ,cq S' tJ/\I a' tJ/\μ a'<μ a) Q) S
 |.rangeFunc g ps assign body,Q,S=>Hg S.cm.length λlvl=>Hg S.bD.length λdep=>match S.val g with|.p (.fn (.func f) [] captured)=>call (vG Y (xD C call Y assign) (xD C call Y body) ps.toList lvl dep) f (.lM (1000000+lvl)::aI captured) (λ_ S'=>BT lvl Q S') {S.kill (1000000+lvl)with cm:=S.cm++[.ready]}|.fn (.func f) [] captured=>call (vG Y (xD C call Y assign) (xD C call Y body) ps.toList lvl dep) f (.lM (1000000+lvl)::FV.dJ (1000000+lvl) captured) (λ_ S'=>BT lvl Q S') {S.kill (1000000+lvl)with cm:=S.cm++[.ready]}|_=>False
 |.exit id,Q,S=>Q (.exit id) S
 |.ret,Q,S=>Q .ret S
 |_,_,_=>False
def An (ntmps:Nat)(args:List AV):ag:={n:=ntmps,tmps:=λi=>match(args)[i]?with|some x=>.p x|none=>.p (.eS []),off:=0,aD:=[],bD:=[],cm:=[],cz:=[]}
def mq (C:Ctx)(S:ag):List ResultVar->(List AV->Prop)->Prop
 |[],K=>K []
 |.tmp t::rest,K=>match(S.get t).eW with|some x=>mq C S rest λxs=>K (x::xs)|none=>False
 |.cell a t::rest,K=>mI C S.aD t (S.get a) λv=>match v.eW with|some x=>mq C S rest λxs=>K (x::xs)|none=>False
def qk (C:Ctx)(S:ag):List ResultVar->(List FV->Prop)->Prop|[],K=>K []|.tmp t::rest,K=>qk C S rest λxs=>K (S.get t::xs)|.cell a t::rest,K=>mI C S.aD t (S.get a) λv=>qk C S rest λxs=>K (v::xs)
def JH:List FV->FV|[v]=>v|vs=>.eS vs
def Ot (C:Ctx)(rs:List ResultVar)(K:FV->ag->Prop):Exit->ag->Prop|.normal,S=>qk C S rs λvs=>S.leave (K (JH vs))|.ret,S=>qk C S rs λvs=>S.leave (K (JH vs))|_,_=>False
def Yw (C:Ctx):Nat->iG|0=>λ_ _ _ _ _=>False|k+1=>λY g args K S=>∃fn,C.P.funcs[g]?=some fn/\fn.body.isSome=true/\(fn.name== "runtime.NumGoroutine")=false/\Nat.ble args.length fn.ntmps=true/\xD C (Yw C k) Y (match fn.body with|some c=>c|none=>.skip) (Ot C fn.results.toList K) (S.enter fn.ntmps (tU args))
def tg:ov:=λ_ _ _ _=>False
def ev (C:Ctx):Code->(Exit->ag->Prop)->ag->Prop:=xD C (Yw C 6) tg
def Yx (S:ag)(o bI:Nat)(K:List (List AV)->Prop):Prop:=∃xss:List (List AV),(∀ys,ys∈xss->ys.length=bI/\∀y,y∈ys->y.one=true)/\(match Ad S.aD o with|some cells=>FV.fQ cells=some xss.flatten|none=>False)/\K xss
def xP (C:Ctx)(rs:List ResultVar)(R:fN->Prop)(S:ag):Prop:=match C.ex.full with
 |true=>qk C S rs λvs=>match FV.tS [] vs with|true=>R (.vf (JH vs))|false=>False
 |false=>match rs with
  |[.tmp t]=>match S.get t with|.gi _ T bI xs=>R (.fresh T bI xs)\/R (.val (.sl xs))|.full []=>(∃T bI,R (.fresh T bI []))\/R (.val (.sl []))|.fu o=>∃ks vs:List AV,Yn S o ks vs/\R (.val (.mp ks vs))|.fT o T bI=>Yx S o bI λxss=>R (.own none T bI xss)|x=>match x.eW with|some y=>R (.val y)|none=>False
  |[.cell a t]=>mI C S.aD t (S.get a) λv=>match v.eW with|some y=>R (.val y)|none=>False
  |.tmp t::r1::rest=>match S.get t with|.fT o T bI=>mq C S (r1::rest) λys=>Yx S o bI λxss=>R (.own (some ys) T bI xss)|_=>mq C S (.tmp t::r1::rest) λxs=>R (.val (.eS xs))
  |rs=>mq C S rs λxs=>R (.val (.eS xs))
def tV (C:Ctx)(rs:List ResultVar)(R:fN->Prop):Exit->ag->Prop|.normal,S=>xP C rs R S|.ret,S=>xP C rs R S|_,_=>False
def Uq (ntmps:Nat)(cells args:List AV):ag:={n:=ntmps,tmps:=tU (.ptr 999999 0::aI args),off:=0,aD:=[(999999,aI cells)],bD:=[],cm:=[],cz:=[]}
def zx (C:Ctx)(rs:List ResultVar)(n:Nat)(R:AV->List AV->Prop)(S:ag):Prop:=qk C S rs λvs=>match(JH vs).eW,getObj S.aD 999999 with
 |some r,some cells=>match FV.fQ cells with|some ys=>Nat.beq ys.length n=true/\R r ys|none=>False
 |_,_=>False
def Ou (C:Ctx)(rs:List ResultVar)(n:Nat)(R:AV->List AV->Prop):Exit->ag->Prop|.normal,S=>zx C rs n R S|.ret,S=>zx C rs n R S|_,_=>False
def Ur (ntmps:Nat)(bs:List UInt8)(args:List AV):ag:={n:=ntmps,tmps:=tU (.ptr 999999 0::aI args),off:=0,aD:=[],bD:=[],cm:=[],cz:=[(999999,bs)]}
def Ov (ntmps:Nat)(aD:List (Nat×List FV))(m:Nat)(l:List (AV×FV))(args:List FV):ag:={n:=ntmps,tmps:=tU args,off:=0,aD:=aD,bD:=[],cm:=[],cz:=[],maps:=[(m,l)]}
def Ht (S:ag):List (Nat×List FV)->Prop|[]=>True|(o,cells)::r=>getObj S.aD o=some cells/\Ht S r
def zy (C:Ctx)(rs:List ResultVar)(aD:List (Nat×List FV))(m:Nat)(R:AV->List (AV×FV)->Prop)(S:ag):Prop:=qk C S rs λvs=>match(JH vs).eW,getM S.maps m with|some r,some l'=>(Ht S aD/\KA (ji aD) m l'=true)/\R r l'|_,_=>False
def Ow (C:Ctx)(rs:List ResultVar)(aD:List (Nat×List FV))(m:Nat)(R:AV->List (AV×FV)->Prop):Exit->ag->Prop|.normal,S=>zy C rs aD m R S|.ret,S=>zy C rs aD m R S|_,_=>False
end Qv
