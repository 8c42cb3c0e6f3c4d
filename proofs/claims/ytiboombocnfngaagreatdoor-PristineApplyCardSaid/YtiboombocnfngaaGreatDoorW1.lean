/- Part 1 of the proof: its lemmas. No condition. -/
import Derived.Tactics
import Derived.KernelRfl
import Derived.Below
import Derived.Deep.Quiet
set_option maxRecDepth 10000
set_option maxHeartbeats 80000000
set_option linter.all false
namespace Qv
open Go
def ay:=@List.getElem?_eq_getElem
def ai:=@decide_eq_false
def aj:=@List.length_map
def ah:=@decide_eq_true
def af:=@if_neg
def ag:=@if_pos
def aI:=@List.getElem?_eq_some_iff
def aq:=@Option.some.inj
def aA:=@List.length_append
def aN:=@Nat.eq_of_beq_eq_true
def aD:=@List.map_append
def aO:=@List.mem_singleton
def aM:=@List.getElem?_map
def bz:=@Array.getElem?_eq_some_iff
def aQ:=@List.getElem_mem
def aR:=@List.length_take
def aB:=@Nat.le_refl
def aV:=@List.take_length
def aW:=@List.length_cons
def aL:=@List.mem_cons
def aJ:=@List.mem_map
def cR:=@List.take_succ_eq_append_getElem
def bq:=@List.append_assoc
def bY:=@List.drop_eq_getElem_cons
def bH:=@Nat.ne_of_beq_eq_false
def bn:=@Bool.and_eq_true
def bh:=@List.append_nil
def bk:=@List.mem_append
def ck:=@List.length_eq_zero_iff
def cF:=@List.getElem?_append_left
def bt:=@List.length_nil
def bW:=@List.mem_of_getElem?
def dr:=@List.getD_eq_getElem?_getD
def bD:=@List.all_eq_true
def bN:=@Option.some.injEq
def cZ:=@List.drop_eq_nil_of_le
def dN:=@List.getElem?_append_right
def bB:=@List.map_cons
def cK:=@Classical.not_not
def cr:=@List.cons_append
def ej:=@List.take_of_length_le
def dG:=@List.mem_cons_of_mem
def dn:=@of_decide_eq_true
def fc:=@List.length_singleton
def aY:=@congrArg
def en:=@List.map_congr_left
def dS:=@List.pairwise_cons
def bK:=@Nat.add_mul
def fH:=@List.take_append_drop
def ef:=@Nat.lt_of_lt_of_le
def cg:=@Nat.le_trans
def gP:=@Nat.eq_of_mul_eq_mul_right
def gB:=@List.take_append_getElem
def fG:=@Nat.mul_le_mul_right
def ek:=@Bool.not_eq_true'
def dL:=@List.length_drop
def iE:=@Classical.byContradiction
def iH:=@List.pairwise_iff_getElem
def dM:=@List.nil_append
def fS:=@List.getElem_of_mem
def fe:=@List.length_range
def eA:=@List.any_eq_true
def jM:=@List.eq_nil_of_length_eq_zero
def eW:=@Option.map_some
def iD:=@Nat.le_of_ble_eq_true
def dF:=@Nat.zero_add
def gz:=@List.ext_getElem?
def fN:=@List.foldl_cons
def iY:=@Array.getElem?_modify
def lD:=@List.mem_of_find?_eq_some
def iX:=@List.getElem?_of_mem
def fO:=@List.mem_range
def fI:=@List.cons.inj
def lC:=@Int.eq_ofNat_of_zero_le
def gQ:=@List.not_mem_nil
def jJ:=@List.mem_append_left
def fL:=@Nat.add_assoc
def jH:=@Array.length_toList
def lq:=@List.length_filter_le
def mI:=@List.getElem?_cons_succ
def fM:=@List.map_nil
def fP:=@List.map_map
def iW:=@Array.toList_inj
def gA:=@Bool.false_or
def jc:=@List.mem_flatMap
def jd:=@Nat.le_of_not_lt
def lB:=@List.flatMap_append
def jG:=@Int.toNat_natCast
def oq:=@Option.isSome_iff_exists
def kM:=@List.getElem?_drop
def gO:=@Bool.true_and
def kX:=@List.mem_cons_self
def mO:=@Bool.or_eq_false_iff
def oe:=@List.getElem?_eq_none
def jL:=@Nat.not_lt_zero
def jN:=@List.find?_some
def th:=@List.take_append_of_le_length
def mN:=@List.foldl_append
def mQ:=@List.flatMap_cons
def kS:=@List.cons.injEq
def tn:=@Array.getElem?_append_left
def mG:=@Nat.mod_eq_of_lt
def mK:=@List.filter_cons
def mP:=@List.cons_ne_nil
def ow:=@List.find?_eq_none
def iF:=@Prod.mk.inj
def tA:=@Array.getElem?_eq_getElem
def lF:=@List.mem_merge
def nU:=@List.flatten_cons
def og:=@List.nodup_append
def ox:=@List.any_eq_false
def jI:=@Nat.beq_refl
def qh:=@List.length_pos_iff
def qt:=@List.getElem?_range
def nW:=@Array.toList_map
def nZ:=@Option.bind_some
def ou:=@Nat.shiftLeft_eq
def tB:=@Option.map_eq_some_iff
def qz:=@List.getElem_range
def qH:=@of_decide_eq_false
def qI:=@List.filter_append
def qQ:=@BitVec.toNat_ofNat
def tj:=@Array.getElem?_toList
def tq:=@List.singleton_append
def om:=@List.mem_filter
def tH:=@List.mem_append_right
def ot:=@Bool.eq_iff_iff
def mJ:=@List.map_take
def eY:=@Ne.symm
def xh:=@List.extract_eq_take_drop
def qA:=@List.getElem_map
def kR:=@Nat.one_mul
def tF:=@List.mem_map_of_mem
def tQ:=@List.flatten_append
def tc:=@Bool.false_eq_true
def qn:=@Bool.or_eq_true
def tM:=@Int.natCast_nonneg
def qw:=@List.sum_append
def tS:=@Nat.add_sub_cancel
def qK:=@List.find?_cons
def nV:=@Nat.add_comm
def De:=@List.drop_append_of_le_length
def DO:=@Nat.shiftLeft_add_eq_or_of_lt
def xg:=@List.extract_toArray
def xk:=@List.mem_of_mem_take
def xy:=@List.getElem?_append
def qq:=@List.sum_cons
def qv:=@List.map_drop
def qG:=@Nat.lt_irrefl
def nR:=@Nat.zero_le
def CV:=@Array.getElem_setIfInBounds
def xd:=@List.take_succ_cons
def xA:=@beq_eq_false_iff_ne
def DB:=@Array.getD_eq_getD_getElem?
def tI:=@List.nodup_cons
def DM:=@Int.fdiv_eq_ediv_of_nonneg
def qi:=@Nat.add_zero
def xx:=@Nat.pos_of_ne_zero
def xC:=@List.mem_filterMap
def xE:=@List.getElem?_take
def xV:=@List.map_singleton
def qL:=@Nat.succ_pos
def tO:=@Bool.false_and
def tU:=@List.nodup_nil
def Dl:=@List.getElem?_take_of_lt
def oc:=@Nat.mod_lt
def Dz:=@Array.setIfInBounds_comm
def xY:=@List.pairwise_map
def tg:=@List.all_cons
def xw:=@Option.getD_some
def Dd:=@List.drop_of_length_le
def Dw:=@Array.getElem?_eq_none
def Dv:=@List.getElem?_toArray
def DG:=@List.contains_iff_mem
def xJ:=@List.any_append
def xL:=@List.range_succ
def xX:=@Nat.min_eq_left
def CY:=@List.range_eq_range'
def Dj:=@List.getElem?_set_ne
def Dq:=@Nat.div_lt_of_lt_mul
def Ds:=@Array.toArray_toList
def Ek:=@List.cons_merge_cons
def xl:=@List.drop_drop
def xH:=@UInt8.toNat_lt
def tw:=@Nat.mul_one
def xD:=@Bool.not_true
def DN:=@Nat.or_lt_two_pow
def DS:=@List.all_eq_false
def Eg:=@List.getElem_take
def Ey:=@Nat.lt_trichotomy
def xu:=@Nat.mul_comm
def xM:=@Bool.true_or
def Df:=@List.map_toArray
def Dt:=@List.mem_flatten
def NQ:=@Array.getElem?_setIfInBounds
def wO:=@Sum.inl.inj
def NK:=@Array.getElem?_append_right
theorem oO {p:Prop}(h:p:=by omega):p:=h
theorem kK {p:Prop}(h:p:=by kernel_rfl):p:=h
theorem dD {p:Prop}(h:p:=by decide):p:=h
theorem zL {n:Nat}:0<=n:=nR n
inductive AV where|bool (b:Bool)|int (k:IntKind)(n:Int)|str (s:List UInt8)|yU|EG|uh|wM|iface (t:TypeId)(x:AV)|agg (xs:List AV)|eN (xs:List AV)|sl (xs:List (List AV))|imp (xs:List AV)|fn (f:Fn)(first captured:List AV)|mp (ks vs:List AV) deriving Inhabited
def AV.one:AV->Bool|.agg _=>false|.eN _=>false|_=>true
def AV.cells:AV->List AV|.agg xs=>xs|x=>[x]
structure qb (es:List MapEntry)(gL:Nat):Prop where
 lt:∀e,e∈es->e.born<gL
 nd:(es.map (·.born)).Nodup
def wN (br:Nat->Nat->Prop)(w w':World):Prop:=∀(b:Nat)(es:Array MapEntry)(k:Nat),br b 0->w.heap[b]?=some (.map es k)->w'.heap[b]?=some (.map es k)
theorem wN.refl (br:Nat->Nat->Prop)(w:World):wN br w w:=λ_ _ _ _ h=>h
inductive dH (br:Nat->Nat->Prop)(w:World):Value->AV->Prop|bool (b:Bool):dH br w (.bool b) (.bool b)|int (k:IntKind)(n:Int):dH br w (.int k n) (.int k n)|str (s:List UInt8):dH br w (.string ⟨s.toArray⟩) (.str s)|yU:dH br w (.pointer none) .yU|EG:dH br w .nilFunc .EG|uh:dH br w .nilIface .uh|wM:dH br w (.map none) .wM|iface (t:TypeId)(v:Value)(x:AV):dH br w v x->dH br w (.iface t v) (.iface t x)|agg (cs:List Value)(xs:List AV):cs.length=xs.length->(∀x,x∈xs->x.one=true)->(∀(i:Nat)(c:Value)(x:AV),cs[i]?=some c->xs[i]?=some x->dH br w c x)->dH br w (.agg cs.toArray) (.agg xs)|eN (cs:List Value)(xs:List AV):cs.length=xs.length->(∀(i:Nat)(c:Value)(x:AV),cs[i]?=some c->xs[i]?=some x->dH br w c x)->dH br w (.tuple cs.toArray) (.eN xs)|Vg (a:Option Addr)(c:Nat):dH br w (.slice a 0 c) (.sl [])|sl (b off c bP:Nat)(xs:List (List AV))(cell:Nat->Nat->Value):(∀(i:Nat)(ys:List AV),xs[i]?=some ys->ys.length=bP)->(∀(i:Nat)(ys:List AV)(j:Nat)(y:AV),xs[i]?=some ys->ys[j]?=some y->y.one=true)->(∀(i:Nat)(ys:List AV)(j:Nat)(y:AV),xs[i]?=some ys->ys[j]?=some y->w.cell? ⟨b,off+i*bP+j,none⟩=some (cell i j))->(∀(i:Nat)(ys:List AV)(j:Nat)(y:AV),xs[i]?=some ys->ys[j]?=some y->br b (off+i*bP+j))->(∀(i:Nat)(ys:List AV)(j:Nat)(y:AV),xs[i]?=some ys->ys[j]?=some y->dH br w (cell i j) y)->xs.length<=c->dH br w (.slice (some ⟨b,off,none⟩) xs.length c) (.sl xs)|imp (b off:Nat)(xs:List AV)(cell:Nat->Value):(∀(j:Nat)(y:AV),xs[j]?=some y->y.one=true)->(∀(j:Nat)(y:AV),xs[j]?=some y->w.cell? ⟨b,off+j,none⟩=some (cell j))->(∀(j:Nat)(y:AV),xs[j]?=some y->br b (off+j))->(∀(j:Nat)(y:AV),xs[j]?=some y->dH br w (cell j) y)->dH br w (.pointer (some ⟨b,off,none⟩)) (.imp xs)|fn (f:Fn)(fs cs:List Value)(first captured:List AV):fs.length=first.length->cs.length=captured.length->(∀(i:Nat)(c:Value)(x:AV),fs[i]?=some c->first[i]?=some x->dH br w c x)->(∀(i:Nat)(c:Value)(x:AV),cs[i]?=some c->captured[i]?=some x->dH br w c x)->dH br w (.func f fs.toArray cs.toArray) (.fn f first captured)|mp (b gL:Nat)(es:List MapEntry)(ks vs:List AV):ks.length=es.length->vs.length=es.length->br b 0->w.heap[b]?=some (.map es.toArray gL)->qb es gL->(∀(i:Nat)(e:MapEntry)(x:AV),es[i]?=some e->ks[i]?=some x->dH br w e.key x)->(∀(i:Nat)(e:MapEntry)(x:AV),es[i]?=some e->vs[i]?=some x->dH br w e.val x)->dH br w (.map (some b)) (.mp ks vs)
theorem dH.keep {br uM:Nat->Nat->Prop}{w w':World}{v:Value}{x:AV}(h:dH br w v x)(hi:∀b o,br b o->uM b o)(hc:∀b o c,br b o->w.cell? ⟨b,o,none⟩=some c->w'.cell? ⟨b,o,none⟩=some c)(hm:wN br w w'):dH uM w' v x:=by
 induction h with
 |bool b=>exact .bool b
 |int k n=>exact .int k n
 |str s=>exact .str s
 |yU=>exact .yU
 |EG=>exact .EG
 |uh=>exact .uh
 |wM=>exact .wM
 |iface t v x _ ih=>exact .iface t v x ih
 |agg cs xs hl ho _ ih=>exact .agg cs xs hl ho λi c x h1 h2=>ih i c x h1 h2
 |eN cs xs hl _ ih=>exact .eN cs xs hl λi c x h1 h2=>ih i c x h1 h2
 |Vg a c=>exact .Vg a c
 |sl b off c bP xs cell h1 h2 h3 h4 _ h6 ih=>exact .sl b off c bP xs cell h1 h2 (λi ys j y a1 a2=>hc _ _ _ (h4 i ys j y a1 a2) (h3 i ys j y a1 a2)) (λi ys j y a1 a2=>hi _ _ (h4 i ys j y a1 a2)) (λi ys j y a1 a2=>ih i ys j y a1 a2) h6
 |imp b off xs cell h2 h3 h4 _ ih=>exact .imp b off xs cell h2 (λj y a2=>hc _ _ _ (h4 j y a2) (h3 j y a2)) (λj y a2=>hi _ _ (h4 j y a2)) (λj y a2=>ih j y a2)
 |fn f fs cs first captured hl hl' _ _ ih GM=>exact .fn f fs cs first captured hl hl' (λi c x h1 h2=>ih i c x h1 h2) (λi c x h1 h2=>GM i c x h1 h2)
 |mp b gL es ks vs h1 h2 h3 h4 h5 _ _ ih GM=>exact .mp b gL es ks vs h1 h2 (hi _ _ h3) (hm _ _ _ h3 h4) h5 (λi c x a1 a2=>ih i c x a1 a2) (λi c x a1 a2=>GM i c x a1 a2)
theorem dH.vR {br uM:Nat->Nat->Prop}{w w':World}{v:Value}{x:AV}(h:dH br w v x)(hc:∀b o c,br b o->w.cell? ⟨b,o,none⟩=some c->uM b o/\w'.cell? ⟨b,o,none⟩=some c)(hm:∀(b:Nat)(es:Array MapEntry)(k:Nat),br b 0->w.heap[b]?=some (.map es k)->uM b 0/\w'.heap[b]?=some (.map es k)):dH uM w' v x:=by
 induction h with
 |bool b=>exact .bool b
 |int k n=>exact .int k n
 |str s=>exact .str s
 |yU=>exact .yU
 |EG=>exact .EG
 |uh=>exact .uh
 |wM=>exact .wM
 |iface t v x _ ih=>exact .iface t v x ih
 |agg cs xs hl ho _ ih=>exact .agg cs xs hl ho λi c x h1 h2=>ih i c x h1 h2
 |eN cs xs hl _ ih=>exact .eN cs xs hl λi c x h1 h2=>ih i c x h1 h2
 |Vg a c=>exact .Vg a c
 |sl b off c bP xs cell h1 h2 h3 h4 _ h6 ih=>exact .sl b off c bP xs cell h1 h2 (λi ys j y a1 a2=>(hc _ _ _ (h4 i ys j y a1 a2) (h3 i ys j y a1 a2)).2) (λi ys j y a1 a2=>(hc _ _ _ (h4 i ys j y a1 a2) (h3 i ys j y a1 a2)).1) (λi ys j y a1 a2=>ih i ys j y a1 a2) h6
 |imp b off xs cell h2 h3 h4 _ ih=>exact .imp b off xs cell h2 (λj y a2=>(hc _ _ _ (h4 j y a2) (h3 j y a2)).2) (λj y a2=>(hc _ _ _ (h4 j y a2) (h3 j y a2)).1) (λj y a2=>ih j y a2)
 |fn f fs cs first captured hl hl' _ _ ih GM=>exact .fn f fs cs first captured hl hl' (λi c x h1 h2=>ih i c x h1 h2) (λi c x h1 h2=>GM i c x h1 h2)
 |mp b gL es ks vs h1 h2 h3 h4 h5 _ _ ih GM=>exact .mp b gL es ks vs h1 h2 (hm _ _ _ h3 h4).1 (hm _ _ _ h3 h4).2 h5 (λi c x a1 a2=>ih i c x a1 a2) (λi c x a1 a2=>GM i c x a1 a2)
inductive FV where|p (x:AV)|agg (xs:List FV)|eN (xs:List FV)|ptr (o off:Nat)|gd (t:Nat)(T:TypeId)(bP:Nat)(xs:List (List AV))|full (xs:List (List AV))|fn (f:Fn)(first captured:List FV)|mh (l:Nat)|gH (o:Nat)(T:TypeId)(bP:Nat)|uK (o base:Nat)(T:TypeId)(bP:Nat)|gV (o base off:Nat)|gw (o:Nat)|Ay (q:Nat)|dW deriving Inhabited
abbrev Nm:=Nat⊕(Nat×Nat)
instance:Coe Nat Nm:=⟨Sum.inl⟩
theorem Ze {i d:Nat}(h:i≠d):(Sum.inl i:Nm)≠Sum.inl d:=λe=>h (wO e)
structure bl where
 br:Nat->Nat->Prop
 loc:Nat->Option Nat
 tail:Nm->Option (Nat×Nat×Nat×TypeId)
 yl:Nat->Option Nat
 row:Nat->Option Nat
 mp:Nat->Option Nat
 it:Nat->Option Nat
inductive aU (G:bl)(w:World):Value->FV->Prop|p (v:Value)(x:AV):dH G.br w v x->aU G w v (.p x)|agg (cs:List Value)(xs:List FV):cs.length=xs.length->(∀(i:Nat)(c:Value)(x:FV),cs[i]?=some c->xs[i]?=some x->aU G w c x)->aU G w (.agg cs.toArray) (.agg xs)|eN (cs:List Value)(xs:List FV):cs.length=xs.length->(∀(i:Nat)(c:Value)(x:FV),cs[i]?=some c->xs[i]?=some x->aU G w c x)->aU G w (.tuple cs.toArray) (.eN xs)|ptr (o off b:Nat):G.loc o=some b->aU G w (.pointer (some ⟨b,off,none⟩)) (.ptr o off)|gd (t:Nat)(T:TypeId)(bP:Nat)(xs:List (List AV))(a:Option Addr)(c:Nat):dH G.br w (.slice a xs.length c) (.sl xs)->((xs=[]/\c=0)\/∃b off,a=some ⟨b,off,none⟩/\(∀ys,ys∈xs->ys.length=bP)/\G.tail t=some (b,off+xs.length*bP,off+c*bP,T))->aU G w (.slice a xs.length c) (.gd t T bP xs)|full (xs:List (List AV))(a:Option Addr):dH G.br w (.slice a xs.length xs.length) (.sl xs)->aU G w (.slice a xs.length xs.length) (.full xs)|fn (f:Fn)(fs cs:List Value)(first captured:List FV):fs.length=first.length->cs.length=captured.length->(∀(i:Nat)(c:Value)(x:FV),fs[i]?=some c->first[i]?=some x->aU G w c x)->(∀(i:Nat)(c:Value)(x:FV),cs[i]?=some c->captured[i]?=some x->aU G w c x)->aU G w (.func f fs.toArray cs.toArray) (.fn f first captured)|mh (l k:Nat):G.yl l=some k->aU G w (.func (.yield k) #[] #[]) (.mh l)|gH (o:Nat)(T:TypeId)(bP n c b:Nat):G.loc o=some b->G.tail o=some (b,n*bP,c*bP,T)->n<=c->0<bP->aU G w (.slice (some ⟨b,0,none⟩) n c) (.gH o T bP)|uK (o base:Nat)(T:TypeId)(bP n c b off:Nat):G.loc o=some b->G.tail o=some (b,n*bP,c*bP,T)->base<=n/\(base<c->off=base*bP)->n<=c->0<bP->aU G w (.slice (some ⟨b,off,none⟩) (n-base) (c-base)) (.uK o base T bP)|gV (o base off b:Nat):G.loc o=some b->aU G w (.pointer (some ⟨b,base+off,none⟩)) (.gV o base off)|gw (o b:Nat):G.mp o=some b->aU G w (.map (some b)) (.gw o)|Ay (q r:Nat):G.it q=some r->aU G w (.pointer (some ⟨r,0,none⟩)) (.Ay q)|dW (v:Value):aU G w v .dW
theorem aU.keep {G G':bl}{w w':World}{v:Value}{x:FV}(h:aU G w v x)(hi:∀b o,G.br b o->G'.br b o)(hc:∀b o c,G.br b o->w.cell? ⟨b,o,none⟩=some c->w'.cell? ⟨b,o,none⟩=some c)(hm:wN G.br w w')(hl:∀o b,G.loc o=some b->G'.loc o=some b)(ht:∀(t:Nat) r,G.tail t=some r->G'.tail t=some r)(hy:∀l k,G.yl l=some k->G'.yl l=some k:=by intro _ _ h;exact h)(hmp:∀o b,G.mp o=some b->G'.mp o=some b:=by intro _ _ h;exact h)(hit:∀o b,G.it o=some b->G'.it o=some b:=by intro _ _ h;exact h):aU G' w' v x:=by
 induction h with
 |p v x h=>exact .p v x (h.keep hi hc hm)
 |agg cs xs hn _ ih=>exact .agg cs xs hn λi c x h1 h2=>ih i c x h1 h2
 |eN cs xs hn _ ih=>exact .eN cs xs hn λi c x h1 h2=>ih i c x h1 h2
 |ptr o off b h=>exact .ptr o off b (hl _ _ h)
 |gd t T bP xs a c h1 h2=>refine .gd t T bP xs a c (h1.keep hi hc hm) ?_;grind
 |full xs a h=>exact .full xs a (h.keep hi hc hm)
 |fn f fs cs first captured hn hn' _ _ ih GM=>exact .fn f fs cs first captured hn hn' (λi c x h1 h2=>ih i c x h1 h2) (λi c x h1 h2=>GM i c x h1 h2)
 |mh l k h=>exact .mh l k (hy _ _ h)
 |gH o T bP n c b h1 h2 h3 h4=>exact .gH o T bP n c b (hl _ _ h1) (ht _ _ h2) h3 h4
 |uK o x T bP n c b off h1 h2 h0 h3 h4=>exact .uK o x T bP n c b off (hl _ _ h1) (ht _ _ h2) h0 h3 h4
 |gV o base off b h=>exact .gV o base off b (hl _ _ h)
 |gw o b h=>exact .gw o b (hmp _ _ h)
 |Ay q r h=>exact .Ay q r (hit _ _ h)
 |dW v=>exact .dW v
theorem aU.vR {G G':bl}{w w':World}{v:Value}{x:FV}(h:aU G w v x)(hc:∀b o c,G.br b o->w.cell? ⟨b,o,none⟩=some c->G'.br b o/\w'.cell? ⟨b,o,none⟩=some c)(hm:∀(b:Nat)(es:Array MapEntry)(k:Nat),G.br b 0->w.heap[b]?=some (.map es k)->G'.br b 0/\w'.heap[b]?=some (.map es k))(hl:∀o b,G.loc o=some b->G'.loc o=some b)(ht:∀(t:Nat) r,G.tail t=some r->G'.tail t=some r)(hy:∀l k,G.yl l=some k->G'.yl l=some k:=by intro _ _ h;exact h)(hmp:∀o b,G.mp o=some b->G'.mp o=some b:=by intro _ _ h;exact h)(hit:∀o b,G.it o=some b->G'.it o=some b:=by intro _ _ h;exact h):aU G' w' v x:=by
 induction h with
 |p v x h=>exact .p v x (h.vR hc hm)
 |agg cs xs hn _ ih=>exact .agg cs xs hn λi c x h1 h2=>ih i c x h1 h2
 |eN cs xs hn _ ih=>exact .eN cs xs hn λi c x h1 h2=>ih i c x h1 h2
 |ptr o off b h=>exact .ptr o off b (hl _ _ h)
 |gd t T bP xs a c h1 h2=>refine .gd t T bP xs a c (h1.vR hc hm) ?_;grind
 |full xs a h=>exact .full xs a (h.vR hc hm)
 |fn f fs cs first captured hn hn' _ _ ih GM=>exact .fn f fs cs first captured hn hn' (λi c x h1 h2=>ih i c x h1 h2) (λi c x h1 h2=>GM i c x h1 h2)
 |mh l k h=>exact .mh l k (hy _ _ h)
 |gH o T bP n c b h1 h2 h3 h4=>exact .gH o T bP n c b (hl _ _ h1) (ht _ _ h2) h3 h4
 |uK o x T bP n c b off h1 h2 h0 h3 h4=>exact .uK o x T bP n c b off (hl _ _ h1) (ht _ _ h2) h0 h3 h4
 |gV o base off b h=>exact .gV o base off b (hl _ _ h)
 |gw o b h=>exact .gw o b (hmp _ _ h)
 |Ay q r h=>exact .Ay q r (hit _ _ h)
 |dW v=>exact .dW v
mutual def FV.kill (d:Nat):FV->FV
 |.ptr o off=>match Nat.beq o d with|true=>.dW|false=>.ptr o off
 |.gd t T e xs=>match Nat.beq t d with|true=>.p (.sl xs)|false=>.gd t T e xs
 |.agg xs=>.agg (FV.fu d xs)
 |.eN xs=>.eN (FV.fu d xs)
 |.fn f first captured=>.fn f (FV.fu d first) (FV.fu d captured)
 |.p x=>.p x
 |.full xs=>.full xs
 |.mh l=>match Nat.beq l d with|true=>.dW|false=>.mh l
 |.gH o T e=>match Nat.beq o d with|true=>.dW|false=>.gH o T e
 |.uK o x T e=>match Nat.beq o d with|true=>.dW|false=>.uK o x T e
 |.gV o b off=>match Nat.beq o d with|true=>.dW|false=>.gV o b off
 |.gw o=>match Nat.beq o d with|true=>.dW|false=>.gw o
 |.Ay o=>match Nat.beq o d with|true=>.dW|false=>.Ay o
 |.dW=>.dW def FV.fu (d:Nat):List FV->List FV|[]=>[]|x::xs=>FV.kill d x::FV.fu d xs end
theorem FV.fT (d:Nat)(xs:List FV):FV.fu d xs=xs.map (FV.kill d):=by
 induction xs with
 |nil=>rfl
 |cons x xs ih=>simp[FV.fu,ih]
theorem aU.kill {G G':bl}{w:World}{v:Value}{x:FV}(d:Nat)(h:aU G w v x)(hi:G'.br=G.br)(hl:∀o b,o≠d->G.loc o=some b->G'.loc o=some b)(ht:∀(t:Nat) r,t≠d->G.tail t=some r->G'.tail t=some r)(hy:∀l k,l≠d->G.yl l=some k->G'.yl l=some k:=by intro _ _ _ h;exact h)(hmp:∀o b,o≠d->G.mp o=some b->G'.mp o=some b:=by intro _ _ _ h;exact h)(hit:∀o b,o≠d->G.it o=some b->G'.it o=some b:=by intro _ _ _ h;exact h):aU G' w v (x.kill d):=by
 induction h with
 |p v x h=>exact .p v x (hi▸h)
 |agg cs xs hn _ ih=>simp only[FV.kill,FV.fT];refine .agg cs _ (by simp_all) λi c x h1 h2=>?_;grind
 |eN cs xs hn _ ih=>simp only[FV.kill,FV.fT];refine .eN cs _ (by simp_all) λi c x h1 h2=>?_;grind
 |ptr o off b h=>simp only[FV.kill];split;exact .dW _;rename_i hb;exact .ptr o off b (hl o b (bH hb) h)
 |gd t T bP xs a c h1 h2=>simp only[FV.kill];split;exact .p _ _ (hi▸h1);rename_i hb;refine .gd t T bP xs a c (hi▸h1) ?_;rcases h2 with h2|⟨b,off,e1,e2,e3⟩;simp_all;exact .inr ⟨b,off,e1,e2,ht _ _ (bH hb) e3⟩
 |full xs a h=>exact .full xs a (hi▸h)
 |fn f fs cs first captured hn hn' _ _ ih GM=>simp only[FV.kill,FV.fT];refine .fn f fs cs _ _ (by simp_all) (by simp_all) (λi c x h1 h2=>?_) (λi c x h1 h2=>?_);grind;grind
 |mh l k h=>simp only[FV.kill];split;exact .dW _;rename_i hb;exact .mh l k (hy l k (bH hb) h)
 |gH o T bP n c b h1 h2 h3 h4=>simp only[FV.kill];split;exact .dW _;rename_i hb;have hne:=bH hb;exact .gH o T bP n c b (hl o b hne h1) (ht o _ hne h2) h3 h4
 |uK o x T bP n c b off h1 h2 h0 h3 h4=>simp only[FV.kill];split;exact .dW _;rename_i hb;have hne:=bH hb;exact .uK o x T bP n c b off (hl o b hne h1) (ht o _ hne h2) h0 h3 h4
 |gV o base off b h=>simp only[FV.kill];split;exact .dW _;rename_i hb;exact .gV o base off b (hl o b (bH hb) h)
 |gw o b h=>simp only[FV.kill];split;exact .dW _;rename_i hb;exact .gw o b (hmp o b (bH hb) h)
 |Ay o b h=>simp only[FV.kill];split;exact .dW _;rename_i hb;exact .Ay o b (hit o b (bH hb) h)
 |dW v=>exact .dW v
mutual def FV.fA:FV->Option AV
 |.p x=>some x
 |.gd _ _ _ xs=>some (.sl xs)
 |.full xs=>some (.sl xs)
 |.agg xs=>match FV.gx xs with
  |some ys=>match ys.all AV.one with|true=>some (.agg ys)|false=>none
  |none=>none
 |.eN xs=>match FV.gx xs with|some ys=>some (.eN ys)|none=>none
 |.fn f first captured=>match FV.gx first with
  |some a=>match FV.gx captured with|some b=>some (.fn f a b)|none=>none
  |none=>none
 |.ptr _ _=>none
 |.mh _=>none
 |.gH _ _ _=>none
 |.uK _ _ _ _=>none
 |.gV _ _ _=>none
 |.gw _=>none
 |.Ay _=>none
 |.dW=>none def FV.gx:List FV->Option (List AV)
 |[]=>some []
 |x::xs=>match FV.fA x with
  |some y=>match FV.gx xs with|some ys=>some (y::ys)|none=>none
  |none=>none end
theorem FV.jk {xs:List FV}{ys:List AV}(h:FV.gx xs=some ys):ys.length=xs.length/\∀(i:Nat)(y:AV),ys[i]?=some y->∃x,xs[i]?=some x/\x.fA=some y:=by
 induction xs generalizing ys with
 |nil=>simp[FV.gx]at h;simp_all
 |cons x xs ih=>simp only[FV.gx]at h;grind
theorem aU.fA {G:bl}{w:World}{v:Value}{x:FV}(h:aU G w v x):∀{y:AV},x.fA=some y->dH G.br w v y:=by
 induction h with
 |p v x h=>intro y hy;simp only[FV.fA,bN]at hy;simp_all
 |agg cs xs hn _ ih=>intro y hy;simp only[FV.fA]at hy;split at hy;rename_i ys hys;split at hy;rename_i hall;obtain rfl:=aq hy;obtain⟨h1,h2⟩:=FV.jk hys;refine .agg cs ys oO (λx hx=>bD.1 hall x hx) λi c x hc hx=>?_;grind;simp_all;simp_all
 |eN cs xs hn _ ih=>intro y hy;simp only[FV.fA]at hy;split at hy;rename_i ys hys;obtain rfl:=aq hy;obtain⟨h1,h2⟩:=FV.jk hys;refine .eN cs ys oO λi c x hc hx=>?_;grind;simp_all
 |ptr o off b h=>intro y hy;simp[FV.fA]at hy
 |gd t T bP xs a c h1 h2=>intro y hy;simp only[FV.fA,bN]at hy;simp_all
 |full xs a h=>intro y hy;simp only[FV.fA,bN]at hy;simp_all
 |fn f fs cs first captured hn hn' _ _ ih GM=>intro y hy;simp only[FV.fA]at hy;split at hy;rename_i ys hys;split at hy;rename_i zs hzs;obtain rfl:=aq hy;obtain⟨h1,h2⟩:=FV.jk hys;obtain⟨h3,h4⟩:=FV.jk hzs;refine .fn f fs cs ys zs oO oO (λi c x hc hx=>?_) (λi c x hc hx=>?_);grind;grind;simp_all;simp_all
 |mh l k h=>intro y hy;simp[FV.fA]at hy
 |gH o T bP n c b h1 h2 h3 h4=>intro y hy;simp[FV.fA]at hy
 |uK o x T bP n c b off h1 h2 h0 h3 h4=>intro y hy;simp[FV.fA]at hy
 |gV o base off b h=>intro y hy;simp[FV.fA]at hy
 |gw o b h=>intro y hy;simp[FV.fA]at hy
 |Ay o b h=>intro y hy;simp[FV.fA]at hy
 |dW v=>intro y hy;simp[FV.fA]at hy
mutual def FV.fz (d:Nat)(ys:List AV):FV->FV
 |.ptr o off=>match Nat.beq o d with|true=>.p (.imp (ys.drop off))|false=>.ptr o off
 |.gd t T e xs=>.gd t T e xs
 |.agg xs=>.agg (FV.SJ d ys xs)
 |.eN xs=>.eN (FV.SJ d ys xs)
 |.fn f first captured=>.fn f (FV.SJ d ys first) (FV.SJ d ys captured)
 |.p x=>.p x
 |.full xs=>.full xs
 |.mh l=>.mh l
 |.gH o T e=>match Nat.beq o d with|true=>.dW|false=>.gH o T e
 |.uK o x T e=>match Nat.beq o d with|true=>.dW|false=>.uK o x T e
 |.gV o b off=>match Nat.beq o d with|true=>.dW|false=>.gV o b off
 |.gw o=>.gw o
 |.Ay o=>.Ay o
 |.dW=>.dW def FV.SJ (d:Nat)(ys:List AV):List FV->List FV|[]=>[]|x::xs=>FV.fz d ys x::FV.SJ d ys xs end
theorem FV.vF (d:Nat)(ys:List AV)(xs:List FV):FV.SJ d ys xs=xs.map (FV.fz d ys):=by
 induction xs with
 |nil=>rfl
 |cons x xs ih=>simp[FV.SJ,ih]
theorem Nh {R:Value->FV->Prop}{d:Nat}{ys:List AV}{cs:List Value}{xs:List FV}(ih:∀(i:Nat)(c:Value)(x:FV),cs[i]?=some c->xs[i]?=some x->R c (x.fz d ys)):∀(i:Nat)(c:Value)(x:FV),cs[i]?=some c->(FV.SJ d ys xs)[i]?=some x->R c x:=λi c x h1 h2=>by rw[FV.vF,aM]at h2;grind
theorem aU.fz {G G':bl}{w:World}{v:Value}{x:FV}{d B:Nat}{ys:List AV}(h:aU G w v x)(hi:∀b o,G.br b o->G'.br b o)(hB:∀b,G.loc d=some b->b=B)(hc:∀(j:Nat)(y:AV),ys[j]?=some y->y.one=true/\G'.br B j/\∃c,w.cell? ⟨B,j,none⟩=some c/\dH G'.br w c y)(hl:∀o b,o≠d->G.loc o=some b->G'.loc o=some b)(ht:∀(t:Nat) r,G.tail t=some r->G'.tail t=some r)(hy:∀l k,G.yl l=some k->G'.yl l=some k:=by intro _ _ h;exact h)(hmp:∀o b,G.mp o=some b->G'.mp o=some b:=by intro _ _ h;exact h)(hit:∀o b,G.it o=some b->G'.it o=some b:=by intro _ _ h;exact h):aU G' w v (x.fz d ys):=by
 induction h with
 |p v x h=>exact .p v x (h.keep hi (λ_ _ _ _ h=>h) (.refl _ _))
 |agg cs xs hn _ ih=>exact .agg cs _ (by simpa[FV.vF]using hn) (Nh ih)
 |eN cs xs hn _ ih=>exact .eN cs _ (by simpa[FV.vF]using hn) (Nh ih)
 |ptr o off b h=>
  simp only[FV.fz];split
  ·rename_i hb;obtain rfl:=aN hb;obtain rfl:=hB b h;refine .p _ _ (.imp b off _ (λj=>(w.cell? ⟨b,off+j,none⟩).getD undef) ?_ ?_ ?_ ?_);all_goals intro j y hj;rw[kM]at hj;obtain⟨h1,h2,c,h3,h4⟩:=hc _ _ hj
   exact h1;rw[h3];rfl;exact h2;rw[h3];exact h4
  rename_i hb;exact .ptr o off b (hl o b (bH hb) h)
 |gd t T bP xs a c h1 h2=>refine .gd t T bP xs a c (h1.keep hi (λ_ _ _ _ h=>h) (.refl _ _)) ?_;grind
 |full xs a h=>exact .full xs a (h.keep hi (λ_ _ _ _ h=>h) (.refl _ _))
 |fn f fs cs first captured hn hn' _ _ ih GM=>exact .fn f fs cs _ _ (by simpa[FV.vF]using hn) (by simpa[FV.vF]using hn') (Nh ih) (Nh GM)
 |mh l k h=>exact .mh l k (hy _ _ h)
 |gH o T bP n c b h1 h2 h3 h4=>simp only[FV.fz];split;exact .dW _;rename_i hb;have hne:=bH hb;exact .gH o T bP n c b (hl o b hne h1) (ht o _ h2) h3 h4
 |uK o x T bP n c b off h1 h2 h0 h3 h4=>simp only[FV.fz];split;exact .dW _;rename_i hb;have hne:=bH hb;exact .uK o x T bP n c b off (hl o b hne h1) (ht o _ h2) h0 h3 h4
 |gV o base off b h=>simp only[FV.fz];split;exact .dW _;rename_i hb;exact .gV o base off b (hl o b (bH hb) h)
 |gw o b h=>exact .gw o b (hmp _ _ h)
 |Ay o b h=>exact .Ay o b (hit _ _ h)
 |dW v=>exact .dW v
mutual def FV.fm (d:Nat)(x:AV):FV->FV
 |.gw o=>match Nat.beq o d with|true=>.p x|false=>.gw o
 |.ptr o off=>.ptr o off
 |.gd t T e xs=>.gd t T e xs
 |.agg xs=>.agg (FV.YO d x xs)
 |.eN xs=>.eN (FV.YO d x xs)
 |.fn f first captured=>.fn f (FV.YO d x first) (FV.YO d x captured)
 |.p y=>.p y
 |.full xs=>.full xs
 |.mh l=>.mh l
 |.gH o T e=>.gH o T e
 |.uK o x T e=>.uK o x T e
 |.gV o b off=>.gV o b off
 |.Ay o=>.Ay o
 |.dW=>.dW def FV.YO (d:Nat)(x:AV):List FV->List FV|[]=>[]|y::ys=>FV.fm d x y::FV.YO d x ys end
theorem FV.wP (d:Nat)(y:AV)(xs:List FV):FV.YO d y xs=xs.map (FV.fm d y):=by
 induction xs with
 |nil=>rfl
 |cons x xs ih=>simp[FV.YO,ih]
theorem Ni {R:Value->FV->Prop}{d:Nat}{z:AV}{cs:List Value}{xs:List FV}(ih:∀(i:Nat)(c:Value)(x:FV),cs[i]?=some c->xs[i]?=some x->R c (x.fm d z)):∀(i:Nat)(c:Value)(x:FV),cs[i]?=some c->(FV.YO d z xs)[i]?=some x->R c x:=λi c x h1 h2=>by rw[FV.wP,aM]at h2;grind
theorem aU.fm {G G':bl}{w:World}{v:Value}{x:FV}{d:Nat}{z:AV}(h:aU G w v x)(hi:∀b o,G.br b o->G'.br b o)(hz:∀b,G.mp d=some b->dH G'.br w (.map (some b)) z)(hl:∀o b,G.loc o=some b->G'.loc o=some b)(ht:∀(t:Nat) r,G.tail t=some r->G'.tail t=some r)(hy:∀l k,G.yl l=some k->G'.yl l=some k)(hmp:∀o b,o≠d->G.mp o=some b->G'.mp o=some b)(hit:∀o b,G.it o=some b->G'.it o=some b):aU G' w v (x.fm d z):=by
 induction h with
 |p v x h=>exact .p v x (h.keep hi (λ_ _ _ _ h=>h) (.refl _ _))
 |agg cs xs hn _ ih=>exact .agg cs _ (by simpa[FV.wP]using hn) (Ni ih)
 |eN cs xs hn _ ih=>exact .eN cs _ (by simpa[FV.wP]using hn) (Ni ih)
 |ptr o off b h=>exact .ptr o off b (hl _ _ h)
 |gd t T bP xs a c h1 h2=>refine .gd t T bP xs a c (h1.keep hi (λ_ _ _ _ h=>h) (.refl _ _)) ?_;grind
 |full xs a h=>exact .full xs a (h.keep hi (λ_ _ _ _ h=>h) (.refl _ _))
 |fn f fs cs first captured hn hn' _ _ ih GM=>exact .fn f fs cs _ _ (by simpa[FV.wP]using hn) (by simpa[FV.wP]using hn') (Ni ih) (Ni GM)
 |mh l k h=>exact .mh l k (hy _ _ h)
 |gH o T bP n c b h1 h2 h3 h4=>exact .gH o T bP n c b (hl _ _ h1) (ht _ _ h2) h3 h4
 |uK o x T bP n c b off h1 h2 h0 h3 h4=>exact .uK o x T bP n c b off (hl _ _ h1) (ht _ _ h2) h0 h3 h4
 |gV o base off b h=>exact .gV o base off b (hl _ _ h)
 |gw o b h=>simp only[FV.fm];split;rename_i hb;obtain rfl:=aN hb;exact .p _ _ (hz b h);rename_i hb;exact .gw o b (hmp o b (bH hb) h)
 |Ay o b h=>exact .Ay o b (hit _ _ h)
 |dW v=>exact .dW v
def Ls:Nat->Option (List AV):=λ_=>none
def qc (br:Nat->Nat->Prop)(w:World):Prop:=∀(g:Nat)(xs:List AV),Ls g=some xs->dH br w (.pointer (some ⟨g,0,none⟩)) (.imp xs)
end Qv
namespace Qv
universe u
open Go
inductive Shape where|int (k:IntKind)|bool|str|slice (e:TypeId)|struct (fs:List (Nat×TypeId))|array (n:Nat)(e:TypeId)|map (k e:TypeId)|ptr (e:TypeId)|iface|func|other deriving Inhabited
def Shape.isAgg:Shape->Bool|.struct _=>true|.array _ _=>true|_=>false
structure jV where
 size:Nat
 bytes:Nat
 shape:Shape
 zero:List Value deriving Inhabited
def shapeOf:TypeDesc->Shape|.bool=>.bool|.int k=>.int k|.string=>.str|.pointer e=>.ptr e|.slice e=>.slice e|.array n e=>.array n e|.map k e=>.map k e|.struct fs=>.struct (fs.toList.map λf=>(f.offset,f.type))|.func _ _ _=>.func|.interface _=>.iface|_=>.other
structure gj (P:Program)(t:TypeId)(i:jV):Prop where
 info:(P.info? t).map (λinf=>(inf.size,inf.bytes,inf.zero.map λv=>v.cells.toList))=some (i.size,i.bytes,some i.zero)
 und:(P.underlying t).map shapeOf=some i.shape
 len:i.zero.length=i.size
structure Extra where
 opens:List Nat
 Nj:List Nat
 full:Bool
 inl:List FuncId:=[]
 frm:List Nat:=[]
 fzo:List Nat:=[]
 Nk:List (Nat×(TypeId×Nat×Option AV)):=[]
 rmr:List Nat:=[]
 rel:List FuncId:=[]
structure Ctx where
 P:Program
 jE:List (TypeId×jV)
 afE:∀t i,(t,i)∈jE->gj P t i
 J:World->Prop
 nt:Nat
 mixed:P.follows .mixedOrders=true
 bT:TypeId
 bE:TypeId
 agn:∀w w':World,(∀k,k<nt->w'.heap[k]?=w.heap[k]?)->J w->J w'
 aia:List Nat
 ex:Extra
def Ctx.cut (C:Ctx)(l:List Nat):Ctx:={C with aia:=l}
def Ctx.open (C:Ctx)(e:Extra):Ctx:={C with ex:=e}
def bV:List (TypeId×jV)->TypeId->Option jV|[],_=>none|(u,i)::r,t=>match Nat.beq u t with|true=>some i|false=>bV r t
inductive dJ where|val (x:AV)|fresh (T:TypeId)(bP:Nat)(xs:List (List AV))|vf (x:FV)|own (rest:Option (List AV))(T:TypeId)(bP:Nat)(xss:List (List AV))
def ago (rest:Option (List AV))(s:Value)(us:List Value):Value:=match rest with|none=>s|some _=>.tuple (s::us).toArray
def Zf (br:Nat->Nat->Prop)(B b:Nat):Nat->Nat->Prop:=λb' o=>br b' o\/(B<=b'/\b'≠b)
def bare (br:Nat->Nat->Prop):bl:=⟨br,λ_=>none,λ_=>none,λ_=>none,λ_=>none,λ_=>none,λ_=>none⟩
def lT (br:Nat->Nat->Prop)(B:Nat):Nat->Nat->Prop:=λb o=>br b o\/B<=b
def oz (br:Nat->Nat->Prop)(B:Nat)(w':World)(v:Value):dJ->Prop|.val x=>dH (lT br B) w' v x|.fresh T bP xs=>∃a c,v=.slice a xs.length c/\((xs=[]/\c=0/\dH (lT br B) w' v (.sl xs))\/∃b off cs fr,a=some ⟨b,off,none⟩/\B<=b/\b<w'.heap.size/\(∀ys,ys∈xs->ys.length=bP)/\w'.heap[b]?=some (.cells cs T fr)/\(∀i,off+xs.length*bP<=i->i<off+c*bP->(∃u,w'.cell? ⟨b,i,none⟩=some u)/\w'.frozen? ⟨b,i,none⟩=false)/\dH (λb' o=>br b' o\/(B<=b'/\¬(b'=b/\off+xs.length*bP<=o/\o<off+c*bP))) w' v (.sl xs))|.vf x=>aU (bare (lT br B)) w' v x|.own rest T bP xss=>∃(b c:Nat) (cs:Array Value) (fr:Nat×Nat) (us:List Value),v=ago rest (.slice (some ⟨b,0,none⟩) xss.length c) us/\B<=b/\b<w'.heap.size/\0<bP/\xss.length<=c/\(∀ys,ys∈xss->ys.length=bP/\∀y,y∈ys->y.one=true)/\w'.heap[b]?=some (.cells cs T fr)/\(∀i,w'.frozen? ⟨b,i,none⟩=false)/\(∀i,i<c*bP->∃u,w'.cell? ⟨b,i,none⟩=some u)/\(∀(i:Nat)(x:AV),xss.flatten[i]?=some x->∃u,w'.cell? ⟨b,i,none⟩=some u/\dH (Zf br B b) w' u x)/\∀r,rest=some r->us.length=r.length/\∀(i:Nat)(u:Value)(x:AV),us[i]?=some u->r[i]?=some x->dH (Zf br B b) w' u x
def av (C:Ctx)(f:FuncId)(args:List AV)(R:dJ->Prop):Prop:=(∃fn,C.P.funcs[f]?=some fn/\fn.body.isNone=false/\(fn.name== "runtime.NumGoroutine")=false)/\∀(br:Nat->Nat->Prop)(w:World)(vs:List Value),C.J w/\qc br w->C.nt<=w.heap.size->(∀b o,br b o->b<w.heap.size)->vs.length=args.length->(∀(i:Nat)(v:Value)(x:AV),vs[i]?=some v->args[i]?=some x->dH br w v x)->Calls C.P f vs.toArray w λe w'=>∃v r,e=.returned v/\R r/\oz br w.heap.size w' v r/\RowKit.Below w.heap.size w w'
def HH (C:Ctx)(f:FuncId)(cells args:List AV)(R:AV->List AV->Prop):Prop:=(∃fn,C.P.funcs[f]?=some fn/\fn.body.isNone=false/\(fn.name== "runtime.NumGoroutine")=false)/\∀(br:Nat->Nat->Prop)(w:World)(b:Nat)(vs:List Value),C.J w/\qc br w->C.nt<=w.heap.size->(∀b o,br b o->b<w.heap.size)->C.nt<=b->b<w.heap.size->(∀i,¬br b i/\w.frozen? ⟨b,i,none⟩=false)->(∀(i:Nat)(x:AV),cells[i]?=some x->∃c,w.cell? ⟨b,i,none⟩=some c/\dH br w c x)->vs.length=args.length->(∀(i:Nat)(v:Value)(x:AV),vs[i]?=some v->args[i]?=some x->dH br w v x)->Calls C.P f (.pointer (some ⟨b,0,none⟩)::vs).toArray w λe w'=>∃v r cells',e=.returned v/\R r cells'/\cells'.length=cells.length/\dH (lT br w.heap.size) w' v r/\(∀(i:Nat)(x:AV),cells'[i]?=some x->∃c,w'.cell? ⟨b,i,none⟩=some c/\dH (lT br w.heap.size) w' c x)/\w'.os=w.os/\w'.tape=w.tape/\w'.output=w.output/\w.heap.size<=w'.heap.size/\(∀k,k<w.heap.size->k≠b->w'.heap[k]?=w.heap[k]?)/\(∀cs T fr,w.heap[b]?=some (.cells cs T fr)->∃cs',w'.heap[b]?=some (.cells cs' T fr)/\cs'.size=cs.size)
def Zg (C:Ctx)(f:FuncId)(T:TypeId)(bP:Nat)(cells args:List AV)(R:Bool->List AV->Prop):Prop:=(∃fn,C.P.funcs[f]?=some fn/\fn.body.isNone=false/\(fn.name== "runtime.NumGoroutine")=false)/\∀(br:Nat->Nat->Prop)(w:World)(b n c:Nat)(vs:List Value),C.J w/\qc br w->C.nt<=w.heap.size->(∀b o,br b o->b<w.heap.size)->C.nt<=b->b<w.heap.size->(∀i,¬br b i/\w.frozen? ⟨b,i,none⟩=false)->(∃cs fr,w.heap[b]?=some (.cells cs T fr))->cells.length=n*bP->n<=c->0<bP->(∀(i:Nat)(x:AV),cells[i]?=some x->∃c,w.cell? ⟨b,i,none⟩=some c/\dH br w c x)->vs.length=args.length->(∀(i:Nat)(v:Value)(x:AV),vs[i]?=some v->args[i]?=some x->dH br w v x)->Calls C.P f (.slice (some ⟨b,0,none⟩) n c::vs).toArray w λe w'=>∃(v:Value) (r:Bool) (ys full:List AV),e=.returned v/\R r ys/\full.length=cells.length/\(match r with|false=>v=.tuple #[]/\ys=full|true=>∃m:Nat,v=.slice (some ⟨b,0,none⟩) m c/\m<=n/\ys=full.take (m*bP))/\(∀(i:Nat)(x:AV),full[i]?=some x->∃c,w'.cell? ⟨b,i,none⟩=some c/\dH (lT br w.heap.size) w' c x)/\w'.os=w.os/\w'.tape=w.tape/\w'.output=w.output/\w.heap.size<=w'.heap.size/\(∀k,k<w.heap.size->k≠b->w'.heap[k]?=w.heap[k]?)/\(∀cs T fr,w.heap[b]?=some (.cells cs T fr)->∃cs',w'.heap[b]?=some (.cells cs' T fr)/\cs'.size=cs.size)
structure Fr where
 n:Nat
 off:Nat
 tmps:Nat->FV
inductive Az where|ready|busy|Nl|HI (id:Nat)
def yV (C:Ctx)(w:World)(b:Nat)(row:Option Nat)(bs:List UInt8):Prop:=∃(p:Option Addr) (v:Value),(p=none\/p=some ⟨b,0,none⟩)/\w.heap[b]?=some (.cells #[.pointer p,v] C.bT (0,0))/\match row with|none=>v=.slice none 0 0/\bs=[]|some r=>b≠r/\∃(cap:Nat) (cur:Array Value),v=.slice (some ⟨r,0,none⟩) bs.length cap/\w.heap[r]?=some (.cells cur C.bE (0,0))/\bs.length<=cap/\cap<=9223372036854775807/\cur.size=cap/\cur.toList.take bs.length=bs.map λc=>Value.int .u8 (c.toNat:Int)
def vT (C:Ctx)(f:FuncId)(args:List AV)(bs:List UInt8)(out:Option (List UInt8))(r:AV):Prop:=(∃fn,C.P.funcs[f]?=some fn/\fn.body.isNone=false/\(fn.name== "runtime.NumGoroutine")=false)/\∀(br:Nat->Nat->Prop)(w:World)(b:Nat)(row:Option Nat)(vs:List Value),C.J w/\qc br w->C.nt<=w.heap.size->(∀b o,br b o->b<w.heap.size)->C.nt<=b->(∀r,row=some r->C.nt<=r)->(∀i,¬br b i)->(∀r i,row=some r->¬br r i)->yV C w b row bs->vs.length=args.length->(∀(i:Nat)(v:Value)(x:AV),vs[i]?=some v->args[i]?=some x->dH br w v x)->Calls C.P f (.pointer (some ⟨b,0,none⟩)::vs).toArray w λe w'=>∃v,e=.returned v/\dH (λ_ _=>False) w' v r/\(match out with|some bs'=>∃row',yV C w' b row' bs'/\(row'=row\/row'=none\/∃x,row'=some x/\w.heap.size<=x)|none=>∃p v,w'.heap[b]?=some (.cells #[p,v] C.bT (0,0)))/\w'.os=w.os/\w'.tape=w.tape/\w'.output=w.output/\w.heap.size<=w'.heap.size/\∀k,k<w.heap.size->k≠b->row≠some k->w'.heap[k]?=w.heap[k]?
structure an where
 n:Nat
 off:Nat
 tmps:Nat->FV
 aK:List (Nat×List FV)
 bM:List Fr
 cO:List Az
 dh:List (Nat×List UInt8)
 maps:List (Nat×List (AV×FV)):=[]
 jD:List (Nat×(Option (AV×AV)×List (AV×AV))):=[]
def an.Lt (S:an)(m:List (Nat×List (AV×FV))):an:={S with maps:=m}
def ltB (i n:Nat):Bool:=match n with|0=>false|m+1=>Nat.ble i m
@[simp] theorem adn (i n:Nat):(ltB i n=true)=(i<n):=by
 cases n with
 |zero=>simp[ltB]
 |succ m=>simp[ltB,Nat.lt_succ_iff]
def an.get (S:an)(i:Nat):FV:=match ltB i S.n with|true=>S.tmps i|false=>.dW
def an.put (S:an)(dst:Option Nat)(v:FV):an:=match dst with|none=>S|some d=>{S with tmps:=λi=>match Nat.beq i d with|true=>v|false=>S.tmps i}
def getObj:List (Nat×List FV)->Nat->Option (List FV)|[],_=>none|(u,i)::r,t=>match Nat.beq u t with|true=>some i|false=>getObj r t
def iK (d:Nat):Bool:=Nat.ble 990000 d
def Bc (l:List (Nat×List FV))(d:Nat):Option (List FV):=match iK d with|true=>none|false=>getObj l d
def setObj:List (Nat×List FV)->Nat->List FV->List (Nat×List FV)|[],_,_=>[]|(u,i)::r,t,c=>match Nat.beq u t with|true=>(u,c)::r|false=>(u,i)::setObj r t c
def eH (d:Nat):List (Nat×List FV)->List (Nat×List FV)|[]=>[]|(u,i)::r=>match Nat.beq u d with|true=>eH d r|false=>(u,FV.fu d i)::eH d r
def me:List (Nat×List UInt8)->Nat->Option (List UInt8)|[],_=>none|(u,i)::r,t=>match Nat.beq u t with|true=>some i|false=>me r t
def Zh:List (Nat×List UInt8)->Nat->List UInt8->List (Nat×List UInt8)|[],_,_=>[]|(u,i)::r,t,c=>match Nat.beq u t with|true=>(u,c)::r|false=>(u,i)::Zh r t c
def CI (d:Nat):List (Nat×List UInt8)->List (Nat×List UInt8)|[]=>[]|(u,i)::r=>match Nat.beq u d with|true=>CI d r|false=>(u,i)::CI d r
def yO (f:FV->FV):List (AV×FV)->List (AV×FV)|[]=>[]|(k,x)::r=>(k,f x)::yO f r
theorem wQ (f:FV->FV)(l:List (AV×FV)):yO f l=l.map λp=>(p.1,f p.2):=by
 induction l with
 |nil=>rfl
 |cons p l ih=>obtain⟨k,x⟩:=p;simp[yO,ih]
def Bj (f:FV->FV):List (Nat×List (AV×FV))->List (Nat×List (AV×FV))|[]=>[]|(u,l)::r=>(u,yO f l)::Bj f r
def getM {α:Type}:List (Nat×α)->Nat->Option α|[],_=>none|(u,i)::r,t=>match Nat.beq u t with|true=>some i|false=>getM r t
def vG {α:Type}:List (Nat×α)->Nat->α->List (Nat×α)|[],_,_=>[]|(u,i)::r,t,c=>match Nat.beq u t with|true=>(u,c)::r|false=>(u,i)::vG r t c
def Bd {α:Type}(d:Nat):List (Nat×α)->List (Nat×α)|[]=>[]|(u,i)::r=>match Nat.beq u d with|true=>Bd d r|false=>(u,i)::Bd d r
def Fr.map (f:FV->FV)(r:Fr):Fr:={r with tmps:=λi=>f (r.tmps i)}
def yW (f:FV->FV):List Fr->List Fr|[]=>[]|r::rs=>r.map f::yW f rs
theorem HJ (f:FV->FV)(rs:List Fr):yW f rs=rs.map (Fr.map f):=by
 induction rs with
 |nil=>rfl
 |cons r rs ih=>simp[yW,ih]
def an.kill (S:an)(d:Nat):an:={S with tmps:=λi=>(S.tmps i).kill d,aK:=eH d S.aK,bM:=yW (FV.kill d) S.bM,dh:=CI d S.dh,maps:=Bj (FV.kill d) (Bd d S.maps),jD:=Bd d S.jD}
def FV.one:FV->Bool|.agg _=>false|.eN _=>false|.p x=>x.one|.dW=>false|_=>true
def jW:List FV->Bool|[]=>true|x::xs=>match x.one with|true=>jW xs|false=>false
def aH:List AV->List FV|[]=>[]|x::xs=>.p x::aH xs
def FV.cells:FV->List FV|.agg xs=>xs|.p (.agg xs)=>aH xs|x=>[x]
def takeN:Nat->List FV->Option (List FV)|0,_=>some []|_+1,[]=>none|n+1,x::xs=>match takeN n xs with|some ys=>some (x::ys)|none=>none
def FL:Nat->List AV->Option (List AV)|0,_=>some []|_+1,[]=>none|n+1,x::xs=>match FL n xs with|some ys=>some (x::ys)|none=>none
def gC {α:Type}:Nat->List α->List α|0,xs=>xs|_+1,[]=>[]|n+1,_::xs=>gC n xs
def Kt {α:Type}:List α->Nat->α->Option (List α)|[],_,_=>none|_::xs,0,y=>some (y::xs)|x::xs,n+1,y=>match Kt xs n y with|some zs=>some (x::zs)|none=>none
def gY {α:Type}:List α->Nat->List α->Option (List α)|xs,_,[]=>some xs|xs,n,y::ys=>match Kt xs n y with|some zs=>gY zs (n+1) ys|none=>none
def FV.iC:Value->FV|.bool b=>.p (.bool b)|.int k n=>.p (.int k n)|.string s=>.p (.str s.data.toList)|.pointer none=>.p .yU|.nilFunc=>.p .EG|.nilIface=>.p .uh|.map none=>.p .wM|.slice none 0 0=>.full []|_=>.dW
def FV.Pq:Value->FV|.agg cs=>.agg (cs.toList.map FV.iC)|.tuple ⟨[]⟩=>.p (.eN [])|v=>FV.iC v
def an.val (S:an):Operand->FV|.tmp t=>S.get t|.const v=>FV.Pq v|.func f=>.p (.fn (.func f) [] [])|.global g=>match Ls g with|some xs=>.p (.imp xs)|none=>.dW
structure Al {α:Sort u}(p:α->Prop):Prop where
 out:∀x,p x
def force (v:FV)(K:FV->Prop):Prop:=match v with|.p x=>K (.p x)|.agg xs=>K (.agg xs)|.eN xs=>K (.eN xs)|.ptr o off=>K (.ptr o off)|.gd t T e xs=>K (.gd t T e xs)|.full xs=>K (.full xs)|.fn f a b=>K (.fn f a b)|.mh l=>K (.mh l)|.gH o T e=>K (.gH o T e)|.uK o x T e=>K (.uK o x T e)|.gV o b off=>K (.gV o b off)|.gw o=>K (.gw o)|.Ay o=>K (.Ay o)|.dW=>K .dW
theorem force_eq (v:FV)(K:FV->Prop):force v K=K v:=by cases v<;>rfl
def qd:List FV->(List FV->Prop)->Prop|[],K=>K []|x::xs,K=>force x λy=>qd xs λys=>K (y::ys)
theorem kH (xs:List FV)(K:List FV->Prop):qd xs K=K xs:=by
 induction xs generalizing K with
 |nil=>rfl
 |cons x xs ih=>simp only[qd,force_eq,ih]
def FV.elems:FV->Option (List (List AV))|.p (.sl xs)=>some xs|.gd _ _ _ xs=>some xs|.full xs=>some xs|_=>none
def Hg (a b:List UInt8):Bool:=Op.bytesLess a b
def yP (op:BinOp)(k:IntKind)(x y:Int):Int:=k.wrap (match op with|.and=>BitVec.ofInt k.bits x&&&BitVec.ofInt k.bits y|.or=>BitVec.ofInt k.bits x|||BitVec.ofInt k.bits y|.xor=>BitVec.ofInt k.bits x^^^BitVec.ofInt k.bits y|_=>BitVec.ofInt k.bits x&&&~~~BitVec.ofInt k.bits y).toNat
def ado:BinOp->Bool|.shl=>true|.shr=>true|_=>false
def CK (op:BinOp)(k:IntKind)(a b:Int)(K:FV->Prop):Prop:=match op with|.shl=>0<=b/\∃c,k.wrap (a*2^(min b.toNat k.bits))=c/\K (.p (.int k c))|.shr=>0<=b/\∃c,a.fdiv (2^(min b.toNat k.bits))=c/\K (.p (.int k c))|_=>False
def Pr (op:BinOp)(k:IntKind)(a b:Int)(K:FV->Prop):Prop:=match op with|.add=>∃c,k.wrap (a+b)=c/\K (.p (.int k c))|.sub=>∃c,k.wrap (a-b)=c/\K (.p (.int k c))|.mul=>∃c,k.wrap (a*b)=c/\K (.p (.int k c))|.quo=>b≠0/\∃c,k.wrap (a.tdiv b)=c/\K (.p (.int k c))|.rem=>b≠0/\∃c,a.tmod b=c/\K (.p (.int k c))|.and=>∃c,yP .and k a b=c/\K (.p (.int k c))|.or=>∃c,yP .or k a b=c/\K (.p (.int k c))|.xor=>∃c,yP .xor k a b=c/\K (.p (.int k c))|.andNot=>∃c,yP .andNot k a b=c/\K (.p (.int k c))|.eql=>Al λt:Bool=>t=(a==b)->K (.p (.bool t))|.neq=>Al λt:Bool=>t=(a !=b)->K (.p (.bool t))|.lss=>Al λt:Bool=>t=decide (a<b)->K (.p (.bool t))|.leq=>Al λt:Bool=>t=decide (a<=b)->K (.p (.bool t))|.gtr=>Al λt:Bool=>t=decide (a>b)->K (.p (.bool t))|.geq=>Al λt:Bool=>t=decide (a≥b)->K (.p (.bool t))|_=>False
def Pt (op:BinOp)(a b:List UInt8)(K:FV->Prop):Prop:=match op with|.add=>a.length+b.length<2^62/\K (.p (.str (a++b)))|.eql=>Al λt:Bool=>t=(a==b)->K (.p (.bool t))|.neq=>Al λt:Bool=>t=!(a==b)->K (.p (.bool t))|.lss=>Al λt:Bool=>t=Hg a b->K (.p (.bool t))|.leq=>Al λt:Bool=>t=(Hg a b||a==b)->K (.p (.bool t))|.gtr=>Al λt:Bool=>t=!(Hg a b||a==b)->K (.p (.bool t))|.geq=>Al λt:Bool=>t=!Hg a b->K (.p (.bool t))|_=>False
def Zi:IntKind->Nat|.i8=>0|.i16=>1|.i32=>2|.i64=>3|.u8=>4|.u16=>5|.u32=>6|.u64=>7
def Bk (k k':IntKind):Bool:=Nat.beq (Zi k) (Zi k')
theorem rX {k k':IntKind}(h:Bk k k'=true):k=k':=by have :=aN h;cases k<;>cases k'<;>first|rfl|(simp[Zi]at this)
inductive gZ where|bool|int (k:IntKind)|str deriving Inhabited
def adp (P:Program)(t:TypeId):Option (List gZ)->Option (List gZ)|none=>none|some l=>match Nat.beq (P.cellsOf t) l.length with|true=>some l|false=>none
mutual def fB (P:Program):Nat->TypeId->Option (List gZ)
 |0,_=>none
 |d+1,t=>match P.underlying t with
  |some .bool=>some [.bool]
  |some (.int k)=>some [.int k]
  |some .string=>some [.str]
  |some (.struct fs)=>match P.stoodInHeld t with|true=>none|false=>adp P t (oH P d 0 fs.toList)
  |some (.array n e)=>match fB P d e with|none=>none|some l=>match Nat.beq (P.cellsOf e) l.length with|true=>adp P t (some (List.replicate n l).flatten)|false=>none
  |_=>none def oH (P:Program):Nat->Nat->List Field->Option (List gZ)
 |0,_,_=>none
 |_+1,_,[]=>some []
 |d+1,off,f::fs=>match f.name== "_",Nat.beq f.offset off with
  |false,true=>match fB P d f.type with|none=>none|some l=>match oH P d (off+l.length) fs with|none=>none|some r=>some (l++r)
  |_,_=>none end
def gZ.fits:gZ->AV->Bool|.bool,.bool _=>true|.int k,.int k' _=>Bk k k'|.str,.str _=>true|_,_=>false
def fU:List gZ->List AV->Bool
 |[],[]=>true
 |l::ls,x::xs=>match l.fits x with|true=>fU ls xs|false=>false
 |_,_=>false
def iJ (agg:Bool)(L:List gZ)(x:AV):Bool:=match agg,x with|true,.agg xs=>fU L xs|true,_=>false|false,.agg _=>false|false,x=>fU L [x]
def sD:AV->AV->Bool|.bool a,.bool b=>a==b|.int k a,.int k' b=>Bk k k'&&a==b|.str a,.str b=>a==b|_,_=>false
def sameAs:List AV->List AV->Bool|[],[]=>true|x::xs,y::ys=>sD x y&&sameAs xs ys|_,_=>false
def qW:AV->AV->Bool|.agg a,.agg b=>sameAs a b|x,y=>sD x y
def EH (C:Ctx)(t:TypeId)(op:BinOp)(x y:FV)(K:FV->Prop):Prop:=match bV C.jE t with|none=>False|some i=>match i.shape.isAgg,x.fA,y.fA with|true,some (.agg xs),some (.agg ys)=>∃L,fB C.P 40 t=some L/\C.P.eqGuardType C.P.depth t=false/\fU L xs=true/\fU L ys=true/\(match op with|.eql=>Al λb:Bool=>b=sameAs xs ys->K (.p (.bool b))|.neq=>Al λb:Bool=>b=!sameAs xs ys->K (.p (.bool b))|_=>False)|_,_,_=>False
def HK (C:Ctx)(t:TypeId)(op:BinOp)(x y:FV)(K:FV->Prop):Prop:=match x,y with
 |.p (.int k a),.p (.int k' b)=>match ado op with|true=>CK op k a b K|false=>match Bk k k' with|true=>Pr op k a b K|false=>False
 |.p (.str a),.p (.str b)=>Pt op a b K
 |.ptr _ _,.p .yU=>match op,bV C.jE t with|.eql,some ⟨_,_,.ptr _,_⟩=>K (.p (.bool false))|.neq,some ⟨_,_,.ptr _,_⟩=>K (.p (.bool true))|_,_=>False
 |.p .yU,.p .yU=>match op,bV C.jE t with|.eql,some ⟨_,_,.ptr _,_⟩=>K (.p (.bool true))|.neq,some ⟨_,_,.ptr _,_⟩=>K (.p (.bool false))|_,_=>False
 |.ptr o f,.ptr o' f'=>match Nat.beq o o',Nat.beq f f',op,bV C.jE t with
  |true,true,.eql,some ⟨_,_,.ptr e,_⟩=>match bV C.jE e with|some _=>K (.p (.bool true))|none=>False
  |true,true,.neq,some ⟨_,_,.ptr e,_⟩=>match bV C.jE e with|some _=>K (.p (.bool false))|none=>False
  |_,_,_,_=>False
 |.p (.bool a),.p (.bool b)=>match bV C.jE t with
  |some ⟨_,_,.bool,_⟩=>match op with|.eql=>Al λt:Bool=>t=(a==b)->K (.p (.bool t))|.neq=>Al λt:Bool=>t=!(a==b)->K (.p (.bool t))|_=>False
  |_=>False
 |x,y=>EH C t op x y K
def Nn:Operand->Bool|.const .nilIface=>true|_=>false
def BJ (C:Ctx)(t:TypeId)(op:BinOp)(x:FV)(K:FV->Prop):Prop:=match bV C.jE t with
 |some ⟨_,_,.iface,_⟩=>match op,x with|.eql,.p .uh=>K (.p (.bool true))|.eql,.p (.iface _ _)=>K (.p (.bool false))|.neq,.p .uh=>K (.p (.bool false))|.neq,.p (.iface _ _)=>K (.p (.bool true))|_,_=>False
 |_=>False
def No:Operand->Bool|.const (.slice none 0 0)=>true|_=>false
def Np (C:Ctx)(t:TypeId)(op:BinOp)(x:FV)(K:FV->Prop):Prop:=match bV C.jE t with
 |some ⟨_,_,.slice _,_⟩=>match x with
  |.gH _ _ _=>match op with|.eql=>K (.p (.bool false))|.neq=>K (.p (.bool true))|_=>False
  |x=>match x.elems with|none=>False|some xs=>match op with|.eql=>Al λb:Bool=>(xs≠[]->b=false)->K (.p (.bool b))|.neq=>Al λb:Bool=>(xs≠[]->b=true)->K (.p (.bool b))|_=>False
 |_=>False
def nB (C:Ctx)(aK:List (Nat×List FV))(t:TypeId)(a:FV)(K:FV->Prop):Prop:=match bV C.jE t with
 |none=>False
 |some i=>match a with
  |.ptr o off=>match getObj aK o with
   |none=>False
   |some cells=>match i.shape.isAgg with
    |true=>match takeN i.size (gC off cells)with|none=>False|some cs=>K (.agg cs)
    |false=>match gC off cells with|[]=>False|x::_=>K x
  |.p (.imp xs)=>match i.shape.isAgg with
   |true=>match FL i.size xs with|none=>False|some cs=>K (.p (.agg cs))
   |false=>match xs with|[]=>False|x::_=>K (.p x)
  |.gV o base off=>match getObj aK o with
   |none=>False
   |some cells=>∃A ys B:List FV,cells=A++(ys++B)/\A.length=base/\(match i.shape.isAgg with
    |true=>match takeN i.size (gC off ys)with|none=>False|some cs=>K (.agg cs)
    |false=>match gC off ys with|[]=>False|x::_=>K x)
  |_=>False
def nC (C:Ctx)(s:TypeId)(x:FV)(f:Nat)(K:FV->Prop):Prop:=match bV C.jE s with
 |some ⟨_,_,.struct fs,_⟩=>match gC f fs with|[]=>False|(o,t)::_=>match bV C.jE t with|none=>False|some j=>match j.size with|0=>False|_+1=>match x with|.ptr b off=>K (.ptr b (off+o))|.p (.imp xs)=>K (.p (.imp (gC o xs)))|.gV b base off=>K (.gV b base (off+o))|_=>False
 |_=>False
def wR (C:Ctx)(s:TypeId)(x:FV)(f:Nat)(K:FV->Prop):Prop:=match bV C.jE s with
 |some ⟨_,_,.struct fs,_⟩=>match gC f fs with
  |[]=>False
  |(o,t)::_=>match bV C.jE t with
   |none=>False
   |some j=>match x with
    |.agg xs=>match j.shape.isAgg with
     |true=>match takeN j.size (gC o xs)with|some cs=>K (.agg cs)|none=>False
     |false=>match gC o xs with|y::_=>K y|[]=>False
    |.p (.agg xs)=>match j.shape.isAgg with
     |true=>match FL j.size (gC o xs)with|some cs=>K (.p (.agg cs))|none=>False
     |false=>match gC o xs with|y::_=>K (.p y)|[]=>False
    |_=>False
 |_=>False
def jP (C:Ctx)(aK:List (Nat×List FV))(t:TypeId)(x i:FV)(K:FV->Prop):Prop:=match i with
 |.p (.int _ n)=>match bV C.jE t with
  |some ⟨_,_,.slice e,_⟩=>match bV C.jE e with
   |none=>False
   |some j=>match x with
    |.gH o _ bP=>match getObj aK o,Nat.beq bP j.size with|some cells,true=>∃m base:Nat,n=m/\m*bP=base/\base+bP<=cells.length/\K (.gV o base 0)|_,_=>False
    |.uK o x _ bP=>match getObj aK o,Nat.beq bP j.size with|some cells,true=>∃m base:Nat,n=m/\(x+m)*bP=base/\base+bP<=cells.length/\K (.gV o base 0)|_,_=>False
    |x=>match x.elems with|none=>False|some xs=>0<=n/\∃ys,xs[n.toNat]?=some ys/\ys.length=j.size/\K (.p (.imp ys))
  |some ⟨_,_,.array len e,_⟩=>match bV C.jE e with|none=>False|some j=>∃m:Nat,n=m/\m<len/\(match x with|.ptr o off=>∃sym:Bool,(match sym with|true=>∃base,off+m*j.size=base/\K (.gV o base 0)|false=>K (.ptr o (off+m*j.size)))|.gV o b off=>∃base,b+(off+m*j.size)=base/\K (.gV o base 0)|.p (.imp xs)=>∃ys,gC (m*j.size) xs=ys/\K (.p (.imp ys))|_=>False)
  |_=>False
 |_=>False
def wT (C:Ctx)(t:TypeId)(x i:FV)(K:FV->Prop):Prop:=match i with
 |.p (.int _ n)=>match bV C.jE t with
  |some ⟨_,_,.str,_⟩=>match x with|.p (.str s)=>0<=n/\∃c,s[n.toNat]?=some c/\K (.p (.int .u8 c.toNat))|_=>False
  |some ⟨_,_,.array len e,_⟩=>match bV C.jE e with
   |none=>False
   |some j=>match j.shape.isAgg with
    |true=>∃m:Nat,n=m/\m<len/\(match x with
     |.agg xs=>match takeN j.size (gC (m*j.size) xs)with|some cs=>K (.agg cs)|none=>False
     |.p (.agg xs)=>match FL j.size (gC (m*j.size) xs)with|some cs=>K (.p (.agg cs))|none=>False
     |_=>False)
    |false=>∃m:Nat,n=m/\m<len/\(match x with
     |.agg xs=>match gC (m*j.size) xs with|y::_=>K y|[]=>False
     |.p (.agg xs)=>match gC (m*j.size) xs with|y::_=>K (.p y)|[]=>False
     |_=>False)
  |_=>False
 |_=>False
def uO (x:Option FV)(dflt:Nat)(K:Nat->Prop):Prop:=match x with|none=>K dflt|some (.p (.int _ n))=>∃m:Nat,n=m/\K m|some _=>False
def Nq (C:Ctx)(t:TypeId)(x:FV)(lo hi:Option FV)(K:FV->Prop):Prop:=match bV C.jE t with
 |some ⟨_,_,.str,_⟩=>match x with|.p (.str s)=>uO hi s.length λh=>uO lo 0 λl=>l<=h/\h<=s.length/\∃s',(s.take h).drop l=s'/\K (.p (.str s'))|_=>False
 |some ⟨_,_,.slice e,_⟩=>match bV C.jE e with|none=>False|some j=>match x.elems with|none=>False|some xs=>uO hi xs.length λh=>uO lo 0 λl=>l<=h/\h<=xs.length/\(∀ys,ys∈xs->ys.length=j.size)/\∃xs',(xs.take h).drop l=xs'/\K (.p (.sl xs'))
 |some ⟨_,_,.array len e,_⟩=>match bV C.jE e with|none=>False|some j=>match x with|.p (.imp xs)=>uO hi len λh=>uO lo 0 λl=>l<=h/\h<=len/\j.size=1/\len<=xs.length/\∃xs',((xs.take h).drop l).map (λx=>[x])=xs'/\K (.p (.sl xs'))|_=>False
 |_=>False
def nD (fs:List (Nat×TypeId))(jE:List (TypeId×jV))(S:an):List (Nat×Operand)->List FV->Option (List FV)
 |[],cells=>some cells
 |(i,x)::rest,cells=>match gC i fs with
  |[]=>none
  |(o,t)::_=>match bV jE t with
   |none=>none
   |some j=>match Nat.beq j.size 0,Nat.beq (S.val x).cells.length j.size,jW (S.val x).cells with
    |false,true,true=>match gY cells o (S.val x).cells with|none=>none|some cells'=>nD fs jE S rest cells'
    |_,_,_=>none
def gu (size:Nat)(S:an):List (Nat×Operand)->List FV->Option (List FV)
 |[],cells=>some cells
 |(i,x)::rest,cells=>match Nat.beq size 0,Nat.beq (S.val x).cells.length size,jW (S.val x).cells with
  |false,true,true=>match gY cells (i*size) (S.val x).cells with|none=>none|some cells'=>gu size S rest cells'
  |_,_,_=>none
def placesOf (jE:List (TypeId×jV)):List (Nat×TypeId)->Option (List (Nat×Nat))|[]=>some []|(o,t)::fs=>match bV jE t with|none=>none|some j=>match placesOf jE fs with|none=>none|some ps=>some ((o,j.size)::ps)
def Hh (C:Ctx)(S:an)(t:TypeId)(parts:List (Nat×Operand))(K:FV->Prop):Prop:=match bV C.jE t with
 |some ⟨_,_,.struct fs,zero⟩=>match placesOf C.jE fs with|none=>False|some _=>match nD fs C.jE S parts (zero.map FV.iC)with|some cs=>qd cs λcs=>K (.agg cs)|none=>False
 |some ⟨_,_,.array _ e,zero⟩=>match bV C.jE e with|none=>False|some j=>match gu j.size S parts (zero.map FV.iC)with|some cs=>qd cs λcs=>K (.agg cs)|none=>False
 |_=>False
def pV {α:Type}:Nat->List α->List α|0,_=>[]|n+1,xs=>xs++pV n xs
def chunk {α:Type}(size:Nat):Nat->List α->List (List α)|0,_=>[]|n+1,xs=>xs.take size::chunk size n (xs.drop size)
def mC (C:Ctx)(S:an)(t:TypeId)(len:Nat)(parts:List (Nat×Operand))(K:FV->Prop):Prop:=match bV C.jE t with
 |some ⟨_,_,.slice e,_⟩=>match bV C.jE e with
  |none=>False
  |some j=>match Nat.ble (len*j.size) 1000000 with
   |false=>False
   |true=>match gu j.size S parts (pV len (j.zero.map FV.iC))with
    |some cs=>match jW cs with|false=>False|true=>match FV.gx cs with|some ys=>K (.full (chunk j.size len ys))|none=>False
    |none=>False
 |_=>False
def hU:Nat->List Nat->Bool|_,[]=>false|i,d::ds=>match Nat.beq i d with|true=>true|false=>hU i ds
def Shape.FM:Shape->Bool|.slice _=>true|.str=>true|_=>false
def FV.items:FV->Option (List (List AV))|.p (.str s)=>some (s.map λ(b:UInt8)=>[AV.int .u8 (b.toNat:Int)])|y=>y.elems
def wU (S:an)(d:Nat)(K:Nat->Prop):Prop:=match S.off with|0=>K d|n+1=>K (n+1+d)
theorem lU (S:an)(d:Nat)(K:Nat->Prop):wU S d K=K (S.off+d):=by unfold wU;split;rename_i h;rw[h,dF];rename_i n h;rw[h]
def rP (S:an)(d:Nat)(K:Nat->Prop):Prop:=match S.off with
 |0=>match iK d with|true=>False|false=>K d
 |n+1=>match iK (n+1+d)with|true=>False|false=>K (n+1+d)
theorem jX (S:an)(d:Nat)(K:Nat->Prop):rP S d K=(iK (S.off+d)=false/\K (S.off+d)):=by unfold rP;split;rename_i h;rw[h,dF];cases iK d<;>simp;rename_i n h;rw[h];cases iK (n+1+d)<;>simp
def HL (n:Nat)(K:Nat->Prop):Prop:=match n with|0=>K 0|m+1=>K (m+1)
theorem Pu (n:Nat)(K:Nat->Prop):HL n K=K n:=by cases n<;>rfl
def uj (C:Ctx)(t u d:TypeId)(S:an)(x y:FV)(K:an->Prop):Prop:=match bV C.jE t,bV C.jE u with
 |some ⟨_,_,.slice e,_⟩,some ui=>match ui.shape.FM with
  |false=>False
  |true=>match bV C.jE e with
   |none=>False
   |some j=>match y.items with
    |none=>False
    |some ys=>match x with
     |.gd k T bP xs=>match Nat.beq bP j.size,Nat.beq j.bytes 0,Nat.beq T e with|true,false,true=>(∀zs,zs∈xs->zs.length=bP)/\(∀zs,zs∈ys->zs.length=bP)/\(xs.length+ys.length)*j.bytes<=140737488355328/\∃zs,xs++ys=zs/\K ((S.kill k).put (some d) (.gd k T bP zs))|_,_,_=>False
     |.gH k T bP=>match Nat.beq bP j.size,Nat.beq T e,Nat.beq j.bytes 0 with
      |true,true,false=>match Bc S.aK k with|none=>False|some xs=>∃n:Nat,xs.length=n*j.size/\(∀zs,zs∈ys->zs.length=j.size)/\(n+ys.length)*j.bytes<=140737488355328/\∃zs,FV.fu k (xs++aH ys.flatten)=zs/\K ({S.kill k with aK:=(k,zs)::eH k S.aK}.put (some d) (.gH k e j.size))
      |_,_,_=>False
     |.full []=>match Nat.beq j.bytes 0 with|false=>(∀zs,zs∈ys->zs.length=j.size)/\ys.length*j.bytes<=140737488355328/\wU S d λnm=>K ((S.kill nm).put (some d) (.gd nm e j.size ys))|true=>False
     |.full (q::r)=>match Nat.beq j.bytes 0 with|false=>ys≠[]/\(∀zs,zs∈q::r->zs.length=j.size)/\(∀zs,zs∈ys->zs.length=j.size)/\((q::r).length+ys.length)*j.bytes<=140737488355328/\wU S d λnm=>∃zs,(q::r)++ys=zs/\K ((S.kill nm).put (some d) (.gd nm e j.size zs))|true=>False
     |_=>False
 |_,_=>False
def SK (C:Ctx)(t u d:TypeId)(S:an)(x:FV)(o2:Nat)(T2:TypeId)(e2:Nat)(K:an->Prop):Prop:=match bV C.jE t,bV C.jE u with
 |some ⟨_,_,.slice e,_⟩,some ui=>match ui.shape.FM with
  |false=>False
  |true=>match bV C.jE e with
   |none=>False
   |some j=>match Nat.beq e2 j.size,Nat.beq T2 e,Nat.beq j.bytes 0 with
    |true,true,false=>match getObj S.aK o2 with
     |none=>False
     |some ys=>match x with
      |.gH k T bP=>match Nat.beq bP j.size,Nat.beq T e,Nat.beq k o2 with
       |true,true,false=>match Bc S.aK k with|none=>False|some xs=>∃n m:Nat,xs.length=n*j.size/\ys.length=m*j.size/\jW ys=true/\(n+m)*j.bytes<=140737488355328/\∃zs,FV.fu k (xs++ys)=zs/\K ({S.kill k with aK:=(k,zs)::eH k S.aK}.put (some d) (.gH k e j.size))
       |_,_,_=>False
      |.full []=>∃m:Nat,0<m/\ys.length=m*j.size/\jW ys=true/\m*j.bytes<=140737488355328/\rP S d λnm=>∃zs,FV.fu nm ys=zs/\K ({S.kill nm with aK:=(nm,zs)::eH nm S.aK}.put (some d) (.gH nm e j.size))
      |_=>False
    |_,_,_=>False
 |_,_=>False
def jY (C:Ctx)(aK:List (Nat×List FV))(b:Builtin)(args:List FV)(types:List TypeId)(K:FV->Prop):Prop:=match b with
 |.len=>match args,types with
  |[x],[t]=>match bV C.jE t with
   |none=>False
   |some ⟨_,_,.str,_⟩=>match x with|.p (.str s)=>K (.p (.int .i64 s.length))|_=>False
   |some ⟨_,_,.slice _,_⟩=>match x with
    |.gH o _ bP=>match getObj aK o with|some cells=>∃n:Nat,cells.length=n*bP/\K (.p (.int .i64 n))|none=>False
    |.uK o x _ bP=>match getObj aK o with|some cells=>∃n:Nat,cells.length=(x+n)*bP/\K (.p (.int .i64 n))|none=>False
    |x=>match x.elems with|some xs=>K (.p (.int .i64 xs.length))|none=>False
   |_=>False
  |_,_=>False
 |.min=>match args with
  |[.p (.int k a),.p (.int k' b)]=>match Bk k k' with|true=>∃c,(if b<a then b else a)=c/\K (.p (.int k c))|false=>False
  |_=>False
 |.max=>match args with
  |[.p (.int k a),.p (.int k' b)]=>match Bk k k' with|true=>∃c,(if b>a then b else a)=c/\K (.p (.int k c))|false=>False
  |_=>False
 |_=>False
def adq (rest:Option (List AV))(x:FV):FV:=match rest with|none=>x|some r=>.eN (x::aH r)
def an.got (S:an)(dst:Option Nat):dJ->an
 |.own rest T bP xss=>match dst with|some d=>{S.kill (S.off+d)with aK:=(S.off+d,aH xss.flatten)::eH (S.off+d) S.aK}.put (some d) (adq rest (.gH (S.off+d) T bP))|none=>S
 |.val x=>S.put dst (.p x)
 |.fresh T bP xs=>match dst with|some d=>(S.kill (S.off+d)).put (some d) (.gd (S.off+d) T bP xs)|none=>S
 |.vf x=>S.put dst x
def afG (S:an)(dst:Option Nat):dJ->Prop|.own _ _ _ _=>∀d,dst=some d->iK (S.off+d)=false|_=>True
def Ku (S:an)(dst:Option Nat)(r:dJ)(K:an->Prop):Prop:=match r with
 |.own rest T bP xss=>match dst with|some d=>rP S d λnm=>∃zs,aH xss.flatten=zs/\K ({S.kill nm with aK:=(nm,zs)::eH nm S.aK}.put (some d) (adq rest (.gH nm T bP)))|none=>K S
 |.val x=>K (S.put dst (.p x))
 |.fresh T bP xs=>match dst with|some d=>wU S d λnm=>K ((S.kill nm).put (some d) (.gd nm T bP xs))|none=>K S
 |.vf x=>K (S.put dst x)
theorem Hi {S:an}{dst:Option Nat}{r:dJ}{K:an->Prop}(h:Ku S dst r K):afG S dst r/\K (S.got dst r):=by
 unfold Ku at h;cases r with
 |val x=>exact⟨trivial,h⟩
 |fresh T bP xs=>
  cases dst with
  |none=>exact⟨trivial,h⟩
  |some d=>simp only[lU]at h;exact⟨trivial,h⟩
 |vf x=>exact⟨trivial,h⟩
 |own rest T bP xss=>
  cases dst with
  |none=>exact⟨λd hd=>(by cases hd),h⟩
  |some d=>simp only[jX]at h;obtain⟨h1,zs,rfl,h2⟩:=h;exact⟨λd' hd=>by cases hd;exact h1,h2⟩
abbrev pn:=Nat->List FV->(FV->an->Prop)->an->Prop
abbrev iR:=pn->FuncId->List FV->(FV->an->Prop)->an->Prop
def adr (P:Program)(g:FuncId):Prop:=∀(v:Value)(w:World),(callFunc g #[v]).run P w=.ok (.value v) w
def SL (S:an)(d:Nat):an:={(S.kill (S.off+d)).put (some d) (.ptr (S.off+d) 0)with dh:=(S.off+d,[])::CI (S.off+d) S.dh}
def AV.flat:AV->Bool|.bool _=>true|.int _ _=>true|.str _=>true|.yU=>true|.EG=>true|.uh=>true|.wM=>true|_=>false
def Vh:List AV->Bool|[]=>true|x::xs=>match x.flat with|true=>Vh xs|false=>false
theorem WD {xs:List AV}(h:Vh xs=true):∀x,x∈xs->x.flat=true:=by
 induction xs with
 |nil=>simp
 |cons x xs ih=>simp only[Vh]at h;split at h;rename_i h1;intro y hy;rcases aL.1 hy with rfl|hy;exact h1;exact ih h y hy;cases h
theorem dH.flat {br uM:Nat->Nat->Prop}{w:World}{v:Value}{x:AV}(h:dH br w v x)(hx:x.flat=true):dH uM w v x:=by
 cases h with
 |bool b=>exact .bool b
 |int k n=>exact .int k n
 |str s=>exact .str s
 |yU=>exact .yU
 |EG=>exact .EG
 |uh=>exact .uh
 |wM=>exact .wM
 |_=>simp[AV.flat]at hx
def Zj (C:Ctx)(S:an)(dst:Option Nat)(g:FuncId)(o:Nat)(bs:List UInt8)(args:List FV)(K:an->Prop):Prop:=match FV.gx args with|none=>False|some xs=>∃(out:Option (List UInt8)) (r:AV),vT C g xs bs out r/\(match out with|some bs'=>K ({S with dh:=Zh S.dh o bs'}.put dst (.p r))|none=>K ({S with dh:=CI o S.dh}.put dst (.p r)))
def Zk (S:an):List FV->Option (Nat×List UInt8×List FV)
 |.ptr o 0::rest=>match me S.dh o with|some bs=>some (o,bs,rest)|none=>none
 |_=>none
def an.CL (S:an)(ob:Nat)(cs:List FV):an:={S with aK:=setObj S.aK ob cs}
def EI (d:Nat)(z:AV):List (Nat×List FV)->List (Nat×List FV)|[]=>[]|(u,i)::r=>(u,FV.YO d z i)::EI d z r
def an.Pv (S:an)(d:Nat)(z:AV):an:={S with tmps:=λi=>(S.tmps i).fm d z,aK:=EI d z S.aK,bM:=yW (FV.fm d z) S.bM,maps:=Bj (FV.fm d z) (Bd d S.maps)}
def iP {α:Type}:List (AV×α)->List AV|[]=>[]|(k,_)::r=>k::iP r
def BK {α:Type}:List (AV×α)->List α|[]=>[]|(_,x)::r=>x::BK r
def agp {α:Type}(l:List (Nat×α))(d:Nat):Option α:=match iK d with|true=>none|false=>getM l d
theorem WE {α:Type}{l:List (Nat×α)}{d:Nat}{x:α}(h:agp l d=some x):iK d=false/\getM l d=some x:=by unfold agp at h;split at h;cases h;rename_i hb;exact⟨hb,h⟩
structure Zl (S:an)(d:Nat)(ks vs:List AV):Prop where
 mp:∃l,agp S.maps d=some l/\iP l=ks/\FV.gx (BK l)=some vs
def Zm (C:Ctx)(S:an)(dst:Option Nat)(g:FuncId)(args:List FV)(K:an->Prop):Prop:=∃(d:Nat) (ks vs:List AV),Zl S d ks vs/\match FV.gx (FV.YO d (.mp ks vs) args)with|some xs=>∃R,av C g xs R/\∀r,R r->Ku (S.Pv d (.mp ks vs)) dst r K|none=>False
def EJ (d:Nat)(ys:List AV):List (Nat×List FV)->List (Nat×List FV)|[]=>[]|(u,i)::r=>match Nat.beq u d with|true=>EJ d ys r|false=>(u,FV.SJ d ys i)::EJ d ys r
def an.Nj (S:an)(d:Nat)(ys:List AV):an:={S with tmps:=λi=>(S.tmps i).fz d ys,aK:=EJ d ys S.aK,bM:=yW (FV.fz d ys) S.bM,maps:=Bj (FV.fz d ys) S.maps}
def uP:List AV->Bool|[]=>true|x::xs=>match x.one with|true=>uP xs|false=>false
def ads (C:Ctx)(S:an)(dst:Option Nat)(g:FuncId)(args:List FV)(K:an->Prop):Prop:=∃(d:Nat) (ys:List AV),match Bc S.aK d with|none=>False|some cells=>FV.gx cells=some ys/\uP ys=true/\match FV.gx (FV.SJ d ys args)with|some xs=>∃R,av C g xs R/\∀r,R r->Ku (S.Nj d ys) dst r K|none=>False
def Zn (S:an)(dst:Option Nat)(o:Nat)(T:TypeId)(bP:Nat)(r:Bool)(ys:List AV)(K:an->Prop):Prop:=match r with|false=>K ((S.CL o (aH ys)).put dst (.p (.eN [])))|true=>match dst with|some d=>∃zs,aH ys=zs/\K ({S.kill o with aK:=(o,zs)::eH o S.aK}.put (some d) (.gH o T bP))|none=>False
def Pw (C:Ctx)(S:an)(dst:Option Nat)(g:FuncId)(args:List FV)(K:an->Prop):Prop:=match args with
 |.ptr o 0::rest=>match getObj S.aK o,FV.gx rest with
  |some cells,some xs=>match FV.gx cells with|some (z::zs)=>∃R,HH C g (z::zs) xs R/\∀r ys,R r ys->K ((S.CL o (aH ys)).put dst (.p r))|_=>False
  |_,_=>False
 |.gH o T bP::rest=>match Bc S.aK o,FV.gx rest with
  |some cells,some xs=>match FV.gx cells with|some zs=>∃R,Zg C g T bP zs xs R/\∀r ys,R r ys->Zn S dst o T bP r ys K|none=>False
  |_,_=>False
 |args=>Zm C S dst g args K\/ads C S dst g args K
mutual inductive FN (S:an):FV->AV->Prop|plain {x:FV}{y:AV}:x.fA=some y->FN S x y|gH {o:Nat}{T:TypeId}{bP:Nat}{cells:List FV}{xss:List (List AV)}:Bc S.aK o=some cells->vU S cells xss.flatten->(∀ys,ys∈xss->ys.length=bP/\∀y,y∈ys->y.one=true)->FN S (.gH o T bP) (.sl xss)|ptr {o:Nat}{cells:List FV}{ys:List AV}:Bc S.aK o=some cells->vU S cells ys->(∀y,y∈ys->y.one=true)->FN S (.ptr o 0) (.imp ys)|gw {o:Nat}{l:List (AV×FV)}{ks vs:List AV}:getM S.maps o=some l->iP l=ks->vU S (BK l) vs->FN S (.gw o) (.mp ks vs)|fn {f:Fn}{fs cs:List FV}{a b:List AV}:vU S fs a->vU S cs b->FN S (.fn f fs cs) (.fn f a b)|agg {xs:List FV}{ys:List AV}:vU S xs ys->(∀y,y∈ys->y.one=true)->FN S (.agg xs) (.agg ys) inductive vU (S:an):List FV->List AV->Prop|plain {xs:List FV}{ys:List AV}:FV.gx xs=some ys->vU S xs ys|nil:vU S [] []|cons {x:FV}{y:AV}{xs:List FV}{ys:List AV}:FN S x y->vU S xs ys->vU S (x::xs) (y::ys) end
def AV.HM:AV->Bool|.eN xs=>Vh xs|x=>x.flat
def Zo (C:Ctx)(S:an)(dst:Option Nat)(g:FuncId)(args:List FV)(K:an->Prop):Prop:=∃(xs:List AV) (R:dJ->Prop),vU S args xs/\av C g xs R/\∀r,R r->(∃x,r=.val x/\x.HM=true)/\Ku S dst r K
def bw (x y:FV):Prop:=∀(G:bl)(w:World)(v:Value),aU G w v x->aU G w v y
structure cU (S S':an):Prop where
 n:S'.n=S.n
 off:S'.off=S.off
 cO:S'.cO=S.cO
 dh:∀o bs,me S'.dh o=some bs->me S.dh o=some bs/\(getObj S.aK o=none->getObj S'.aK o=none)
 bM:S'.bM.length=S.bM.length/\∀(i:Nat)(f f':Fr),S.bM[i]?=some f->S'.bM[i]?=some f'->f'.n=f.n/\f'.off=f.off/\∀j,bw (f.tmps j) (f'.tmps j)
 tmps:∀i,bw (S.tmps i) (S'.tmps i)
 aK:∀o ys,getObj S'.aK o=some ys->∃xs,getObj S.aK o=some xs/\xs.length=ys.length/\∀(i:Nat)(x y:FV),xs[i]?=some x->ys[i]?=some y->bw x y
 maps:∀o l',getM S'.maps o=some l'->∃l,getM S.maps o=some l/\l.length=l'.length/\∀(i:Nat)(p p':AV×FV),l[i]?=some p->l'[i]?=some p'->p'.1=p.1/\bw p.2 p'.2
 jD:∀q x,getM S'.jD q=some x->getM S.jD q=some x
def aib (C:Ctx)(g:FuncId)(K:an->Prop)(S:an):Prop:=match hU g C.ex.rel with|true=>∃T,cU S T/\K T|false=>K S
def uQ (br:Nat->Nat->Prop)(loc mp:Nat->Option Nat):bl:=⟨br,loc,λ_=>none,λ_=>none,λ_=>none,mp,λ_=>none⟩
def Hj:List (Nat×Nat)->Nat->Nat|[],o=>o|(u,i)::r,o=>match Nat.beq u o with|true=>i|false=>Hj r o
mutual def FV.nm (ρ:List (Nat×Nat)):FV->FV|.ptr o off=>.ptr (Hj ρ o) off|.gV o b off=>.gV (Hj ρ o) b off|.gw o=>.gw (Hj ρ o)|.agg xs=>.agg (FV.HN ρ xs)|.eN xs=>.eN (FV.HN ρ xs)|.fn f first captured=>.fn f (FV.HN ρ first) (FV.HN ρ captured)|x=>x def FV.HN (ρ:List (Nat×Nat)):List FV->List FV|[]=>[]|x::xs=>FV.nm ρ x::FV.HN ρ xs end
mutual def FV.only (N:List Nat)(m:Nat):FV->Bool
 |.p _=>true
 |.agg xs=>FV.yX N m xs
 |.eN xs=>FV.yX N m xs
 |.ptr o _=>hU o N
 |.gw o=>Nat.beq o m
 |.full _=>true
 |.fn _ a b=>match FV.yX N m a with|true=>FV.yX N m b|false=>false
 |.dW=>true
 |_=>false def FV.yX (N:List Nat)(m:Nat):List FV->Bool|[]=>true|x::xs=>match x.only N m with|true=>FV.yX N m xs|false=>false end
def Lu (N:List Nat)(m:Nat):List (AV×FV)->Bool|[]=>true|(_,x)::r=>match x.only N m with|true=>Lu N m r|false=>false
def jF:List (Nat×List FV)->List Nat|[]=>[]|(o,_)::r=>o::jF r
structure Zp (g:Nat)(br:Nat->Nat->Prop)(loc mp:Nat->Option Nat)(w:World)(aK:List (Nat×List FV))(m:Nat)(l:List (AV×FV)):Prop where
 dom:∀o b,loc o=some b->iK o=true/\hU o (jF aK)=true/\(∃cs T fr,w.heap[b]?=some (.cells cs T fr))/\g<=b/\b<w.heap.size/\∀i,¬br b i/\w.frozen? ⟨b,i,none⟩=false
 aK:∀o cells,getObj aK o=some cells->∃b,loc o=some b/\∀(i:Nat)(x:FV),cells[i]?=some x->∃c,w.cell? ⟨b,i,none⟩=some c/\aU (uQ br loc mp) w c x
 inj:∀o o' b,loc o=some b->loc o'=some b->o=o'
 Zq:∀o b,mp o=some b->o=m/\iK m=true/\g<=b/\b<w.heap.size/\∀i,¬br b i
 map:∃(b gL:Nat) (es:List MapEntry),mp m=some b/\w.heap[b]?=some (.map es.toArray gL)/\qb es gL/\es.length=l.length/\∀(i:Nat)(e:MapEntry)(p:AV×FV),es[i]?=some e->l[i]?=some p->dH br w e.key p.1/\aU (uQ br loc mp) w e.val p.2
 apart:∀o o' b,mp o=some b->loc o'≠some b
def oA (C:Ctx)(f:FuncId)(aK:List (Nat×List FV))(m:Nat)(l:List (AV×FV))(args:List FV)(R:AV->List (AV×FV)->Prop):Prop:=(∃fn,C.P.funcs[f]?=some fn/\fn.body.isNone=false/\(fn.name== "runtime.NumGoroutine")=false)/\∀(br:Nat->Nat->Prop)(loc mp:Nat->Option Nat)(w:World)(vs:List Value),C.J w/\qc br w->C.nt<=w.heap.size->(∀b o,br b o->b<w.heap.size)->Zp C.nt br loc mp w aK m l->vs.length=args.length->(∀(i:Nat)(v:Value)(x:FV),vs[i]?=some v->args[i]?=some x->aU (uQ br loc mp) w v x)->Calls C.P f vs.toArray w λe w'=>∃v r l',e=.returned v/\R r l'/\dH (lT br w.heap.size) w' v r/\(∀o b,loc o=some b->(∀cells (i:Nat)(x:FV),getObj aK o=some cells->cells[i]?=some x->∃c,w'.cell? ⟨b,i,none⟩=some c/\aU (uQ (lT br w.heap.size) loc mp) w' c x)/\∀cs T fr,w.heap[b]?=some (.cells cs T fr)->∃cs',w'.heap[b]?=some (.cells cs' T fr)/\cs'.size=cs.size)/\(∃(b gL:Nat) (es:List MapEntry),mp m=some b/\w'.heap[b]?=some (.map es.toArray gL)/\qb es gL/\es.length=l'.length/\∀(i:Nat)(e:MapEntry)(p:AV×FV),es[i]?=some e->l'[i]?=some p->dH (lT br w.heap.size) w' e.key p.1/\aU (uQ (lT br w.heap.size) loc mp) w' e.val p.2)/\w'.os=w.os/\w'.tape=w.tape/\w'.output=w.output/\w.heap.size<=w'.heap.size/\∀k,k<w.heap.size->(∀o,loc o≠some k)->(∀o,mp o≠some k)->w'.heap[k]?=w.heap[k]?
def vV (N:List Nat)(m:Nat):List (Nat×List FV)->Bool|[]=>true|(_,[])::_=>false|(o,c::cs)::r=>match iK o,FV.yX N m (c::cs)with|true,true=>vV N m r|_,_=>false
def HO (n:Nat):List Nat->Bool|[]=>true|m::r=>match Nat.beq n m with|true=>false|false=>HO n r
def Nr:List Nat->Bool|[]=>true|n::r=>match HO n r with|true=>Nr r|false=>false
def HP (ρ:List (Nat×Nat)):List (Nat×List FV)->List Nat|[]=>[]|(o,_)::r=>Hj ρ o::HP ρ r
def Ns (S:an)(ρ:List (Nat×Nat)):List (Nat×List FV)->Prop|[]=>True|(o,cells)::r=>getObj S.aK (Hj ρ o)=some (FV.HN ρ cells)/\Ns S ρ r
def Vi (C:Ctx)(S:an)(dst:Option Nat)(g:FuncId)(args:List FV)(K:an->Prop):Prop:=∃(ρ:List (Nat×Nat)) (aK:List (Nat×List FV)) (m:Nat) (l:List (AV×FV)) (az:List FV) (R:AV->List (AV×FV)->Prop),FV.HN ρ az=args/\(FV.yX (jF aK) m az=true/\vV (jF aK) m aK=true/\iK m=true/\Lu (jF aK) m l=true/\Nr (HP ρ aK)=true)/\Ns S ρ aK/\getM S.maps (Hj ρ m)=some (yO (FV.nm ρ) l)/\getM C.ex.Nk (Hj ρ m)=none/\oA C g aK m l az R/\∀r l',R r l'->K ((S.Lt (vG S.maps (Hj ρ m) (yO (FV.nm ρ) l'))).put dst (.p r))
def Px (C:Ctx)(call:iR)(Y:pn)(S:an)(dst:Option Nat)(g:FuncId)(args:List FV)(K:an->Prop):Prop:=match Zk S args with|some (o,bs,rest)=>Zj C S dst g o bs rest K|none=>call Y g args (λv S'=>aib C g K (S'.put dst v)) S\/(((adr C.P g/\match args with|[x]=>K (S.put dst x)|_=>False)\/Vi C S dst g args K)\/Zo C S dst g args K)\/Pw C S dst g args K
def aml:List FV->Option Int|[.full [],.p (.int .i64 n)]=>some n|_=>none
def SM (C:Ctx)(call:iR)(Y:pn)(S:an)(dst:Option Nat)(f:FV)(args:List FV)(K:an->Prop):Prop:=match f with
 |.p (.fn (.func g) first captured)=>match hU g C.ex.inl with|true=>Px C call Y S dst g (aH first++args++aH captured) K|false=>match FV.gx args with|some xs=>∃R,av C g (first++xs++captured) R/\∀r,R r->Ku S dst r K|none=>Px C call Y S dst g (aH first++args++aH captured) K
 |.fn (.func g) first captured=>match FV.gx (first++args++captured)with|some xs=>∃R,av C g xs R/\∀r,R r->Ku S dst r K|none=>Px C call Y S dst g (first++args++captured) K
 |.mh l=>Y l args (λv S'=>K (S'.put dst v)) S
 |_=>False
def newObj (S:an)(d:Nat)(cells:List FV):an:={(S.kill (S.off+d)).put (some d) (.ptr (S.off+d) 0)with aK:=(S.off+d,FV.fu (S.off+d) cells)::eH (S.off+d) S.aK}
def Hl (S:an)(d:Nat)(cells:List FV)(K:an->Prop):Prop:=rP S d λnm=>K {(S.kill nm).put (some d) (.ptr nm 0)with aK:=(nm,FV.fu nm cells)::eH nm S.aK}
theorem wV (S:an)(d:Nat)(cells:List FV)(K:an->Prop):Hl S d cells K=(iK (S.off+d)=false/\K (newObj S d cells)):=by unfold Hl newObj;rw[jX]
def Nt (S:an)(d:Nat)(K:an->Prop):Prop:=rP S d λnm=>K {(S.kill nm).put (some d) (.ptr nm 0)with dh:=(nm,[])::CI nm S.dh}
theorem HQ (S:an)(d:Nat)(K:an->Prop):Nt S d K=(iK (S.off+d)=false/\K (SL S d)):=by unfold Nt SL;rw[jX]
def yq {α:Type}(k:AV):List (AV×α)->Option α|[]=>none|(k',x)::r=>match qW k k' with|true=>some x|false=>yq k r
def HR {α:Type}(k:AV)(x:α):List (AV×α)->List (AV×α)|[]=>[(k,x)]|(k',y)::r=>match qW k k' with|true=>(k,x)::r|false=>(k',y)::HR k x r
def rY {α:Type}:List AV->List α->List (AV×α)|k::ks,x::xs=>(k,x)::rY ks xs|_,_=>[]
def FV.entries (maps:List (Nat×List (AV×FV))):FV->Option (List (AV×FV))|.gw o=>getM maps o|.p (.mp ks vs)=>some (rY ks (aH vs))|.p .wM=>some []|_=>none
def okV (ok:Bool)(x:FV)(b:Bool):FV:=match ok with|true=>.eN [x,.p (.bool b)]|false=>x
def HS (C:Ctx)(maps:List (Nat×List (AV×FV)))(t:TypeId)(x i:FV)(ok:Bool)(K:FV->Prop):Prop:=match bV C.jE t with
 |some ⟨_,_,.map kT eT,_⟩=>match bV C.jE kT,i.fA,x.entries maps with|some ki,some kk,some l=>∃L,fB C.P 40 kT=some L/\iJ ki.shape.isAgg L kk=true/\(∀p,p∈l->iJ ki.shape.isAgg L p.1=true)/\∃r,yq kk l=r/\(match r with|some v=>K (okV ok v true)|none=>∃z:Value,(C.P.info? eT).map (·.zero)=some (some z)/\K (okV ok (FV.Pq z) false))|_,_,_=>False
 |_=>False
def Vj (C:Ctx)(S:an)(dst:Option Nat)(t:TypeId)(m k:FV)(x:FV)(K:an->Prop):Prop:=match bV C.jE t with
 |some ⟨_,_,.map kT _,_⟩=>match m with
  |.gw ob=>match bV C.jE kT,k.fA,getM S.maps ob with|some ki,some kk,some l=>∃L,fB C.P 40 kT=some L/\iJ ki.shape.isAgg L kk=true/\(∀p,p∈l->iJ ki.shape.isAgg L p.1=true)/\∃l',HR kk x l=l'/\(match getM C.ex.Nk ob with|none=>K ((S.Lt (vG S.maps ob l')).put dst (.p (.eN [])))|some (_,_,k)=>k=some kk/\K ((S.Lt (vG S.maps ob l')).put dst (.p (.eN []))))|_,_,_=>False
  |_=>False
 |_=>False
def Nu (S:an)(d:Nat)(K:an->Prop):Prop:=rP S d λnm=>K {(S.kill nm).put (some d) (.gw nm)with maps:=(nm,[])::Bj (FV.kill nm) (Bd nm S.maps)}
def SN (op:UnOp)(x:FV)(K:FV->Prop):Prop:=match op,x with|.not,.p (.bool b)=>Al λt:Bool=>t=!b->K (.p (.bool t))|.neg,.p (.int k n)=>∃c,k.wrap (0-n)=c/\K (.p (.int k c))|.xor,.p (.int k n)=>∃c,yP .xor k (match k.signed with|true=>-1|false=>k.max) n=c/\K (.p (.int k c))|_,_=>False
def dJ.plain:dJ->FV|.val x=>.p x|.fresh _ _ xs=>.p (.sl xs)|.vf x=>x|.own rest _ _ xss=>match rest with|none=>.p (.sl xss)|some r=>.p (.eN (.sl xss::r))
def AA (C:Ctx)(f:FV)(args:List FV)(K:FV->Prop):Prop:=match f with
 |.p (.fn (.func g) first captured)=>match FV.gx args with|some xs=>∃R,av C g (first++xs++captured) R/\∀r,R r->K r.plain|none=>False
 |.fn (.func g) first captured=>match FV.gx (first++args++captured)with|some xs=>∃R,av C g xs R/\∀r,R r->K r.plain|none=>False
 |_=>False
def Vk (C:Ctx)(sh:Shape)(xs:Option (List (List AV)))(K:FV->Prop):Prop:=match sh,xs with
 |.slice e,some xs=>match bV C.jE e with|some ⟨1,_,.int .u8,_⟩=>∃bs:List UInt8,xs=bs.map (λb=>[AV.int .u8 (b.toNat:Int)])/\K (.p (.str bs))|_=>False
 |_,_=>False
def SO (C:Ctx)(src dst:TypeId)(v:FV)(K:FV->Prop):Prop:=match bV C.jE src with
 |none=>False
 |some ⟨_,_,sh,_⟩=>match bV C.jE dst with
  |some ⟨_,_,.int k,_⟩=>match v with|.p (.int _ n)=>∃c,k.wrap n=c/\K (.p (.int k c))|_=>False
  |some ⟨_,_,.str,_⟩=>match v with|.p (.str s)=>K (.p (.str s))|.p (.int _ n)=>∃c:UInt8,n=(c.toNat:Int)/\c.toNat<128/\K (.p (.str [c]))|v=>Vk C sh v.elems K
  |_=>False
def eV (C:Ctx)(S:an)(op:Op)(K:FV->Prop):Prop:=match op with
 |.move x=>force (S.val x) K
 |.assign x=>force (S.val x) K
 |.pick c a b=>match S.val c with|.p (.bool true)=>force (S.val a) K|.p (.bool false)=>force (S.val b) K|_=>False
 |.binOp op t x y _=>match Nn y with|true=>BJ C t op (S.val x) K|false=>match No y with|true=>Np C t op (S.val x) K|false=>HK C t op (S.val x) (S.val y) K
 |.unOp op _ x=>SN op (S.val x) K
 |.convert src dst x=>SO C src dst (S.val x) K
 |.makeInterface t x=>match bV C.jE t with
  |some ⟨_,_,.iface,_⟩=>False
  |some _=>match(S.val x).fA with|some y=>K (.p (.iface t y))|none=>False
  |none=>False
 |.makeFunc fn first captured=>qd (first.toList.map S.val) λa=>qd (captured.toList.map S.val) λb=>K (.fn fn a b)
 |.build t parts=>Hh C S t parts.toList K
 |.buildSlice t len parts=>mC C S t len parts.toList K
 |.load t a=>nB C S.aK t (S.val a) K
 |.nilCheck x=>match S.val x with|.ptr b off=>K (.ptr b off)|.p (.imp xs)=>K (.p (.imp xs))|.gV o base off=>K (.gV o base off)|.p (.fn (.func f) a b)=>K (.p (.fn (.func f) a b))|.fn (.func f) a b=>K (.fn (.func f) a b)|_=>False
 |.fieldAddr s x f=>nC C s (S.val x) f K
 |.field s x f=>wR C s (S.val x) f K
 |.indexAddr t x i=>jP C S.aK t (S.val x) (S.val i) K
 |.index t x i=>wT C t (S.val x) (S.val i) K
 |.lookup t x i ok=>HS C S.maps t (S.val x) (S.val i) ok K
 |.slice t x lo hi none=>Nq C t (S.val x) (lo.map S.val) (hi.map S.val) K
 |.extract x i=>match S.val x with
  |.eN xs=>match gC i xs with|y::_=>K y|[]=>False
  |.p (.eN xs)=>match gC i xs with|y::_=>K (.p y)|[]=>False
  |_=>False
 |.call c=>match c.callee with|.builtin b=>jY C S.aK b (c.args.toList.map S.val) c.argTypes.toList K|.value f=>AA C (S.val f) (c.args.toList.map S.val) K|.invoke _ _=>False
 |_=>False
def FO:List Nat->(an->Prop)->an->Prop|[],K,S=>K S|d::ds,K,S=>match Bc S.aK d with|none=>False|some cells=>match FV.gx cells with|none=>False|some ys=>match uP ys with|true=>FO ds K (S.Nj d ys)|false=>False
def FP (C:Ctx)(S:an)(e:TypeId)(len:Nat)(parts:List (Nat×Operand))(K:List FV->Nat->Prop):Prop:=match bV C.jE e with
 |none=>False
 |some j=>match Nat.ble (len*j.size) 1000000,Nat.beq j.size 0 with
  |true,false=>match gu j.size S parts (pV len (j.zero.map FV.iC))with
   |some cs=>match jW cs with|false=>False|true=>qd cs λcs=>K cs j.size
   |none=>False
  |_,_=>False
def yY (C:Ctx)(S:an)(e:TypeId)(d len:Nat)(parts:List (Nat×Operand))(K:an->Prop):Prop:=FP C S e len parts λcs z=>rP S d λnm=>K ({S.kill nm with aK:=(nm,FV.fu nm cs)::eH nm S.aK}.put (some d) (.gH nm e z))
def SP (C:Ctx)(S:an)(t:TypeId)(d:Nat)(len cap:FV)(K:an->Prop):Prop:=match bV C.jE t with
 |some ⟨_,_,.slice e,_⟩=>match bV C.jE e with
  |some ⟨1,bytes,_,[z]⟩=>match len,cap with|.p (.int _ n),.p (.int _ n')=>∃m:Nat,n=m/\n'=m/\bytes*m<=281474976710656/\m<=9223372036854775807/\rP S d λnm=>∃cs,FV.fu nm (List.replicate m (FV.iC z))=cs/\K ({S.kill nm with aK:=(nm,cs)::eH nm S.aK}.put (some d) (.gH nm e 1))|_,_=>False
  |some j=>match len,cap with|.p (.int _ n),.p (.int _ n')=>∃m:Nat,n=0/\n'=m/\j.bytes*m<=281474976710656/\m<=9223372036854775807/\wU S d λnm=>K ((S.kill nm).put (some d) (.gd nm e j.size []))|_,_=>False
  |none=>False
 |_=>False
def SQ (C:Ctx)(t:TypeId)(dst:Option Nat)(S:an)(k:Nat)(T:TypeId)(bP:Nat)(hi:FV)(K:an->Prop):Prop:=match dst,bV C.jE t,hi with
 |some d,some ⟨_,_,.slice e,_⟩,.p (.int _ n)=>match bV C.jE e with|none=>False|some j=>match Nat.beq bP j.size,Bc S.aK k with|true,some xs=>∃m N:Nat,n=m/\xs.length=N*bP/\m<=N/\∃zs,FV.fu k (xs.take (m*bP))=zs/\K ({S.kill k with aK:=(k,zs)::eH k S.aK}.put (some d) (.gH k T bP))|_,_=>False
 |_,_,_=>False
def EK (C:Ctx)(S:an)(src dst:TypeId)(d:Nat)(s:List UInt8)(K:an->Prop):Prop:=match bV C.jE src,bV C.jE dst with
 |some ⟨_,_,.str,_⟩,some ⟨_,_,.slice e,_⟩=>match bV C.jE e with|some ⟨1,_,.int .u8,_⟩=>wU S d λnm=>K ((S.kill nm).put (some d) (.gd nm e 1 (s.map λb=>[AV.int .u8 (b.toNat:Int)])))|_=>False
 |_,_=>False
def Vl (C:Ctx)(dst:Option Nat)(S:an)(src ty:TypeId)(x:Operand)(K:an->Prop):Prop:=match bV C.jE ty,dst with
 |some ⟨_,_,.slice _,_⟩,some d=>match S.val x with|.p (.str s)=>EK C S src ty d s K|_=>False
 |_,_=>eV C S (.convert src ty x) λv=>K (S.put dst v)
def Nv (C:Ctx)(t u d:TypeId)(S:an)(y:FV)(K:an->Prop):Prop:=match bV C.jE t,bV C.jE u with
 |some ⟨_,_,.slice e,_⟩,some ui=>match ui.shape.FM with|false=>False|true=>match bV C.jE e with|none=>False|some j=>match y.items,Nat.beq j.bytes 0,Nat.beq j.size 0 with|some ys,false,false=>ys≠[]/\(∀zs,zs∈ys->zs.length=j.size)/\ys.length*j.bytes<=140737488355328/\rP S d λnm=>∃zs,aH ys.flatten=zs/\K ({S.kill nm with aK:=(nm,zs)::eH nm S.aK}.put (some d) (.gH nm e j.size))|_,_,_=>False
 |_,_=>False
def SR (C:Ctx)(t u d:TypeId)(S:an)(x y:FV)(K:an->Prop):Prop:=match hU d C.ex.opens with
 |true=>match x with|.full []=>Nv C t u d S y K|x=>uj C t u d S x y K
 |false=>uj C t u d S x y K
def SS (C:Ctx)(t:TypeId)(x h m:FV)(K:FV->Prop):Prop:=match bV C.jE t with
 |some ⟨_,_,.slice e,_⟩=>match bV C.jE e with|none=>False|some _=>match x.elems,h,m with|some _,.p (.int _ a),.p (.int _ b)=>a=0/\b=0/\K (.full [])|_,_,_=>False
 |_=>False
def Nw (C:Ctx)(t:TypeId)(dst:Option Nat)(S:an)(k:Nat)(T:TypeId)(bP:Nat)(lo:FV)(K:an->Prop):Prop:=match dst,bV C.jE t,lo with
 |some d,some ⟨_,_,.slice e,_⟩,.p (.int _ n)=>match bV C.jE e with|none=>False|some j=>match Nat.beq bP j.size,Bc S.aK k with|true,some xs=>∃m N:Nat,n=m/\xs.length=N*bP/\m<=N/\K (S.put (some d) (.uK k m T bP))|_,_=>False
 |_,_,_=>False
def Nx (C:Ctx)(t:TypeId)(dst:Option Nat)(S:an)(x:FV)(K:an->Prop):Prop:=match x with
 |.uK k b T bP=>match bV C.jE t with
  |some ⟨_,_,.slice e,_⟩=>match bV C.jE e with|none=>False|some j=>match Nat.beq bP j.size,Bc S.aK k with|true,some xs=>jW (j.zero.map FV.iC)=true/\∃N:Nat,xs.length=(b+N)*bP/\∃zs,xs.take (b*bP)++pV N (j.zero.map FV.iC)=zs/\K ((S.CL k zs).put dst (.p (.eN [])))|_,_=>False
  |_=>False
 |_=>False
def Py (C:Ctx)(dst:Option Nat)(S:an)(t:TypeId)(x:Operand)(lo hi mx:Option Operand)(K:an->Prop):Prop:=match S.val x with
 |.gH k T bP=>match lo,hi,mx with|none,some h,none=>SQ C t dst S k T bP (S.val h) K|some l,none,none=>Nw C t dst S k T bP (S.val l) K|_,_,_=>False
 |v=>match lo,hi,mx with|none,some h,some m=>SS C t v (S.val h) (S.val m) λv=>K (S.put dst v)|_,_,_=>eV C S (.slice t x lo hi mx) λv=>K (S.put dst v)
mutual def FV.Kv (d E:Nat)(rj:List (List AV)):FV->FV
 |.ptr o off=>match Nat.beq o d with|true=>.dW|false=>.ptr o off
 |.gV o b off=>match Nat.beq o d with|true=>.dW|false=>.gV o b off
 |.gH o T e=>match Nat.beq o d with
  |true=>match Nat.beq e E with|true=>.gd o T e rj|false=>.dW
  |false=>.gH o T e
 |.uK o x T e=>match Nat.beq o d with|true=>.dW|false=>.uK o x T e
 |.gd t T e xs=>match Nat.beq t d with|true=>.p (.sl xs)|false=>.gd t T e xs
 |.agg xs=>.agg (FV.CM d E rj xs)
 |.eN xs=>.eN (FV.CM d E rj xs)
 |.fn f first captured=>.fn f (FV.CM d E rj first) (FV.CM d E rj captured)
 |.p x=>.p x
 |.full xs=>.full xs
 |.mh l=>match Nat.beq l d with|true=>.dW|false=>.mh l
 |.gw o=>match Nat.beq o d with|true=>.dW|false=>.gw o
 |.Ay o=>match Nat.beq o d with|true=>.dW|false=>.Ay o
 |.dW=>.dW def FV.CM (d E:Nat)(rj:List (List AV)):List FV->List FV|[]=>[]|x::xs=>FV.Kv d E rj x::FV.CM d E rj xs end
theorem FV.wW (d E:Nat)(rj:List (List AV))(xs:List FV):FV.CM d E rj xs=xs.map (FV.Kv d E rj):=by
 induction xs with
 |nil=>simp[FV.CM]
 |cons x xs ih=>simp[FV.CM,ih]
def AB (d E:Nat)(rj:List (List AV)):List (Nat×List FV)->List (Nat×List FV)|[]=>[]|(u,i)::r=>match Nat.beq u d with|true=>AB d E rj r|false=>(u,FV.CM d E rj i)::AB d E rj r
def an.Pz (S:an)(d E:Nat)(rj:List (List AV)):an:={S with tmps:=λi=>(S.tmps i).Kv d E rj,aK:=AB d E rj S.aK,bM:=yW (FV.Kv d E rj) S.bM,dh:=CI d S.dh,maps:=Bj (FV.Kv d E rj) (Bd d S.maps),jD:=Bd d S.jD}
structure aic (S:an)(d E:Nat)(rj:List (List AV)):Prop where
 obj:∃cells,Bc S.aK d=some cells/\FV.gx cells=some rj.flatten
 each:∀ys,ys∈rj->ys.length=E/\∀y,y∈ys->y.one=true
def GN (C:Ctx)(call:iR)(Y:pn)(o:Oper)(K:an->Prop)(S:an):Prop:=match o.op with
 |.makeFunc fn first captured=>∃fr:List Nat,FO fr (λS=>qd (first.toList.map S.val) λa=>qd (captured.toList.map S.val) λb=>K (S.put o.dst (.fn fn a b))) S
 |.buildSlice t len parts=>match o.dst,bV C.jE t with
  |some d,some ⟨_,_,.slice e,_⟩=>match hU d C.ex.opens with
   |true=>yY C S e d len parts.toList K
   |false=>mC C S t len parts.toList λv=>match v with
    |.full xs=>match bV C.jE e with|none=>False|some j=>wU S d λnm=>K ((S.kill nm).put (some d) (.gd nm e j.size xs))
    |_=>False
  |_,_=>False
 |.alloc t=>match o.dst,bV C.jE t with
  |some d,some i=>match Nat.beq t C.bT,i.zero with|true,[.pointer none,.slice none 0 0]=>Nt S d K|_,_=>qd (i.zero.map FV.iC) λcs=>Hl S d cs K
  |_,_=>False
 |.box t x=>match o.dst,bV C.jE t with
  |some d,some i=>match Nat.beq (S.val x).cells.length i.size with
   |true=>match jW (S.val x).cells with|true=>qd (S.val x).cells λcs=>Hl S d cs K|false=>False
   |false=>False
  |_,_=>False
 |.store t a x=>match bV C.jE t,S.val a with
  |some i,.ptr ob off=>match getObj S.aK ob with
   |none=>False
   |some cells=>match Nat.beq (S.val x).cells.length i.size with
    |true=>match jW (S.val x).cells with
     |true=>match gY cells off (S.val x).cells with|some cs=>qd cs λcs=>K ((S.CL ob cs).put o.dst (.p (.eN [])))|none=>False
     |false=>False
    |false=>False
  |some i,.gV ob base off=>match getObj S.aK ob with
   |none=>False
   |some cells=>match Nat.beq (S.val x).cells.length i.size with
    |true=>match jW (S.val x).cells with|true=>∃A ys B:List FV,cells=A++(ys++B)/\A.length=base/\(match gY ys off (S.val x).cells with|some zs=>qd zs λzs=>∃cs,A++(zs++B)=cs/\K ((S.CL ob cs).put o.dst (.p (.eN [])))|none=>False)|false=>False
    |false=>False
  |_,_=>False
 |.makeMap _ none=>match o.dst with|some d=>Nu S d K|none=>False
 |.makeSlice t len cap=>match o.dst with|some d=>SP C S t d (S.val len) (S.val cap) K|none=>False
 |.mapUpdate t m k x=>Vj C S o.dst t (S.val m) (S.val k) (S.val x) K
 |.insert t m k x=>Vj C S o.dst t (S.val m) (S.val k) (S.val x) K
 |.slice t x lo hi mx=>Py C o.dst S t x lo hi mx K
 |.convert src ty x=>Vl C o.dst S src ty x K
 |.call c=>match c.callee with
  |.builtin .append=>match c.args.toList.map S.val,c.argTypes.toList,o.dst with
   |[x,y],[t,u],some d=>match y with|.gH o2 T2 e2=>SK C t u d S x o2 T2 e2 K|y=>SR C t u d S x y K
   |_,_,_=>False
  |.builtin .clear=>match c.args.toList.map S.val,c.argTypes.toList with|[x],[t]=>Nx C t o.dst S x K|_,_=>False
  |.builtin b=>jY C S.aK b (c.args.toList.map S.val) c.argTypes.toList λv=>K (S.put o.dst v)
  |.value f=>SM C call Y S o.dst (S.val f) (c.args.toList.map S.val) K
  |.invoke _ _=>False
 |op=>eV C S op λv=>K (S.put o.dst v)
def HT:Bool->Bool->Bool|true,b=>b|false,true=>false|false,false=>true
theorem oI (a b:Bool):HT a b=(a==b):=by cases a<;>cases b<;>rfl
def pK (C:Ctx)(call:iR)(Y:pn)(ops:Array Oper):List Oper->(an->Prop)->an->Prop
 |[],K,S=>K S
 |o::rest,K,S=>match o.guard with
  |none=>GN C call Y o (pK C call Y ops rest K) S
  |some (j,want)=>match(ops[j]?).bind (·.dst)with
   |none=>False
   |some d=>match S.get d with
    |.p (.bool b)=>match HT b want with|true=>GN C call Y o (pK C call Y ops rest K) S|false=>pK C call Y ops rest K (S.put o.dst (.p (.eN [])))
    |.p (.eN [])=>pK C call Y ops rest K (S.put o.dst (.p (.eN [])))
    |_=>False
def Ho (C:Ctx)(ops:Array Oper):List Oper->(an->Prop)->an->Prop
 |[],K,S=>K S
 |o::rest,K,S=>match o.guard with
  |none=>∃v,eV C S o.op (λu=>u=v)/\Ho C ops rest K (S.put o.dst v)
  |some (j,want)=>match(ops[j]?).bind (·.dst)with
   |none=>False
   |some d=>match S.get d with
    |.p (.bool b)=>match HT b want with|true=>∃v,eV C S o.op (λu=>u=v)/\Ho C ops rest K (S.put o.dst v)|false=>Ho C ops rest K (S.put o.dst (.p (.eN [])))
    |.p (.eN [])=>Ho C ops rest K (S.put o.dst (.p (.eN [])))
    |_=>False
def dstsOf:List Oper->List Nat|[]=>[]|o::os=>match o.dst with|some d=>d::dstsOf os|none=>dstsOf os
def an.vH (S:an)(ds:List Nat):an:={S with tmps:=λi=>match hU i ds with|true=>.dW|false=>S.tmps i}
def uR (K:an->Prop)(Q:Exit->an->Prop):Exit->an->Prop|.normal,S=>K S|e,S=>Q e S
def HU (id:Nat)(Q:Exit->an->Prop):Exit->an->Prop
 |.exit n,S=>match Nat.beq n id with|true=>Q .normal S|false=>Q (.exit n) S
 |e,S=>Q e S
def guarded:List Oper->Bool|[]=>false|o::os=>match o.guard with|some _=>true|none=>guarded os
def qe:List Oper->List Nat
 |[]=>[]
 |[o]=>match o.dst with|some d=>[d]|none=>[]
 |o::os=>match o.op,o.dst with|.assign _,some d=>d::qe os|_,_=>qe os
def getAll (S:an):List Nat->List FV|[]=>[]|r::rs=>S.get r::getAll S rs
def EL (K:an->Prop):an->List Nat->(List FV->Prop)->Prop|S,[],φ=>Al λ_:φ []=>K S|S,r::rs,φ=>Al λv=>EL K (S.put (some r) v) rs λvs=>φ (v::vs)
def uk (ops:Array Oper):Nat->Nat->Nat->Bool|0,_,_=>false|fuel+1,j,i=>match ops[j]?with|none=>false|some o=>o.after.toList.any λe=>Region.binds .any e&&(e.on==i||uk ops fuel e.on i)
def PB (ops:Array Oper)(q:Nat->Bool)(listed:Array Bool)(k:Nat):Bool:=match ops[k]?with|none=>false|some o=>(List.range ops.size).all λj=>j==k||listed.getD j true||uk ops ops.size j k||(q j&&match ops[j]?with|none=>true|some oj=>o.apart ops oj)
def um (ops:Array Oper)(m:Nat):Nat->Nat->Array Bool->Bool|0,_,listed=>(Region.ready .any ops listed).isEmpty|fuel+1,k,listed=>(match decide (k<m)with|true=>(Region.ready .any ops listed).contains k&&PB ops (λj=>decide (j<m)) listed k|false=>Region.ready .any ops listed==[k])&&um ops m fuel (k+1) (listed.setIfInBounds k true)
def BL (ops:Array Oper)(m:Nat):Bool:=decide (m<=ops.size)&&Region.noSelect ops&&um ops m ops.size 0 (Array.replicate ops.size false)
mutual def FV.safe (pr:List Nat):FV->Bool
 |.p _=>true
 |.agg xs=>FV.uS pr xs
 |.eN xs=>FV.uS pr xs
 |.ptr o _=>hU o pr
 |.gd t _ _ _=>hU t pr
 |.full _=>true
 |.fn _ a b=>match FV.uS pr a with|true=>FV.uS pr b|false=>false
 |.mh l=>hU l pr
 |.gH o _ _=>hU o pr
 |.uK o _ _ _=>hU o pr
 |.gV o _ _=>hU o pr
 |.gw o=>hU o pr
 |.Ay o=>hU o pr
 |.dW=>true def FV.uS (pr:List Nat):List FV->Bool|[]=>true|x::xs=>match FV.safe pr x with|true=>FV.uS pr xs|false=>false end
def opsL:Op->Option (List Operand)|.move x=>some [x]|.assign x=>some [x]|.pick c x y=>some [c,x,y]|.binOp _ _ x y _=>some [x,y]|.unOp _ _ x=>some [x]|.convert _ _ x=>some [x]|.load _ x=>some [x]|.nilCheck x=>some [x]|.fieldAddr _ x _=>some [x]|.field _ x _=>some [x]|.indexAddr _ x i=>some [x,i]|.index _ x i=>some [x,i]|.slice _ x lo hi none=>some (x::(lo.toList++hi.toList))|.extract x _=>some [x]|.call ⟨.value f,args,_⟩=>some (f::args.toList)|.call ⟨.builtin _,args,_⟩=>some args.toList|.build _ parts=>some (parts.toList.map (·.2))|.buildSlice _ _ parts=>some (parts.toList.map (·.2))|_=>none
def yZ (pr:List Nat)(S:an):List Operand->Bool|[]=>true|z::zs=>match(S.val z).safe pr with|true=>yZ pr S zs|false=>false
def yu (pr:List Nat)(S:an)(op:Op)(v:FV):Bool:=match opsL op with|none=>false|some zs=>match yZ pr S zs with|true=>v.safe pr|false=>false
def Lv (pr:List Nat)(k:Nat):FV->Bool|.gd t _ _ _=>!hU t pr|.full _=>!hU k pr|_=>false
def oJ (il:List FuncId)(pr:List Nat)(S:an)(dst:Option Nat):Op->Bool
 |.alloc _=>match dst with|some d=>!hU (S.off+d) pr|none=>false
 |.store _ a _=>match S.val a with|.ptr ob _=>!hU ob pr|_=>false
 |.call ⟨.builtin .append,args,_⟩=>match args.toList.map S.val,dst with
  |[x,y],some d=>match y with|.gH _ _ _=>false|_=>Lv pr (S.off+d) x
  |_,_=>false
 |.call ⟨.value f,args,_⟩=>match S.val f with
  |.p (.fn (.func g) _ _)=>match hU g il,FV.gx (args.toList.map S.val),dst with|false,some _,some d=>!hU (S.off+d) pr|_,_,_=>false
  |_=>false
 |_=>false
inductive Kw where|fin|one (k:Nat)(p:Kw)|alt (k:Nat)(p r:Kw)|stop
def Kw.Vm:Kw->List Nat|.alt k _ r=>k::r.Vm|_=>[]
structure rZ where
 calm:List Nat
 akD:List Nat
 akE:List Nat
 pr:List Nat
def rZ.of (c:rZ)(i:Nat):Nat:=match hU i c.calm with|true=>1|false=>match hU i c.akD with|true=>2|false=>match hU i c.akE with|true=>3|false=>0
def oB (ops:Array Oper)(c:rZ):Kw->Bool->Nat->Array Bool->Bool
 |.fin,top,_,listed=>top&&(Region.ready .any ops listed).isEmpty
 |.stop,top,_,_=>!top
 |.one k p,top,fuel,listed=>top&&match fuel with|0=>false|fuel+1=>Nat.ble (c.of k) 1&&(Region.ready .any ops listed).contains k&&PB ops (λj=>Nat.ble (c.of j) (c.of k+1)) listed k&&oB ops c p true fuel (listed.setIfInBounds k true)
 |.alt k p r,top,fuel,listed=>(!top||Region.ready .any ops listed==(k::r.Vm))&&match fuel with|0=>false|fuel'+1=>oB ops c p true fuel' (listed.setIfInBounds k true)&&oB ops c r false fuel listed
def agq (C:Ctx)(ops:Array Oper)(pr:List Nat)(o:Oper)(K:an->Prop)(S:an):Prop:=match o.guard with
 |none=>∃v,eV C S o.op (λu=>u=v)/\yu pr S o.op v=true/\K (S.put o.dst v)
 |some (j,want)=>match(ops[j]?).bind (·.dst)with
  |none=>False
  |some d=>match S.get d with
   |.p (.bool b)=>match HT b want with|true=>∃v,eV C S o.op (λu=>u=v)/\yu pr S o.op v=true/\K (S.put o.dst v)|false=>K (S.put o.dst (.p (.eN [])))
   |.p (.eN [])=>K (S.put o.dst (.p (.eN [])))
   |_=>False
def agr (C:Ctx)(call:iR)(Y:pn)(ops:Array Oper)(pr:List Nat)(o:Oper)(K:an->Prop)(S:an):Prop:=match o.guard with
 |none=>oJ C.ex.inl pr S o.dst o.op=true/\GN C call Y o K S
 |some (j,want)=>match(ops[j]?).bind (·.dst)with
  |none=>False
  |some d=>match S.get d with
   |.p (.bool b)=>match HT b want with|true=>oJ C.ex.inl pr S o.dst o.op=true/\GN C call Y o K S|false=>K (S.put o.dst (.p (.eN [])))
   |.p (.eN [])=>K (S.put o.dst (.p (.eN [])))
   |_=>False
def za (C:Ctx)(call:iR)(Y:pn)(ops:Array Oper)(c:rZ)(k:Nat)(K:an->Prop)(S:an):Prop:=match ops.toList[k]?with|none=>False|some o=>match c.of k with|0=>Ho C ops [o] K S|1=>agq C ops c.pr o K S|2=>agr C call Y ops c.pr o K S|_=>pK C call Y ops [o] K S
def oC (C:Ctx)(call:iR)(Y:pn)(ops:Array Oper)(c:rZ)(K:an->Prop):Kw->an->Prop|.fin,S=>K S|.stop,_=>True|.one k p,S=>za C call Y ops c k (oC C call Y ops c K p) S|.alt k p r,S=>match r with|.stop=>za C call Y ops c k (oC C call Y ops c K p) S|_=>za C call Y ops c k (oC C call Y ops c K p) S/\oC C call Y ops c K r S
inductive How where|lex (m:Nat)|keep (φ:List FV->Prop)|plan (c:rZ)(p:Kw)(T:Option an)|sea (c:rZ)(J:Array Bool->an->Prop)
def lV (C:Ctx)(call:iR)(Y:pn)(ops:Array Oper)(draw:Bool)(K:an->Prop)(S:an):Prop:=match draw,guarded ops.toList with
 |false,false=>pK C call Y ops ops.toList K S
 |false,true=>∃φ:Option (List FV->Prop),match φ with|some φ=>Ho C ops ops.toList (λS'=>φ (getAll S' (qe ops.toList))) S/\EL K (S.vH (dstsOf ops.toList)) (qe ops.toList) φ|none=>pK C call Y ops ops.toList K S
 |true,_=>∃how:How,match how with
  |.lex m=>BL ops m=true/\Ho C ops (ops.toList.take m) (pK C call Y ops (ops.toList.drop m) K) S
  |.keep φ=>BL ops ops.size=true/\Ho C ops ops.toList (λS'=>φ (getAll S' (qe ops.toList))) S/\EL K (S.vH (dstsOf ops.toList)) (qe ops.toList) φ
  |.plan c p T=>oB ops c p true ops.size (Array.replicate ops.size false)=true/\match T with|none=>oC C call Y ops c K p S|some T=>oC C call Y ops c (λS'=>cU S' T) p S/\K T
  |.sea c J=>J (Array.replicate ops.size false) S/\(∀(listed:Array Bool)(S':an)(k:Nat),J listed S'->k∈Region.ready .any ops listed->za C call Y ops c k (J (listed.setIfInBounds k true)) S')/\∀(listed:Array Bool)(S':an),J listed S'->Region.ready .any ops listed=[]->K S'
def Zr (m k y d0 d1 d2 d3 n:Nat):Bool:=ltB d0 n&&ltB d1 n&&ltB d2 n&&ltB d3 n&&!hU m [d0,d1,d2,d3]&&!hU k [d0,d1,d2,d3]&&!hU y [d0,d1,d2,d3]&&!hU d0 [d1,d2,d3]&&!hU d1 [d2,d3]&&!Nat.beq d2 d3
def vJ (C:Ctx)(l:List Oper)(K:an->Prop)(S:an):Prop:=∃(t tx ty m k y d0 d1 d2 d3:Nat),l.map (·.op)=[.mapEntry t (.tmp m) (.tmp k),.extract (.tmp d0) 0,.call ⟨.builtin .append,#[.tmp d1,.tmp y],#[tx,ty]⟩,.extract (.tmp d0) 1,.entryStore t (.tmp m) (.tmp d3) (.tmp d2)]/\l.map (·.dst)=[some d0,some d1,some d2,some d3,none]/\l.map (·.guard)=[none,none,none,none,none]/\Zr m k y d0 d1 d2 d3 S.n=true/\match bV C.jE t,bV C.jE tx,bV C.jE ty with
 |some ⟨_,_,.map kT eT,_⟩,some ⟨_,_,.slice e,_⟩,some ui=>match ui.shape.FM,bV C.jE e,bV C.jE kT,S.get m with
  |true,some j,some ki,.gw ob=>match(S.get k).fA,(S.get y).items,getM S.maps ob,getM C.ex.Nk ob with|some kk,some ys,some l,some (T,z,x)=>Nat.beq T e=true/\Nat.beq z j.size=true/\Nat.beq j.bytes 0=false/\x≠some kk/\(C.P.info? eT).map (·.zero)=some (some (.slice none 0 0))/\∃L,fB C.P 40 kT=some L/\iJ ki.shape.isAgg L kk=true/\(∀p,p∈l->iJ ki.shape.isAgg L p.1=true)/\(∀zs,zs∈ys->zs.length=j.size)/\∃old:List (List AV),(match yq kk l with|some v=>v=.p (.sl old)|none=>old=[])/\(∀zs,zs∈old->zs.length=j.size)/\(old.length+ys.length)*j.bytes<=140737488355328/\∃l',HR kk (.p (.sl (old++ys))) l=l'/\K ((S.vH [d0,d1,d2,d3]).Lt (vG S.maps ob l'))|_,_,_,_=>False
  |_,_,_,_=>False
 |_,_,_=>False
def zb (ops:Array Oper)(m:Nat)(l:Array Bool):Bool:=let r:=Region.ready .any ops;let a:=l.setIfInBounds m true;let b:=a.setIfInBounds (m+1) true;let b2:=b.setIfInBounds (m+2) true;let b3:=b2.setIfInBounds (m+3) true;let c:=b.setIfInBounds (m+3) true;let c2:=c.setIfInBounds (m+2) true;let d:=a.setIfInBounds (m+3) true;let d1:=d.setIfInBounds (m+1) true;let d2:=d1.setIfInBounds (m+2) true;r l==[m]&&r a==[m+1,m+3]&&r b==[m+2,m+3]&&r b2==[m+3]&&r b3==[m+4]&&r (b3.setIfInBounds (m+4) true)==[]&&r c==[m+2]&&r c2==[m+4]&&r (c2.setIfInBounds (m+4) true)==[]&&r d==[m+1]&&r d1==[m+2]&&r d2==[m+4]&&r (d2.setIfInBounds (m+4) true)==[]
def CN (ops:Array Oper):Nat->Nat->Array Bool->Bool|0,k,listed=>zb ops k listed&&(List.range k).all λj=>listed.getD j true|f+1,k,listed=>(Region.ready .any ops listed).contains k&&PB ops (λj=>decide (j<k+(f+1))) listed k&&CN ops f (k+1) (listed.setIfInBounds k true)
def CO (ops:Array Oper):Bool:=Nat.ble 5 ops.size&&CN ops (ops.size-5) 0 (Array.replicate ops.size false)
def Hp (C:Ctx)(call:iR)(Y:pn)(ops:Array Oper)(draw:Bool)(K:an->Prop)(S:an):Prop:=match draw with|true=>CO ops=true/\Ho C ops (ops.toList.take (ops.size-5)) (vJ C (ops.toList.drop (ops.size-5)) K) S|false=>pK C call Y ops (ops.toList.take (ops.toList.length-5)) (vJ C (ops.toList.drop (ops.toList.length-5)) K) S
def HV:List Az->Nat->Option Az|[],_=>none|p::_,0=>some p|_::r,n+1=>HV r n
def WG:List Az->Nat->Az->List Az|[],_,_=>[]|_::r,0,q=>q::r|p::r,n+1,q=>p::WG r n q
def adt:List Fr->Nat->Option Fr|[],_=>none|p::_,0=>some p|_::r,n+1=>adt r n
def PC (f:Nat->FV):List Nat->List FV->Nat->FV|p::ps,x::xs=>PC (λi=>match Nat.beq i p with|true=>x|false=>f i) ps xs|_,_=>f
def an.enter (S:an)(n:Nat)(tmps:Nat->FV):an:={n:=n,off:=S.off+1000,tmps:=tmps,aK:=S.aK,bM:=⟨S.n,S.off,S.tmps⟩::S.bM,cO:=S.cO,dh:=S.dh,maps:=S.maps,jD:=S.jD}
def an.leave (S:an)(K:an->Prop):Prop:=match S.bM with|[]=>False|f::r=>K {n:=f.n,off:=f.off,tmps:=f.tmps,aK:=S.aK,bM:=r,cO:=S.cO,dh:=S.dh,maps:=S.maps,jD:=S.jD}
def uT (args:List FV):Nat->FV:=λi=>match args[i]?with|some x=>x|none=>.p (.eN [])
def zc (lvl:Nat)(st:Az)(K:an->Prop)(S:an):Prop:=match HV S.cO lvl with|some .busy=>an.leave {S with cO:=WG S.cO lvl st} K|_=>False
def Zs (lvl:Nat)(K:FV->an->Prop):Exit->an->Prop|.normal,S=>zc lvl .ready (K (.p (.bool true))) S|.ret,S=>zc lvl .Nl (K (.p (.bool false))) S|.exit id,S=>zc lvl (.HI id) (K (.p (.bool false))) S|_,_=>False
def Vn (lvl:Nat)(K:an->Prop)(S:an):Prop:=match HV S.cO lvl with|some .ready=>K {S with cO:=WG S.cO lvl .busy}|_=>False
def CP (lvl:Nat)(Q:Exit->an->Prop)(S:an):Prop:=match HV S.cO lvl with|some .ready=>Q .normal {S with cO:=S.cO.take lvl}|some .Nl=>Q .ret {S with cO:=S.cO.take lvl}|some (.HI id)=>Q (.exit id) {S with cO:=S.cO.take lvl}|_=>False
def Zt (S:an)(depth:Nat):Option Fr:=adt S.bM (S.bM.length-depth-1)
def wX (Y:pn)(assign body:(Exit->an->Prop)->an->Prop)(ps:List Nat)(lvl depth:Nat):pn:=λl args K S1=>match Nat.beq l (1000000+lvl)with|false=>Y l args K S1|true=>match HV S1.cO lvl,Zt S1 depth with|some .ready,some fr=>Nat.beq args.length ps.length=true/\assign (uR (Vn lvl (body (Zs lvl K))) λ_ _=>False) (S1.enter fr.n (PC fr.tmps ps args))|_,_=>False
def yQ (C:Ctx)(call:iR)(Y:pn):Code->(Exit->an->Prop)->an->Prop
 |.skip,Q,S=>Q .normal S
 |.region id ops draw,Q,S=>match hU id C.aia with|true=>∃T,cU S T/\lV C call Y ops draw (Q .normal) T|false=>match hU (S.off+id) C.ex.Nj with|true=>(∃(d E:Nat) (rj:List (List AV)),aic S d E rj/\lV C call Y ops draw (Q .normal) (S.Pz d E rj))\/lV C call Y ops draw (Q .normal) S|false=>match hU (S.off+id) C.ex.frm with|true=>(∃(d:Nat) (ks vs:List AV),Zl S d ks vs/\lV C call Y ops draw (Q .normal) (S.Pv d (.mp ks vs)))\/lV C call Y ops draw (Q .normal) S|false=>match hU (S.off+id) C.ex.fzo with|true=>∃fr:List Nat,FO fr (λS=>lV C call Y ops draw (Q .normal) S) S|false=>match hU (S.off+id) C.ex.rmr with|true=>Hp C call Y ops draw (Q .normal) S|false=>lV C call Y ops draw (Q .normal) S
 |.seq a b,Q,S=>yQ C call Y a (uR (yQ C call Y b Q) Q) S
 |.cond c x y,Q,S=>match S.val c with|.p (.bool true)=>yQ C call Y x Q S|.p (.bool false)=>yQ C call Y y Q S|_=>False
 |.block id c,Q,S=>yQ C call Y c (HU id Q) S
 |.loop c,Q,S=>∃(α:Type) (I:α->an->Prop) (μ:α->Nat),(∃a S',cU S S'/\I a S')/\∀a S,I a S->yQ C call Y c (uR (λS'=>∃a' uL,cU S' uL/\I a' uL/\μ a'<μ a) Q) S
 |.rangeFunc g ps assign body,Q,S=>HL S.cO.length λlvl=>HL S.bM.length λdep=>match S.val g with|.p (.fn (.func f) [] captured)=>call (wX Y (yQ C call Y assign) (yQ C call Y body) ps.toList lvl dep) f (.mh (1000000+lvl)::aH captured) (λ_ S'=>CP lvl Q S') {S.kill (1000000+lvl)with cO:=S.cO++[.ready]}|.fn (.func f) [] captured=>call (wX Y (yQ C call Y assign) (yQ C call Y body) ps.toList lvl dep) f (.mh (1000000+lvl)::FV.fu (1000000+lvl) captured) (λ_ S'=>CP lvl Q S') {S.kill (1000000+lvl)with cO:=S.cO++[.ready]}|_=>False
 |.exit id,Q,S=>Q (.exit id) S
 |.ret,Q,S=>Q .ret S
 |_,_,_=>False
def Bl (ntmps:Nat)(args:List AV):an:={n:=ntmps,tmps:=λi=>match(args)[i]?with|some x=>.p x|none=>.p (.eN []),off:=0,aK:=[],bM:=[],cO:=[],dh:=[]}
def mX (C:Ctx)(S:an):List ResultVar->(List AV->Prop)->Prop
 |[],K=>K []
 |.tmp t::rest,K=>match(S.get t).fA with|some x=>mX C S rest λxs=>K (x::xs)|none=>False
 |.cell a t::rest,K=>nB C S.aK t (S.get a) λv=>match v.fA with|some x=>mX C S rest λxs=>K (x::xs)|none=>False
def rq (C:Ctx)(S:an):List ResultVar->(List FV->Prop)->Prop|[],K=>K []|.tmp t::rest,K=>rq C S rest λxs=>K (S.get t::xs)|.cell a t::rest,K=>nB C S.aK t (S.get a) λv=>rq C S rest λxs=>K (v::xs)
def Kx:List FV->FV|[v]=>v|vs=>.eN vs
def PD (C:Ctx)(rs:List ResultVar)(K:FV->an->Prop):Exit->an->Prop|.normal,S=>rq C S rs λvs=>S.leave (K (Kx vs))|.ret,S=>rq C S rs λvs=>S.leave (K (Kx vs))|_,_=>False
def Zu (C:Ctx):Nat->iR|0=>λ_ _ _ _ _=>False|k+1=>λY g args K S=>∃fn,C.P.funcs[g]?=some fn/\fn.body.isSome=true/\(fn.name== "runtime.NumGoroutine")=false/\Nat.ble args.length fn.ntmps=true/\yQ C (Zu C k) Y (match fn.body with|some c=>c|none=>.skip) (PD C fn.results.toList K) (S.enter fn.ntmps (uT args))
def uo:pn:=λ_ _ _ _=>False
def ev (C:Ctx):Code->(Exit->an->Prop)->an->Prop:=yQ C (Zu C 6) uo
def Zv (S:an)(o bP:Nat)(K:List (List AV)->Prop):Prop:=∃xss:List (List AV),(∀ys,ys∈xss->ys.length=bP/\∀y,y∈ys->y.one=true)/\(match Bc S.aK o with|some cells=>FV.gx cells=some xss.flatten|none=>False)/\K xss
def ze (C:Ctx)(rs:List ResultVar)(R:dJ->Prop)(S:an):Prop:=match C.ex.full with
 |true=>rq C S rs λvs=>match FV.uS [] vs with|true=>R (.vf (Kx vs))|false=>False
 |false=>match rs with
  |[.tmp t]=>match S.get t with|.gd _ T bP xs=>R (.fresh T bP xs)\/R (.val (.sl xs))|.full []=>(∃T bP,R (.fresh T bP []))\/R (.val (.sl []))|.gw o=>∃ks vs:List AV,Zl S o ks vs/\R (.val (.mp ks vs))|.gH o T bP=>Zv S o bP λxss=>R (.own none T bP xss)|x=>match x.fA with|some y=>R (.val y)|none=>False
  |[.cell a t]=>nB C S.aK t (S.get a) λv=>match v.fA with|some y=>R (.val y)|none=>False
  |.tmp t::r1::rest=>match S.get t with|.gH o T bP=>mX C S (r1::rest) λys=>Zv S o bP λxss=>R (.own (some ys) T bP xss)|_=>mX C S (.tmp t::r1::rest) λxs=>R (.val (.eN xs))
  |rs=>mX C S rs λxs=>R (.val (.eN xs))
def uU (C:Ctx)(rs:List ResultVar)(R:dJ->Prop):Exit->an->Prop|.normal,S=>ze C rs R S|.ret,S=>ze C rs R S|_,_=>False
def Vo (ntmps:Nat)(cells args:List AV):an:={n:=ntmps,tmps:=uT (.ptr 999999 0::aH args),off:=0,aK:=[(999999,aH cells)],bM:=[],cO:=[],dh:=[]}
def AD (C:Ctx)(rs:List ResultVar)(n:Nat)(R:AV->List AV->Prop)(S:an):Prop:=rq C S rs λvs=>match(Kx vs).fA,getObj S.aK 999999 with
 |some r,some cells=>match FV.gx cells with|some ys=>Nat.beq ys.length n=true/\R r ys|none=>False
 |_,_=>False
def PF (C:Ctx)(rs:List ResultVar)(n:Nat)(R:AV->List AV->Prop):Exit->an->Prop|.normal,S=>AD C rs n R S|.ret,S=>AD C rs n R S|_,_=>False
def Vp (ntmps:Nat)(bs:List UInt8)(args:List AV):an:={n:=ntmps,tmps:=uT (.ptr 999999 0::aH args),off:=0,aK:=[],bM:=[],cO:=[],dh:=[(999999,bs)]}
def PG (ntmps:Nat)(aK:List (Nat×List FV))(m:Nat)(l:List (AV×FV))(args:List FV):an:={n:=ntmps,tmps:=uT args,off:=0,aK:=aK,bM:=[],cO:=[],dh:=[],maps:=[(m,l)]}
def HW (S:an):List (Nat×List FV)->Prop|[]=>True|(o,cells)::r=>getObj S.aK o=some cells/\HW S r
def AE (C:Ctx)(rs:List ResultVar)(aK:List (Nat×List FV))(m:Nat)(R:AV->List (AV×FV)->Prop)(S:an):Prop:=rq C S rs λvs=>match(Kx vs).fA,getM S.maps m with|some r,some l'=>(HW S aK/\Lu (jF aK) m l'=true)/\R r l'|_,_=>False
def PI (C:Ctx)(rs:List ResultVar)(aK:List (Nat×List FV))(m:Nat)(R:AV->List (AV×FV)->Prop):Exit->an->Prop|.normal,S=>AE C rs aK m R S|.ret,S=>AE C rs aK m R S|_,_=>False
end Qv
