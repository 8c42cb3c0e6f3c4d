/- Part 1 of the proof: its lemmas. No condition. -/
import Derived.Tactics
import Derived.KernelRfl
set_option maxRecDepth 10000
set_option maxHeartbeats 80000000
set_option linter.all false
namespace Qv
open Go
def av:=@List.getElem?_eq_getElem
def ah:=@decide_eq_false
def aj:=@List.length_map
def aq:=@List.length_append
def an:=@decide_eq_true
def aG:=@List.getElem?_eq_some_iff
def aa:=@if_neg
def au:=@Option.some.inj
def af:=@if_pos
def aP:=@Nat.eq_of_beq_eq_true
def aD:=@List.length_take
def aJ:=@List.take_length
def aK:=@List.getElem_mem
def aL:=@List.length_cons
def aR:=@List.getElem?_map
def aS:=@List.mem_singleton
def ay:=@Nat.le_refl
def aM:=@List.map_append
def bB:=@Array.getElem?_eq_some_iff
def bt:=@Nat.ne_of_beq_eq_false
def aI:=@List.mem_map
def bL:=@List.drop_eq_getElem_cons
def bq:=@List.mem_cons_of_mem
def aQ:=@List.mem_cons
def bK:=@List.length_eq_zero_iff
def bf:=@List.append_assoc
def bz:=@List.mem_of_getElem?
def aW:=@Bool.and_eq_true
def aY:=@List.append_nil
def bh:=@List.mem_append
def ck:=@List.take_of_length_le
def cO:=@List.getElem?_append_left
def br:=@List.length_nil
def ec:=@List.take_succ_eq_append_getElem
def aB:=@congrArg
def bN:=@Option.some.injEq
def dn:=@List.take_append_getElem
def cU:=@List.drop_eq_nil_of_le
def dY:=@List.getElem?_append_right
def cT:=@List.take_append_drop
def bV:=@List.length_drop
def di:=@List.length_filter_le
def bY:=@List.all_eq_true
def bH:=@Nat.le_trans
def dO:=@Nat.mul_le_mul_right
def bC:=@Nat.add_mul
def cV:=@List.mem_flatMap
def gm:=@Nat.eq_of_mul_eq_mul_right
def dZ:=@List.pairwise_cons
def iY:=@List.eq_nil_of_length_eq_zero
def gu:=@Int.eq_ofNat_of_zero_le
def eC:=@Bool.not_eq_true'
def fP:=@List.length_singleton
def cS:=@List.map_cons
def cM:=@Nat.zero_add
def eB:=@List.cons_append
def iU:=@Classical.byContradiction
def fQ:=@List.map_congr_left
def eA:=@Option.map_some
def gT:=@Nat.le_of_ble_eq_true
def gW:=@List.singleton_append
def fE:=@Classical.not_not
def fM:=@Nat.lt_of_lt_of_le
def eR:=@List.foldl_cons
def gz:=@List.getElem_of_mem
def gY:=@List.mem_append_left
def fO:=@List.ext_getElem?
def iQ:=@Array.getElem?_modify
def gq:=@List.mem_cons_self
def iP:=@List.getElem?_of_mem
def fR:=@List.any_eq_true
def eS:=@List.cons.inj
def nO:=@List.take_append_of_le_length
def gr:=@List.not_mem_nil
def gR:=@Int.toNat_natCast
def mg:=@Option.isSome_iff_exists
def jr:=@List.length_pos_iff
def js:=@Array.length_toList
def jv:=@Nat.mul_le_mul_left
def mb:=@List.getElem?_cons_succ
def mA:=@List.pairwise_singleton
def oa:=@List.getD_eq_getElem?_getD
def kH:=@Bool.or_eq_false_iff
def hU:=@List.mem_filter
def ia:=@Nat.not_lt_zero
def oq:=@List.mem_of_find?_eq_some
def iO:=@Array.toList_inj
def gj:=@Nat.add_assoc
def kM:=@List.filter_append
def ot:=@List.filter_cons_of_neg
def kz:=@List.nodup_append
def gQ:=@Bool.true_and
def iR:=@List.mem_range
def nT:=@List.getElem?_eq_none
def lV:=@List.getElem?_drop
def iW:=@Bool.false_or
def qA:=@List.filter_cons_of_pos
def gU:=@Nat.beq_refl
def gZ:=@List.map_map
def jy:=@Bool.false_and
def jA:=@List.take_zero
def ko:=@List.cons.injEq
def kD:=@List.nodup_cons
def oc:=@List.flatMap_append
def qc:=@Option.map_eq_some_iff
def tc:=@Array.getElem?_append_left
def lZ:=@Nat.mod_eq_of_lt
def mu:=@List.cons_ne_nil
def iN:=@List.map_nil
def oo:=@List.find?_eq_none
def gV:=@Prod.mk.inj
def tI:=@List.pairwise_iff_getElem
def nM:=@List.flatten_cons
def mj:=@Bool.eq_iff_iff
def mw:=@List.find?_cons
def mz:=@List.find?_some
def nP:=@Array.toList_map
def nR:=@Option.bind_some
def nU:=@Nat.shiftLeft_eq
def qi:=@BitVec.toNat_ofNat
def nN:=@List.nil_append
def sX:=@Array.getElem?_toList
def nW:=@List.sum_append
def nY:=@Nat.min_eq_left
def me:=@List.map_take
def qx:=@of_decide_eq_true
def sW:=@List.mem_of_mem_take
def xl:=@List.extract_eq_take_drop
def xB:=@Array.getElem?_eq_getElem
def qv:=@List.drop_length
def eO:=@Ne.symm
def kn:=@Nat.one_mul
def tn:=@List.mem_map_of_mem
def yh:=@List.getElem_append_left
def mC:=@List.any_nil
def sS:=@Bool.false_eq_true
def qd:=@Bool.or_eq_true
def nV:=@List.map_drop
def qm:=@List.any_append
def og:=@List.any_cons
def oh:=@Bool.or_false
def kr:=@Nat.mod_lt
def tf:=@List.length_range
def tF:=@List.foldl_append
def tJ:=@List.flatMap_cons
def qy:=@List.nodup_nil
def xG:=@List.mem_append_right
def CR:=@List.drop_append_of_le_length
def DH:=@Nat.shiftLeft_add_eq_or_of_lt
def xk:=@List.extract_toArray
def xm:=@List.mem_of_mem_drop
def xy:=@List.getElem?_append
def xZ:=@List.length_take_le'
def CH:=@Array.getElem_setIfInBounds
def xC:=@beq_eq_false_iff_ne
def Dr:=@Array.getD_eq_getD_getElem?
def xK:=@List.getElem?_range
def ye:=@List.flatten_append
def DE:=@Int.fdiv_eq_ediv_of_nonneg
def pZ:=@Nat.add_comm
def xx:=@Nat.pos_of_ne_zero
def xE:=@List.mem_filterMap
def ym:=@of_decide_eq_false
def sY:=@List.drop_drop
def Ec:=@List.getElem_append_right
def Da:=@List.getElem?_take_of_lt
def tC:=@Nat.lt_irrefl
def xw:=@Option.getD_some
def xA:=@List.mem_flatten
def xF:=@List.filter_cons
def xT:=@List.getElem_map
def CQ:=@List.drop_of_length_le
def Dm:=@Array.getElem?_eq_none
def sZ:=@Nat.mul_comm
def Dl:=@List.getElem?_toArray
def Dw:=@List.contains_iff_mem
def xR:=@List.range_succ
def tE:=@Bool.true_or
def CL:=@List.range_eq_range'
def CY:=@List.getElem?_set_ne
def Df:=@Nat.div_lt_of_lt_mul
def Dj:=@Array.toArray_toList
def wZ:=@Bool.and_assoc
def xI:=@List.drop_zero
def xN:=@UInt8.toNat_lt
def xY:=@Bool.and_false
def CT:=@List.take_succ_cons
def td:=@Nat.mul_one
def xH:=@List.sum_cons
def DB:=@List.getElem?_take
def DF:=@Int.natCast_nonneg
def Ei:=@Nat.add_sub_cancel
def DG:=@Nat.or_lt_two_pow
def Ej:=@List.any_eq_false
def Pj:=@List.eq_nil_iff_forall_not_mem
def CV:=@List.map_toArray
def DL:=@Nat.lt_succ_self
def NL:=@Array.getElem?_setIfInBounds
def wP:=@Sum.inl.inj
def Dh:=@Nat.div_add_mod
def ND:=@Array.getElem?_append_right
def EE:=@List.drop_left'
theorem oO {p:Prop}(h:p:=by omega):p:=h
theorem kK {p:Prop}(h:p:=by kernel_rfl):p:=h
theorem dD {p:Prop}(h:p:=by decide):p:=h
theorem zL {n:Nat}:0<=n:=Nat.zero_le n
inductive AV where|bool (b:Bool)|int (k:IntKind)(n:Int)|str (s:List UInt8)|wN|BA|sE|lu|iface (t:TypeId)(x:AV)|agg (xs:List AV)|eV (xs:List AV)|sl (xs:List (List AV))|imp (xs:List AV)|fn (f:Fn)(first captured:List AV)|mp (ks vs:List AV) deriving Inhabited
def AV.one:AV->Bool|.agg _=>false|.eV _=>false|_=>true
def AV.cells:AV->List AV|.agg xs=>xs|x=>[x]
structure nL (es:List MapEntry)(fW:Nat):Prop where
 lt:∀e,e∈es->e.born<fW
 nd:(es.map (·.born)).Nodup
def wO (aZ:Nat->Nat->Prop)(w w':World):Prop:=∀(b:Nat)(es:Array MapEntry)(k:Nat),aZ b 0->w.heap[b]?=some (.map es k)->w'.heap[b]?=some (.map es k)
theorem wO.refl (aZ:Nat->Nat->Prop)(w:World):wO aZ w w:=λ_ _ _ _ h=>h
inductive dh (aZ:Nat->Nat->Prop)(w:World):Value->AV->Prop|bool (b:Bool):dh aZ w (.bool b) (.bool b)|int (k:IntKind)(n:Int):dh aZ w (.int k n) (.int k n)|str (s:List UInt8):dh aZ w (.string ⟨s.toArray⟩) (.str s)|wN:dh aZ w (.pointer none) .wN|BA:dh aZ w .nilFunc .BA|sE:dh aZ w .nilIface .sE|lu:dh aZ w (.map none) .lu|iface (t:TypeId)(v:Value)(x:AV):dh aZ w v x->dh aZ w (.iface t v) (.iface t x)|agg (cs:List Value)(xs:List AV):cs.length=xs.length->(∀x,x∈xs->x.one=true)->(∀(i:Nat)(c:Value)(x:AV),cs[i]?=some c->xs[i]?=some x->dh aZ w c x)->dh aZ w (.agg cs.toArray) (.agg xs)|eV (cs:List Value)(xs:List AV):cs.length=xs.length->(∀(i:Nat)(c:Value)(x:AV),cs[i]?=some c->xs[i]?=some x->dh aZ w c x)->dh aZ w (.tuple cs.toArray) (.eV xs)|Xi (a:Option Addr)(c:Nat):dh aZ w (.slice a 0 c) (.sl [])|sl (b off c bP:Nat)(xs:List (List AV))(cell:Nat->Nat->Value):(∀(i:Nat)(ys:List AV),xs[i]?=some ys->ys.length=bP)->(∀(i:Nat)(ys:List AV)(j:Nat)(y:AV),xs[i]?=some ys->ys[j]?=some y->y.one=true)->(∀(i:Nat)(ys:List AV)(j:Nat)(y:AV),xs[i]?=some ys->ys[j]?=some y->w.cell? ⟨b,off+i*bP+j,none⟩=some (cell i j))->(∀(i:Nat)(ys:List AV)(j:Nat)(y:AV),xs[i]?=some ys->ys[j]?=some y->aZ b (off+i*bP+j))->(∀(i:Nat)(ys:List AV)(j:Nat)(y:AV),xs[i]?=some ys->ys[j]?=some y->dh aZ w (cell i j) y)->xs.length<=c->dh aZ w (.slice (some ⟨b,off,none⟩) xs.length c) (.sl xs)|imp (b off:Nat)(xs:List AV)(cell:Nat->Value):(∀(j:Nat)(y:AV),xs[j]?=some y->y.one=true)->(∀(j:Nat)(y:AV),xs[j]?=some y->w.cell? ⟨b,off+j,none⟩=some (cell j))->(∀(j:Nat)(y:AV),xs[j]?=some y->aZ b (off+j))->(∀(j:Nat)(y:AV),xs[j]?=some y->dh aZ w (cell j) y)->dh aZ w (.pointer (some ⟨b,off,none⟩)) (.imp xs)|fn (f:Fn)(fs cs:List Value)(first captured:List AV):fs.length=first.length->cs.length=captured.length->(∀(i:Nat)(c:Value)(x:AV),fs[i]?=some c->first[i]?=some x->dh aZ w c x)->(∀(i:Nat)(c:Value)(x:AV),cs[i]?=some c->captured[i]?=some x->dh aZ w c x)->dh aZ w (.func f fs.toArray cs.toArray) (.fn f first captured)|mp (b fW:Nat)(es:List MapEntry)(ks vs:List AV):ks.length=es.length->vs.length=es.length->aZ b 0->w.heap[b]?=some (.map es.toArray fW)->nL es fW->(∀(i:Nat)(e:MapEntry)(x:AV),es[i]?=some e->ks[i]?=some x->dh aZ w e.key x)->(∀(i:Nat)(e:MapEntry)(x:AV),es[i]?=some e->vs[i]?=some x->dh aZ w e.val x)->dh aZ w (.map (some b)) (.mp ks vs)
theorem dh.keep {aZ qN:Nat->Nat->Prop}{w w':World}{v:Value}{x:AV}(h:dh aZ w v x)(hi:∀b o,aZ b o->qN b o)(hc:∀b o c,aZ b o->w.cell? ⟨b,o,none⟩=some c->w'.cell? ⟨b,o,none⟩=some c)(hm:wO aZ w w'):dh qN w' v x:=by
 induction h with
 |bool b=>exact .bool b
 |int k n=>exact .int k n
 |str s=>exact .str s
 |wN=>exact .wN
 |BA=>exact .BA
 |sE=>exact .sE
 |lu=>exact .lu
 |iface t v x _ ih=>exact .iface t v x ih
 |agg cs xs hl ho _ ih=>exact .agg cs xs hl ho λi c x h1 h2=>ih i c x h1 h2
 |eV cs xs hl _ ih=>exact .eV cs xs hl λi c x h1 h2=>ih i c x h1 h2
 |Xi a c=>exact .Xi a c
 |sl b off c bP xs cell h1 h2 h3 h4 _ h6 ih=>exact .sl b off c bP xs cell h1 h2 (λi ys j y a1 a2=>hc _ _ _ (h4 i ys j y a1 a2) (h3 i ys j y a1 a2)) (λi ys j y a1 a2=>hi _ _ (h4 i ys j y a1 a2)) (λi ys j y a1 a2=>ih i ys j y a1 a2) h6
 |imp b off xs cell h2 h3 h4 _ ih=>exact .imp b off xs cell h2 (λj y a2=>hc _ _ _ (h4 j y a2) (h3 j y a2)) (λj y a2=>hi _ _ (h4 j y a2)) (λj y a2=>ih j y a2)
 |fn f fs cs first captured hl hl' _ _ ih HN=>exact .fn f fs cs first captured hl hl' (λi c x h1 h2=>ih i c x h1 h2) (λi c x h1 h2=>HN i c x h1 h2)
 |mp b fW es ks vs h1 h2 h3 h4 h5 _ _ ih HN=>exact .mp b fW es ks vs h1 h2 (hi _ _ h3) (hm _ _ _ h3 h4) h5 (λi c x a1 a2=>ih i c x a1 a2) (λi c x a1 a2=>HN i c x a1 a2)
theorem dh.yZ {aZ qN:Nat->Nat->Prop}{w w':World}{v:Value}{x:AV}(h:dh aZ w v x)(hc:∀b o c,aZ b o->w.cell? ⟨b,o,none⟩=some c->qN b o/\w'.cell? ⟨b,o,none⟩=some c)(hm:∀(b:Nat)(es:Array MapEntry)(k:Nat),aZ b 0->w.heap[b]?=some (.map es k)->qN b 0/\w'.heap[b]?=some (.map es k)):dh qN w' v x:=by
 induction h with
 |bool b=>exact .bool b
 |int k n=>exact .int k n
 |str s=>exact .str s
 |wN=>exact .wN
 |BA=>exact .BA
 |sE=>exact .sE
 |lu=>exact .lu
 |iface t v x _ ih=>exact .iface t v x ih
 |agg cs xs hl ho _ ih=>exact .agg cs xs hl ho λi c x h1 h2=>ih i c x h1 h2
 |eV cs xs hl _ ih=>exact .eV cs xs hl λi c x h1 h2=>ih i c x h1 h2
 |Xi a c=>exact .Xi a c
 |sl b off c bP xs cell h1 h2 h3 h4 _ h6 ih=>exact .sl b off c bP xs cell h1 h2 (λi ys j y a1 a2=>(hc _ _ _ (h4 i ys j y a1 a2) (h3 i ys j y a1 a2)).2) (λi ys j y a1 a2=>(hc _ _ _ (h4 i ys j y a1 a2) (h3 i ys j y a1 a2)).1) (λi ys j y a1 a2=>ih i ys j y a1 a2) h6
 |imp b off xs cell h2 h3 h4 _ ih=>exact .imp b off xs cell h2 (λj y a2=>(hc _ _ _ (h4 j y a2) (h3 j y a2)).2) (λj y a2=>(hc _ _ _ (h4 j y a2) (h3 j y a2)).1) (λj y a2=>ih j y a2)
 |fn f fs cs first captured hl hl' _ _ ih HN=>exact .fn f fs cs first captured hl hl' (λi c x h1 h2=>ih i c x h1 h2) (λi c x h1 h2=>HN i c x h1 h2)
 |mp b fW es ks vs h1 h2 h3 h4 h5 _ _ ih HN=>exact .mp b fW es ks vs h1 h2 (hm _ _ _ h3 h4).1 (hm _ _ _ h3 h4).2 h5 (λi c x a1 a2=>ih i c x a1 a2) (λi c x a1 a2=>HN i c x a1 a2)
inductive FV where|p (x:AV)|agg (xs:List FV)|eV (xs:List FV)|ptr (o off:Nat)|eH (t:Nat)(T:TypeId)(bP:Nat)(xs:List (List AV))|full (xs:List (List AV))|fn (f:Fn)(first captured:List FV)|ni (l:Nat)|fe (o:Nat)(T:TypeId)(bP:Nat)|uH (o base:Nat)(T:TypeId)(bP:Nat)|ij (o base off:Nat)|fI (o:Nat)|Bh (q:Nat)|dF deriving Inhabited
abbrev Nm:=Nat⊕(Nat×Nat)
instance:Coe Nat Nm:=⟨Sum.inl⟩
theorem Vx {i d:Nat}(h:i≠d):(Sum.inl i:Nm)≠Sum.inl d:=λe=>h (wP e)
structure aV where
 aZ:Nat->Nat->Prop
 loc:Nat->Option Nat
 tail:Nm->Option (Nat×Nat×Nat×TypeId)
 yl:Nat->Option Nat
 row:Nat->Option Nat
 mp:Nat->Option Nat
 it:Nat->Option Nat
inductive aT (G:aV)(w:World):Value->FV->Prop|p (v:Value)(x:AV):dh G.aZ w v x->aT G w v (.p x)|agg (cs:List Value)(xs:List FV):cs.length=xs.length->(∀(i:Nat)(c:Value)(x:FV),cs[i]?=some c->xs[i]?=some x->aT G w c x)->aT G w (.agg cs.toArray) (.agg xs)|eV (cs:List Value)(xs:List FV):cs.length=xs.length->(∀(i:Nat)(c:Value)(x:FV),cs[i]?=some c->xs[i]?=some x->aT G w c x)->aT G w (.tuple cs.toArray) (.eV xs)|ptr (o off b:Nat):G.loc o=some b->aT G w (.pointer (some ⟨b,off,none⟩)) (.ptr o off)|eH (t:Nat)(T:TypeId)(bP:Nat)(xs:List (List AV))(a:Option Addr)(c:Nat):dh G.aZ w (.slice a xs.length c) (.sl xs)->((xs=[]/\c=0)\/∃b off,a=some ⟨b,off,none⟩/\(∀ys,ys∈xs->ys.length=bP)/\G.tail t=some (b,off+xs.length*bP,off+c*bP,T))->aT G w (.slice a xs.length c) (.eH t T bP xs)|full (xs:List (List AV))(a:Option Addr):dh G.aZ w (.slice a xs.length xs.length) (.sl xs)->aT G w (.slice a xs.length xs.length) (.full xs)|fn (f:Fn)(fs cs:List Value)(first captured:List FV):fs.length=first.length->cs.length=captured.length->(∀(i:Nat)(c:Value)(x:FV),fs[i]?=some c->first[i]?=some x->aT G w c x)->(∀(i:Nat)(c:Value)(x:FV),cs[i]?=some c->captured[i]?=some x->aT G w c x)->aT G w (.func f fs.toArray cs.toArray) (.fn f first captured)|ni (l k:Nat):G.yl l=some k->aT G w (.func (.yield k) #[] #[]) (.ni l)|fe (o:Nat)(T:TypeId)(bP n c b:Nat):G.loc o=some b->G.tail o=some (b,n*bP,c*bP,T)->n<=c->0<bP->aT G w (.slice (some ⟨b,0,none⟩) n c) (.fe o T bP)|uH (o base:Nat)(T:TypeId)(bP n c b off:Nat):G.loc o=some b->G.tail o=some (b,n*bP,c*bP,T)->base<=n/\(base<c->off=base*bP)->n<=c->0<bP->aT G w (.slice (some ⟨b,off,none⟩) (n-base) (c-base)) (.uH o base T bP)|ij (o base off b:Nat):G.loc o=some b->aT G w (.pointer (some ⟨b,base+off,none⟩)) (.ij o base off)|fI (o b:Nat):G.mp o=some b->aT G w (.map (some b)) (.fI o)|Bh (q r:Nat):G.it q=some r->aT G w (.pointer (some ⟨r,0,none⟩)) (.Bh q)|dF (v:Value):aT G w v .dF
theorem aT.keep {G G':aV}{w w':World}{v:Value}{x:FV}(h:aT G w v x)(hi:∀b o,G.aZ b o->G'.aZ b o)(hc:∀b o c,G.aZ b o->w.cell? ⟨b,o,none⟩=some c->w'.cell? ⟨b,o,none⟩=some c)(hm:wO G.aZ w w')(hl:∀o b,G.loc o=some b->G'.loc o=some b)(ht:∀(t:Nat) r,G.tail t=some r->G'.tail t=some r)(hy:∀l k,G.yl l=some k->G'.yl l=some k:=by intro _ _ h;exact h)(hmp:∀o b,G.mp o=some b->G'.mp o=some b:=by intro _ _ h;exact h)(hit:∀o b,G.it o=some b->G'.it o=some b:=by intro _ _ h;exact h):aT G' w' v x:=by
 induction h with
 |p v x h=>exact .p v x (h.keep hi hc hm)
 |agg cs xs hn _ ih=>exact .agg cs xs hn λi c x h1 h2=>ih i c x h1 h2
 |eV cs xs hn _ ih=>exact .eV cs xs hn λi c x h1 h2=>ih i c x h1 h2
 |ptr o off b h=>exact .ptr o off b (hl _ _ h)
 |eH t T bP xs a c h1 h2=>refine .eH t T bP xs a c (h1.keep hi hc hm) ?_;grind
 |full xs a h=>exact .full xs a (h.keep hi hc hm)
 |fn f fs cs first captured hn hn' _ _ ih HN=>exact .fn f fs cs first captured hn hn' (λi c x h1 h2=>ih i c x h1 h2) (λi c x h1 h2=>HN i c x h1 h2)
 |ni l k h=>exact .ni l k (hy _ _ h)
 |fe o T bP n c b h1 h2 h3 h4=>exact .fe o T bP n c b (hl _ _ h1) (ht _ _ h2) h3 h4
 |uH o x T bP n c b off h1 h2 h0 h3 h4=>exact .uH o x T bP n c b off (hl _ _ h1) (ht _ _ h2) h0 h3 h4
 |ij o base off b h=>exact .ij o base off b (hl _ _ h)
 |fI o b h=>exact .fI o b (hmp _ _ h)
 |Bh q r h=>exact .Bh q r (hit _ _ h)
 |dF v=>exact .dF v
theorem aT.yZ {G G':aV}{w w':World}{v:Value}{x:FV}(h:aT G w v x)(hc:∀b o c,G.aZ b o->w.cell? ⟨b,o,none⟩=some c->G'.aZ b o/\w'.cell? ⟨b,o,none⟩=some c)(hm:∀(b:Nat)(es:Array MapEntry)(k:Nat),G.aZ b 0->w.heap[b]?=some (.map es k)->G'.aZ b 0/\w'.heap[b]?=some (.map es k))(hl:∀o b,G.loc o=some b->G'.loc o=some b)(ht:∀(t:Nat) r,G.tail t=some r->G'.tail t=some r)(hy:∀l k,G.yl l=some k->G'.yl l=some k:=by intro _ _ h;exact h)(hmp:∀o b,G.mp o=some b->G'.mp o=some b:=by intro _ _ h;exact h)(hit:∀o b,G.it o=some b->G'.it o=some b:=by intro _ _ h;exact h):aT G' w' v x:=by
 induction h with
 |p v x h=>exact .p v x (h.yZ hc hm)
 |agg cs xs hn _ ih=>exact .agg cs xs hn λi c x h1 h2=>ih i c x h1 h2
 |eV cs xs hn _ ih=>exact .eV cs xs hn λi c x h1 h2=>ih i c x h1 h2
 |ptr o off b h=>exact .ptr o off b (hl _ _ h)
 |eH t T bP xs a c h1 h2=>refine .eH t T bP xs a c (h1.yZ hc hm) ?_;grind
 |full xs a h=>exact .full xs a (h.yZ hc hm)
 |fn f fs cs first captured hn hn' _ _ ih HN=>exact .fn f fs cs first captured hn hn' (λi c x h1 h2=>ih i c x h1 h2) (λi c x h1 h2=>HN i c x h1 h2)
 |ni l k h=>exact .ni l k (hy _ _ h)
 |fe o T bP n c b h1 h2 h3 h4=>exact .fe o T bP n c b (hl _ _ h1) (ht _ _ h2) h3 h4
 |uH o x T bP n c b off h1 h2 h0 h3 h4=>exact .uH o x T bP n c b off (hl _ _ h1) (ht _ _ h2) h0 h3 h4
 |ij o base off b h=>exact .ij o base off b (hl _ _ h)
 |fI o b h=>exact .fI o b (hmp _ _ h)
 |Bh q r h=>exact .Bh q r (hit _ _ h)
 |dF v=>exact .dF v
mutual def FV.kill (d:Nat):FV->FV
 |.ptr o off=>match Nat.beq o d with|true=>.dF|false=>.ptr o off
 |.eH t T e xs=>match Nat.beq t d with|true=>.p (.sl xs)|false=>.eH t T e xs
 |.agg xs=>.agg (FV.eL d xs)
 |.eV xs=>.eV (FV.eL d xs)
 |.fn f first captured=>.fn f (FV.eL d first) (FV.eL d captured)
 |.p x=>.p x
 |.full xs=>.full xs
 |.ni l=>match Nat.beq l d with|true=>.dF|false=>.ni l
 |.fe o T e=>match Nat.beq o d with|true=>.dF|false=>.fe o T e
 |.uH o x T e=>match Nat.beq o d with|true=>.dF|false=>.uH o x T e
 |.ij o b off=>match Nat.beq o d with|true=>.dF|false=>.ij o b off
 |.fI o=>match Nat.beq o d with|true=>.dF|false=>.fI o
 |.Bh o=>match Nat.beq o d with|true=>.dF|false=>.Bh o
 |.dF=>.dF def FV.eL (d:Nat):List FV->List FV|[]=>[]|x::xs=>FV.kill d x::FV.eL d xs end
theorem FV.fq (d:Nat)(xs:List FV):FV.eL d xs=xs.map (FV.kill d):=by
 induction xs with
 |nil=>rfl
 |cons x xs ih=>simp[FV.eL,ih]
theorem aT.kill {G G':aV}{w:World}{v:Value}{x:FV}(d:Nat)(h:aT G w v x)(hi:G'.aZ=G.aZ)(hl:∀o b,o≠d->G.loc o=some b->G'.loc o=some b)(ht:∀(t:Nat) r,t≠d->G.tail t=some r->G'.tail t=some r)(hy:∀l k,l≠d->G.yl l=some k->G'.yl l=some k:=by intro _ _ _ h;exact h)(hmp:∀o b,o≠d->G.mp o=some b->G'.mp o=some b:=by intro _ _ _ h;exact h)(hit:∀o b,o≠d->G.it o=some b->G'.it o=some b:=by intro _ _ _ h;exact h):aT G' w v (x.kill d):=by
 induction h with
 |p v x h=>exact .p v x (hi▸h)
 |agg cs xs hn _ ih=>simp only[FV.kill,FV.fq];refine .agg cs _ (by simp_all) λi c x h1 h2=>?_;grind
 |eV cs xs hn _ ih=>simp only[FV.kill,FV.fq];refine .eV cs _ (by simp_all) λi c x h1 h2=>?_;grind
 |ptr o off b h=>simp only[FV.kill];split;exact .dF _;rename_i hb;exact .ptr o off b (hl o b (bt hb) h)
 |eH t T bP xs a c h1 h2=>simp only[FV.kill];split;exact .p _ _ (hi▸h1);rename_i hb;refine .eH t T bP xs a c (hi▸h1) ?_;rcases h2 with h2|⟨b,off,e1,e2,e3⟩;simp_all;exact .inr ⟨b,off,e1,e2,ht _ _ (bt hb) e3⟩
 |full xs a h=>exact .full xs a (hi▸h)
 |fn f fs cs first captured hn hn' _ _ ih HN=>simp only[FV.kill,FV.fq];refine .fn f fs cs _ _ (by simp_all) (by simp_all) (λi c x h1 h2=>?_) (λi c x h1 h2=>?_);grind;grind
 |ni l k h=>simp only[FV.kill];split;exact .dF _;rename_i hb;exact .ni l k (hy l k (bt hb) h)
 |fe o T bP n c b h1 h2 h3 h4=>simp only[FV.kill];split;exact .dF _;rename_i hb;have hne:=bt hb;exact .fe o T bP n c b (hl o b hne h1) (ht o _ hne h2) h3 h4
 |uH o x T bP n c b off h1 h2 h0 h3 h4=>simp only[FV.kill];split;exact .dF _;rename_i hb;have hne:=bt hb;exact .uH o x T bP n c b off (hl o b hne h1) (ht o _ hne h2) h0 h3 h4
 |ij o base off b h=>simp only[FV.kill];split;exact .dF _;rename_i hb;exact .ij o base off b (hl o b (bt hb) h)
 |fI o b h=>simp only[FV.kill];split;exact .dF _;rename_i hb;exact .fI o b (hmp o b (bt hb) h)
 |Bh o b h=>simp only[FV.kill];split;exact .dF _;rename_i hb;exact .Bh o b (hit o b (bt hb) h)
 |dF v=>exact .dF v
mutual def FV.fh:FV->Option AV
 |.p x=>some x
 |.eH _ _ _ xs=>some (.sl xs)
 |.full xs=>some (.sl xs)
 |.agg xs=>match FV.fD xs with
  |some ys=>match ys.all AV.one with|true=>some (.agg ys)|false=>none
  |none=>none
 |.eV xs=>match FV.fD xs with|some ys=>some (.eV ys)|none=>none
 |.fn f first captured=>match FV.fD first with
  |some a=>match FV.fD captured with|some b=>some (.fn f a b)|none=>none
  |none=>none
 |.ptr _ _=>none
 |.ni _=>none
 |.fe _ _ _=>none
 |.uH _ _ _ _=>none
 |.ij _ _ _=>none
 |.fI _=>none
 |.Bh _=>none
 |.dF=>none def FV.fD:List FV->Option (List AV)
 |[]=>some []
 |x::xs=>match FV.fh x with
  |some y=>match FV.fD xs with|some ys=>some (y::ys)|none=>none
  |none=>none end
theorem FV.jg {xs:List FV}{ys:List AV}(h:FV.fD xs=some ys):ys.length=xs.length/\∀(i:Nat)(y:AV),ys[i]?=some y->∃x,xs[i]?=some x/\x.fh=some y:=by
 induction xs generalizing ys with
 |nil=>simp[FV.fD]at h;simp_all
 |cons x xs ih=>simp only[FV.fD]at h;grind
theorem aT.fh {G:aV}{w:World}{v:Value}{x:FV}(h:aT G w v x):∀{y:AV},x.fh=some y->dh G.aZ w v y:=by
 induction h with
 |p v x h=>intro y hy;simp only[FV.fh,bN]at hy;simp_all
 |agg cs xs hn _ ih=>intro y hy;simp only[FV.fh]at hy;split at hy;rename_i ys hys;split at hy;rename_i hall;obtain rfl:=au hy;obtain⟨h1,h2⟩:=FV.jg hys;refine .agg cs ys oO (λx hx=>bY.1 hall x hx) λi c x hc hx=>?_;grind;simp_all;simp_all
 |eV cs xs hn _ ih=>intro y hy;simp only[FV.fh]at hy;split at hy;rename_i ys hys;obtain rfl:=au hy;obtain⟨h1,h2⟩:=FV.jg hys;refine .eV cs ys oO λi c x hc hx=>?_;grind;simp_all
 |ptr o off b h=>intro y hy;simp[FV.fh]at hy
 |eH t T bP xs a c h1 h2=>intro y hy;simp only[FV.fh,bN]at hy;simp_all
 |full xs a h=>intro y hy;simp only[FV.fh,bN]at hy;simp_all
 |fn f fs cs first captured hn hn' _ _ ih HN=>intro y hy;simp only[FV.fh]at hy;split at hy;rename_i ys hys;split at hy;rename_i zs hzs;obtain rfl:=au hy;obtain⟨h1,h2⟩:=FV.jg hys;obtain⟨h3,h4⟩:=FV.jg hzs;refine .fn f fs cs ys zs oO oO (λi c x hc hx=>?_) (λi c x hc hx=>?_);grind;grind;simp_all;simp_all
 |ni l k h=>intro y hy;simp[FV.fh]at hy
 |fe o T bP n c b h1 h2 h3 h4=>intro y hy;simp[FV.fh]at hy
 |uH o x T bP n c b off h1 h2 h0 h3 h4=>intro y hy;simp[FV.fh]at hy
 |ij o base off b h=>intro y hy;simp[FV.fh]at hy
 |fI o b h=>intro y hy;simp[FV.fh]at hy
 |Bh o b h=>intro y hy;simp[FV.fh]at hy
 |dF v=>intro y hy;simp[FV.fh]at hy
mutual def FV.fz (d:Nat)(ys:List AV):FV->FV
 |.ptr o off=>match Nat.beq o d with|true=>.p (.imp (ys.drop off))|false=>.ptr o off
 |.eH t T e xs=>.eH t T e xs
 |.agg xs=>.agg (FV.Pu d ys xs)
 |.eV xs=>.eV (FV.Pu d ys xs)
 |.fn f first captured=>.fn f (FV.Pu d ys first) (FV.Pu d ys captured)
 |.p x=>.p x
 |.full xs=>.full xs
 |.ni l=>.ni l
 |.fe o T e=>match Nat.beq o d with|true=>.dF|false=>.fe o T e
 |.uH o x T e=>match Nat.beq o d with|true=>.dF|false=>.uH o x T e
 |.ij o b off=>match Nat.beq o d with|true=>.dF|false=>.ij o b off
 |.fI o=>.fI o
 |.Bh o=>.Bh o
 |.dF=>.dF def FV.Pu (d:Nat)(ys:List AV):List FV->List FV|[]=>[]|x::xs=>FV.fz d ys x::FV.Pu d ys xs end
theorem FV.vp (d:Nat)(ys:List AV)(xs:List FV):FV.Pu d ys xs=xs.map (FV.fz d ys):=by
 induction xs with
 |nil=>rfl
 |cons x xs ih=>simp[FV.Pu,ih]
theorem Nb {R:Value->FV->Prop}{d:Nat}{ys:List AV}{cs:List Value}{xs:List FV}(ih:∀(i:Nat)(c:Value)(x:FV),cs[i]?=some c->xs[i]?=some x->R c (x.fz d ys)):∀(i:Nat)(c:Value)(x:FV),cs[i]?=some c->(FV.Pu d ys xs)[i]?=some x->R c x:=λi c x h1 h2=>by rw[FV.vp,aR]at h2;grind
theorem aT.fz {G G':aV}{w:World}{v:Value}{x:FV}{d B:Nat}{ys:List AV}(h:aT G w v x)(hi:∀b o,G.aZ b o->G'.aZ b o)(hB:∀b,G.loc d=some b->b=B)(hc:∀(j:Nat)(y:AV),ys[j]?=some y->y.one=true/\G'.aZ B j/\∃c,w.cell? ⟨B,j,none⟩=some c/\dh G'.aZ w c y)(hl:∀o b,o≠d->G.loc o=some b->G'.loc o=some b)(ht:∀(t:Nat) r,G.tail t=some r->G'.tail t=some r)(hy:∀l k,G.yl l=some k->G'.yl l=some k:=by intro _ _ h;exact h)(hmp:∀o b,G.mp o=some b->G'.mp o=some b:=by intro _ _ h;exact h)(hit:∀o b,G.it o=some b->G'.it o=some b:=by intro _ _ h;exact h):aT G' w v (x.fz d ys):=by
 induction h with
 |p v x h=>exact .p v x (h.keep hi (λ_ _ _ _ h=>h) (.refl _ _))
 |agg cs xs hn _ ih=>exact .agg cs _ (by simpa[FV.vp]using hn) (Nb ih)
 |eV cs xs hn _ ih=>exact .eV cs _ (by simpa[FV.vp]using hn) (Nb ih)
 |ptr o off b h=>
  simp only[FV.fz];split
  ·rename_i hb;obtain rfl:=aP hb;obtain rfl:=hB b h;refine .p _ _ (.imp b off _ (λj=>(w.cell? ⟨b,off+j,none⟩).getD undef) ?_ ?_ ?_ ?_);all_goals intro j y hj;rw[lV]at hj;obtain⟨h1,h2,c,h3,h4⟩:=hc _ _ hj
   exact h1;rw[h3];rfl;exact h2;rw[h3];exact h4
  rename_i hb;exact .ptr o off b (hl o b (bt hb) h)
 |eH t T bP xs a c h1 h2=>refine .eH t T bP xs a c (h1.keep hi (λ_ _ _ _ h=>h) (.refl _ _)) ?_;grind
 |full xs a h=>exact .full xs a (h.keep hi (λ_ _ _ _ h=>h) (.refl _ _))
 |fn f fs cs first captured hn hn' _ _ ih HN=>exact .fn f fs cs _ _ (by simpa[FV.vp]using hn) (by simpa[FV.vp]using hn') (Nb ih) (Nb HN)
 |ni l k h=>exact .ni l k (hy _ _ h)
 |fe o T bP n c b h1 h2 h3 h4=>simp only[FV.fz];split;exact .dF _;rename_i hb;have hne:=bt hb;exact .fe o T bP n c b (hl o b hne h1) (ht o _ h2) h3 h4
 |uH o x T bP n c b off h1 h2 h0 h3 h4=>simp only[FV.fz];split;exact .dF _;rename_i hb;have hne:=bt hb;exact .uH o x T bP n c b off (hl o b hne h1) (ht o _ h2) h0 h3 h4
 |ij o base off b h=>simp only[FV.fz];split;exact .dF _;rename_i hb;exact .ij o base off b (hl o b (bt hb) h)
 |fI o b h=>exact .fI o b (hmp _ _ h)
 |Bh o b h=>exact .Bh o b (hit _ _ h)
 |dF v=>exact .dF v
mutual def FV.fm (d:Nat)(x:AV):FV->FV
 |.fI o=>match Nat.beq o d with|true=>.p x|false=>.fI o
 |.ptr o off=>.ptr o off
 |.eH t T e xs=>.eH t T e xs
 |.agg xs=>.agg (FV.Zs d x xs)
 |.eV xs=>.eV (FV.Zs d x xs)
 |.fn f first captured=>.fn f (FV.Zs d x first) (FV.Zs d x captured)
 |.p y=>.p y
 |.full xs=>.full xs
 |.ni l=>.ni l
 |.fe o T e=>.fe o T e
 |.uH o x T e=>.uH o x T e
 |.ij o b off=>.ij o b off
 |.Bh o=>.Bh o
 |.dF=>.dF def FV.Zs (d:Nat)(x:AV):List FV->List FV|[]=>[]|y::ys=>FV.fm d x y::FV.Zs d x ys end
theorem FV.wQ (d:Nat)(y:AV)(xs:List FV):FV.Zs d y xs=xs.map (FV.fm d y):=by
 induction xs with
 |nil=>rfl
 |cons x xs ih=>simp[FV.Zs,ih]
theorem Nc {R:Value->FV->Prop}{d:Nat}{z:AV}{cs:List Value}{xs:List FV}(ih:∀(i:Nat)(c:Value)(x:FV),cs[i]?=some c->xs[i]?=some x->R c (x.fm d z)):∀(i:Nat)(c:Value)(x:FV),cs[i]?=some c->(FV.Zs d z xs)[i]?=some x->R c x:=λi c x h1 h2=>by rw[FV.wQ,aR]at h2;grind
theorem aT.fm {G G':aV}{w:World}{v:Value}{x:FV}{d:Nat}{z:AV}(h:aT G w v x)(hi:∀b o,G.aZ b o->G'.aZ b o)(hz:∀b,G.mp d=some b->dh G'.aZ w (.map (some b)) z)(hl:∀o b,G.loc o=some b->G'.loc o=some b)(ht:∀(t:Nat) r,G.tail t=some r->G'.tail t=some r)(hy:∀l k,G.yl l=some k->G'.yl l=some k)(hmp:∀o b,o≠d->G.mp o=some b->G'.mp o=some b)(hit:∀o b,G.it o=some b->G'.it o=some b):aT G' w v (x.fm d z):=by
 induction h with
 |p v x h=>exact .p v x (h.keep hi (λ_ _ _ _ h=>h) (.refl _ _))
 |agg cs xs hn _ ih=>exact .agg cs _ (by simpa[FV.wQ]using hn) (Nc ih)
 |eV cs xs hn _ ih=>exact .eV cs _ (by simpa[FV.wQ]using hn) (Nc ih)
 |ptr o off b h=>exact .ptr o off b (hl _ _ h)
 |eH t T bP xs a c h1 h2=>refine .eH t T bP xs a c (h1.keep hi (λ_ _ _ _ h=>h) (.refl _ _)) ?_;grind
 |full xs a h=>exact .full xs a (h.keep hi (λ_ _ _ _ h=>h) (.refl _ _))
 |fn f fs cs first captured hn hn' _ _ ih HN=>exact .fn f fs cs _ _ (by simpa[FV.wQ]using hn) (by simpa[FV.wQ]using hn') (Nc ih) (Nc HN)
 |ni l k h=>exact .ni l k (hy _ _ h)
 |fe o T bP n c b h1 h2 h3 h4=>exact .fe o T bP n c b (hl _ _ h1) (ht _ _ h2) h3 h4
 |uH o x T bP n c b off h1 h2 h0 h3 h4=>exact .uH o x T bP n c b off (hl _ _ h1) (ht _ _ h2) h0 h3 h4
 |ij o base off b h=>exact .ij o base off b (hl _ _ h)
 |fI o b h=>simp only[FV.fm];split;rename_i hb;obtain rfl:=aP hb;exact .p _ _ (hz b h);rename_i hb;exact .fI o b (hmp o b (bt hb) h)
 |Bh o b h=>exact .Bh o b (hit _ _ h)
 |dF v=>exact .dF v
def Lt:Nat->Option (List AV):=λ_=>none
def pz (aZ:Nat->Nat->Prop)(w:World):Prop:=∀(g:Nat)(xs:List AV),Lt g=some xs->dh aZ w (.pointer (some ⟨g,0,none⟩)) (.imp xs)
end Qv
