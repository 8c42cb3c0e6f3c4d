/- Part 1 of the proof: its lemmas. No condition. -/
import Derived.Tactics
import Derived.KernelRfl
import Derived.Below
import Derived.Deep.Quiet
set_option maxRecDepth 10000
set_option maxHeartbeats 80000000
set_option linter.all false
namespace Qv
open Go
def av:=@List.getElem?_eq_getElem
def ah:=@List.length_map
def ak:=@decide_eq_false
def an:=@decide_eq_true
def af:=@if_neg
def aJ:=@List.getElem?_eq_some_iff
def au:=@Option.some.inj
def ay:=@List.length_append
def ag:=@if_pos
def aM:=@Nat.eq_of_beq_eq_true
def aD:=@List.map_append
def aP:=@List.mem_singleton
def aL:=@List.length_take
def aN:=@List.getElem?_map
def bq:=@Array.getElem?_eq_some_iff
def aO:=@List.getElem_mem
def aC:=@List.mem_map
def aA:=@Nat.le_refl
def aR:=@List.length_cons
def aK:=@List.mem_cons
def aU:=@List.take_length
def bD:=@Nat.ne_of_beq_eq_false
def aW:=@List.append_nil
def bQ:=@List.length_eq_zero_iff
def bZ:=@List.drop_eq_getElem_cons
def aZ:=@List.mem_append
def dr:=@List.take_succ_eq_append_getElem
def bu:=@List.append_assoc
def br:=@Bool.and_eq_true
def cG:=@List.getElem?_append_left
def bn:=@List.length_nil
def bU:=@List.mem_of_getElem?
def bA:=@List.all_eq_true
def bN:=@Option.some.injEq
def dH:=@List.getElem?_append_right
def cU:=@List.take_of_length_le
def cV:=@List.drop_eq_nil_of_le
def cR:=@List.mem_cons_of_mem
def eV:=@List.getD_eq_getElem?_getD
def dI:=@List.take_append_drop
def bR:=@List.map_cons
def bw:=@Nat.add_mul
def cQ:=@List.length_drop
def dF:=@List.pairwise_cons
def ew:=@Nat.mul_le_mul_right
def dZ:=@List.map_congr_left
def ga:=@Nat.eq_of_mul_eq_mul_right
def dm:=@List.cons_append
def dW:=@Nat.lt_of_lt_of_le
def gb:=@List.take_append_getElem
def dY:=@Bool.not_eq_true'
def bg:=@congrArg
def ck:=@Nat.le_trans
def ia:=@Classical.byContradiction
def jq:=@List.eq_nil_of_length_eq_zero
def fA:=@Classical.not_not
def fc:=@List.any_eq_true
def de:=@Nat.zero_add
def eM:=@Option.map_some
def gZ:=@Nat.le_of_ble_eq_true
def ic:=@List.length_singleton
def fZ:=@List.ext_getElem?
def iL:=@Array.getElem?_modify
def jo:=@Int.eq_ofNat_of_zero_le
def ig:=@List.getElem_of_mem
def iK:=@List.getElem?_of_mem
def fI:=@List.foldl_cons
def gY:=@List.getElem?_drop
def gy:=@List.not_mem_nil
def gC:=@List.mem_flatMap
def mI:=@List.pairwise_iff_getElem
def jj:=@List.mem_append_left
def iN:=@List.mem_cons_self
def gx:=@List.nil_append
def jg:=@Array.length_toList
def fH:=@Nat.add_assoc
def fK:=@List.cons.inj
def kJ:=@Bool.or_eq_false_iff
def iJ:=@Array.toList_inj
def kC:=@List.flatMap_append
def fL:=@List.map_map
def mA:=@List.length_filter_le
def oh:=@Option.isSome_iff_exists
def hU:=@List.mem_range
def nT:=@List.getElem?_cons_succ
def fW:=@List.map_nil
def ko:=@Int.toNat_natCast
def fJ:=@Prod.mk.inj
def kz:=@List.nodup_append
def kM:=@of_decide_eq_true
def oa:=@List.getElem?_eq_none
def jl:=@List.mem_filter
def jm:=@Nat.not_lt_zero
def sG:=@List.take_append_of_le_length
def iI:=@Bool.true_and
def mw:=@List.length_range
def nR:=@List.length_pos_iff
def ot:=@List.flatten_append
def kO:=@List.find?_cons
def sI:=@Array.getElem?_append_left
def mu:=@Nat.mod_eq_of_lt
def mF:=@List.cons_ne_nil
def qb:=@List.singleton_append
def sL:=@Array.getElem?_eq_getElem
def th:=@List.mem_of_find?_eq_some
def nP:=@List.flatten_cons
def mC:=@List.nodup_cons
def mE:=@List.sum_append
def oq:=@List.foldl_append
def mG:=@List.find?_some
def ow:=@List.flatMap_cons
def ji:=@Nat.beq_refl
def nU:=@Array.toList_map
def nW:=@Option.bind_some
def oe:=@List.filter_cons
def oo:=@Nat.shiftLeft_eq
def sM:=@Option.map_eq_some_iff
def qv:=@List.filter_append
def qx:=@BitVec.toNat_ofNat
def eu:=@Ne.symm
def nS:=@List.cons.injEq
def sH:=@Array.getElem?_toList
def sV:=@List.mem_append_right
def om:=@Bool.eq_iff_iff
def ou:=@Nat.min_eq_left
def mz:=@List.map_take
def qw:=@List.any_eq_false
def wA:=@List.extract_eq_take_drop
def qm:=@List.getElem_map
def kn:=@Nat.one_mul
def sS:=@List.mem_map_of_mem
def sZ:=@List.getElem?_range
def jh:=@Nat.mod_lt
def sD:=@Bool.false_eq_true
def qe:=@Bool.or_eq_true
def od:=@Bool.false_or
def sW:=@List.getElem?_take
def nQ:=@Nat.add_comm
def CB:=@List.drop_append_of_le_length
def Dp:=@Nat.shiftLeft_add_eq_or_of_lt
def tA:=@Nat.le_of_not_lt
def wz:=@List.extract_toArray
def wB:=@List.mem_of_mem_take
def wM:=@List.getElem?_append
def qh:=@List.map_drop
def Cs:=@Array.getElem_setIfInBounds
def wP:=@beq_eq_false_iff_ne
def Da:=@Array.getD_eq_getD_getElem?
def Dl:=@Int.fdiv_eq_ediv_of_nonneg
def wL:=@Nat.pos_of_ne_zero
def wR:=@List.mem_filterMap
def xy:=@of_decide_eq_false
def xz:=@List.map_singleton
def xB:=@List.find?_eq_none
def CL:=@List.getElem?_take_of_lt
def CY:=@Array.setIfInBounds_comm
def sX:=@List.sum_cons
def wK:=@Option.getD_some
def wO:=@List.mem_flatten
def CA:=@List.drop_of_length_le
def CU:=@Array.getElem?_eq_none
def CT:=@List.getElem?_toArray
def Dh:=@List.contains_iff_mem
def wY:=@List.range_succ
def Cu:=@List.range_eq_range'
def CH:=@List.mem_of_mem_drop
def CI:=@List.getElem?_set_ne
def CP:=@Nat.div_lt_of_lt_mul
def CR:=@Array.toArray_toList
def DP:=@List.cons_merge_cons
def wE:=@List.drop_drop
def wV:=@UInt8.toNat_lt
def xh:=@Bool.false_and
def xD:=@List.nodup_nil
def sC:=@Nat.zero_le
def CC:=@List.take_succ_cons
def sK:=@Nat.mul_one
def DZ:=@List.filter_eq_self
def wu:=@List.all_cons
def Dm:=@Int.natCast_nonneg
def Dt:=@List.getElem_range
def xu:=@Nat.lt_irrefl
def DJ:=@Nat.add_sub_cancel
def Dn:=@Nat.or_lt_two_pow
def DH:=@List.getElem_take
def wC:=@Nat.add_zero
def wJ:=@Nat.mul_comm
def CD:=@List.map_toArray
def MM:=@Array.getElem?_setIfInBounds
def vW:=@Sum.inl.inj
def MG:=@Array.getElem?_append_right
theorem oO {p:Prop}(h:p:=by omega):p:=h
theorem kK {p:Prop}(h:p:=by kernel_rfl):p:=h
theorem dD {p:Prop}(h:p:=by decide):p:=h
theorem zL {n:Nat}:0<=n:=sC n
inductive AV where|bool (b:Bool)|int (k:IntKind)(n:Int)|str (s:List UInt8)|yg|Ee|tH|vU|iface (t:TypeId)(x:AV)|agg (xs:List AV)|eW (xs:List AV)|sl (xs:List (List AV))|imp (xs:List AV)|fn (f:Fn)(first captured:List AV)|mp (ks vs:List AV) deriving Inhabited
def AV.one:AV->Bool|.agg _=>false|.eW _=>false|_=>true
def AV.cells:AV->List AV|.agg xs=>xs|x=>[x]
structure pV (es:List MapEntry)(gu:Nat):Prop where
 lt:∀e,e∈es->e.born<gu
 nd:(es.map (·.born)).Nodup
def vV (bk:Nat->Nat->Prop)(w w':World):Prop:=∀(b:Nat)(es:Array MapEntry)(k:Nat),bk b 0->w.heap[b]?=some (.map es k)->w'.heap[b]?=some (.map es k)
theorem vV.refl (bk:Nat->Nat->Prop)(w:World):vV bk w w:=λ_ _ _ _ h=>h
inductive dA (bk:Nat->Nat->Prop)(w:World):Value->AV->Prop|bool (b:Bool):dA bk w (.bool b) (.bool b)|int (k:IntKind)(n:Int):dA bk w (.int k n) (.int k n)|str (s:List UInt8):dA bk w (.string ⟨s.toArray⟩) (.str s)|yg:dA bk w (.pointer none) .yg|Ee:dA bk w .nilFunc .Ee|tH:dA bk w .nilIface .tH|vU:dA bk w (.map none) .vU|iface (t:TypeId)(v:Value)(x:AV):dA bk w v x->dA bk w (.iface t v) (.iface t x)|agg (cs:List Value)(xs:List AV):cs.length=xs.length->(∀x,x∈xs->x.one=true)->(∀(i:Nat)(c:Value)(x:AV),cs[i]?=some c->xs[i]?=some x->dA bk w c x)->dA bk w (.agg cs.toArray) (.agg xs)|eW (cs:List Value)(xs:List AV):cs.length=xs.length->(∀(i:Nat)(c:Value)(x:AV),cs[i]?=some c->xs[i]?=some x->dA bk w c x)->dA bk w (.tuple cs.toArray) (.eW xs)|TZ (a:Option Addr)(c:Nat):dA bk w (.slice a 0 c) (.sl [])|sl (b off c bM:Nat)(xs:List (List AV))(cell:Nat->Nat->Value):(∀(i:Nat)(ys:List AV),xs[i]?=some ys->ys.length=bM)->(∀(i:Nat)(ys:List AV)(j:Nat)(y:AV),xs[i]?=some ys->ys[j]?=some y->y.one=true)->(∀(i:Nat)(ys:List AV)(j:Nat)(y:AV),xs[i]?=some ys->ys[j]?=some y->w.cell? ⟨b,off+i*bM+j,none⟩=some (cell i j))->(∀(i:Nat)(ys:List AV)(j:Nat)(y:AV),xs[i]?=some ys->ys[j]?=some y->bk b (off+i*bM+j))->(∀(i:Nat)(ys:List AV)(j:Nat)(y:AV),xs[i]?=some ys->ys[j]?=some y->dA bk w (cell i j) y)->xs.length<=c->dA bk w (.slice (some ⟨b,off,none⟩) xs.length c) (.sl xs)|imp (b off:Nat)(xs:List AV)(cell:Nat->Value):(∀(j:Nat)(y:AV),xs[j]?=some y->y.one=true)->(∀(j:Nat)(y:AV),xs[j]?=some y->w.cell? ⟨b,off+j,none⟩=some (cell j))->(∀(j:Nat)(y:AV),xs[j]?=some y->bk b (off+j))->(∀(j:Nat)(y:AV),xs[j]?=some y->dA bk w (cell j) y)->dA bk w (.pointer (some ⟨b,off,none⟩)) (.imp xs)|fn (f:Fn)(fs cs:List Value)(first captured:List AV):fs.length=first.length->cs.length=captured.length->(∀(i:Nat)(c:Value)(x:AV),fs[i]?=some c->first[i]?=some x->dA bk w c x)->(∀(i:Nat)(c:Value)(x:AV),cs[i]?=some c->captured[i]?=some x->dA bk w c x)->dA bk w (.func f fs.toArray cs.toArray) (.fn f first captured)|mp (b gu:Nat)(es:List MapEntry)(ks vs:List AV):ks.length=es.length->vs.length=es.length->bk b 0->w.heap[b]?=some (.map es.toArray gu)->pV es gu->(∀(i:Nat)(e:MapEntry)(x:AV),es[i]?=some e->ks[i]?=some x->dA bk w e.key x)->(∀(i:Nat)(e:MapEntry)(x:AV),es[i]?=some e->vs[i]?=some x->dA bk w e.val x)->dA bk w (.map (some b)) (.mp ks vs)
theorem dA.keep {bk uo:Nat->Nat->Prop}{w w':World}{v:Value}{x:AV}(h:dA bk w v x)(hi:∀b o,bk b o->uo b o)(hc:∀b o c,bk b o->w.cell? ⟨b,o,none⟩=some c->w'.cell? ⟨b,o,none⟩=some c)(hm:vV bk w w'):dA uo w' v x:=by
 induction h with
 |bool b=>exact .bool b
 |int k n=>exact .int k n
 |str s=>exact .str s
 |yg=>exact .yg
 |Ee=>exact .Ee
 |tH=>exact .tH
 |vU=>exact .vU
 |iface t v x _ ih=>exact .iface t v x ih
 |agg cs xs hl ho _ ih=>exact .agg cs xs hl ho λi c x h1 h2=>ih i c x h1 h2
 |eW cs xs hl _ ih=>exact .eW cs xs hl λi c x h1 h2=>ih i c x h1 h2
 |TZ a c=>exact .TZ a c
 |sl b off c bM xs cell h1 h2 h3 h4 _ h6 ih=>exact .sl b off c bM xs cell h1 h2 (λi ys j y a1 a2=>hc _ _ _ (h4 i ys j y a1 a2) (h3 i ys j y a1 a2)) (λi ys j y a1 a2=>hi _ _ (h4 i ys j y a1 a2)) (λi ys j y a1 a2=>ih i ys j y a1 a2) h6
 |imp b off xs cell h2 h3 h4 _ ih=>exact .imp b off xs cell h2 (λj y a2=>hc _ _ _ (h4 j y a2) (h3 j y a2)) (λj y a2=>hi _ _ (h4 j y a2)) (λj y a2=>ih j y a2)
 |fn f fs cs first captured hl hl' _ _ ih Gj=>exact .fn f fs cs first captured hl hl' (λi c x h1 h2=>ih i c x h1 h2) (λi c x h1 h2=>Gj i c x h1 h2)
 |mp b gu es ks vs h1 h2 h3 h4 h5 _ _ ih Gj=>exact .mp b gu es ks vs h1 h2 (hi _ _ h3) (hm _ _ _ h3 h4) h5 (λi c x a1 a2=>ih i c x a1 a2) (λi c x a1 a2=>Gj i c x a1 a2)
theorem dA.uu {bk uo:Nat->Nat->Prop}{w w':World}{v:Value}{x:AV}(h:dA bk w v x)(hc:∀b o c,bk b o->w.cell? ⟨b,o,none⟩=some c->uo b o/\w'.cell? ⟨b,o,none⟩=some c)(hm:∀(b:Nat)(es:Array MapEntry)(k:Nat),bk b 0->w.heap[b]?=some (.map es k)->uo b 0/\w'.heap[b]?=some (.map es k)):dA uo w' v x:=by
 induction h with
 |bool b=>exact .bool b
 |int k n=>exact .int k n
 |str s=>exact .str s
 |yg=>exact .yg
 |Ee=>exact .Ee
 |tH=>exact .tH
 |vU=>exact .vU
 |iface t v x _ ih=>exact .iface t v x ih
 |agg cs xs hl ho _ ih=>exact .agg cs xs hl ho λi c x h1 h2=>ih i c x h1 h2
 |eW cs xs hl _ ih=>exact .eW cs xs hl λi c x h1 h2=>ih i c x h1 h2
 |TZ a c=>exact .TZ a c
 |sl b off c bM xs cell h1 h2 h3 h4 _ h6 ih=>exact .sl b off c bM xs cell h1 h2 (λi ys j y a1 a2=>(hc _ _ _ (h4 i ys j y a1 a2) (h3 i ys j y a1 a2)).2) (λi ys j y a1 a2=>(hc _ _ _ (h4 i ys j y a1 a2) (h3 i ys j y a1 a2)).1) (λi ys j y a1 a2=>ih i ys j y a1 a2) h6
 |imp b off xs cell h2 h3 h4 _ ih=>exact .imp b off xs cell h2 (λj y a2=>(hc _ _ _ (h4 j y a2) (h3 j y a2)).2) (λj y a2=>(hc _ _ _ (h4 j y a2) (h3 j y a2)).1) (λj y a2=>ih j y a2)
 |fn f fs cs first captured hl hl' _ _ ih Gj=>exact .fn f fs cs first captured hl hl' (λi c x h1 h2=>ih i c x h1 h2) (λi c x h1 h2=>Gj i c x h1 h2)
 |mp b gu es ks vs h1 h2 h3 h4 h5 _ _ ih Gj=>exact .mp b gu es ks vs h1 h2 (hm _ _ _ h3 h4).1 (hm _ _ _ h3 h4).2 h5 (λi c x a1 a2=>ih i c x a1 a2) (λi c x a1 a2=>Gj i c x a1 a2)
inductive FV where|p (x:AV)|agg (xs:List FV)|eW (xs:List FV)|ptr (o off:Nat)|fM (t:Nat)(T:TypeId)(bM:Nat)(xs:List (List AV))|full (xs:List (List AV))|fn (f:Fn)(first captured:List FV)|lX (l:Nat)|gd (o:Nat)(T:TypeId)(bM:Nat)|uk (o base:Nat)(T:TypeId)(bM:Nat)|gD (o base off:Nat)|fG (o:Nat)|zR (q:Nat)|dR deriving Inhabited
abbrev Nm:=Nat⊕(Nat×Nat)
instance:Coe Nat Nm:=⟨Sum.inl⟩
theorem Yb {i d:Nat}(h:i≠d):(Sum.inl i:Nm)≠Sum.inl d:=λe=>h (vW e)
structure bf where
 bk:Nat->Nat->Prop
 loc:Nat->Option Nat
 tail:Nm->Option (Nat×Nat×Nat×TypeId)
 yl:Nat->Option Nat
 row:Nat->Option Nat
 mp:Nat->Option Nat
 it:Nat->Option Nat
inductive aT (G:bf)(w:World):Value->FV->Prop|p (v:Value)(x:AV):dA G.bk w v x->aT G w v (.p x)|agg (cs:List Value)(xs:List FV):cs.length=xs.length->(∀(i:Nat)(c:Value)(x:FV),cs[i]?=some c->xs[i]?=some x->aT G w c x)->aT G w (.agg cs.toArray) (.agg xs)|eW (cs:List Value)(xs:List FV):cs.length=xs.length->(∀(i:Nat)(c:Value)(x:FV),cs[i]?=some c->xs[i]?=some x->aT G w c x)->aT G w (.tuple cs.toArray) (.eW xs)|ptr (o off b:Nat):G.loc o=some b->aT G w (.pointer (some ⟨b,off,none⟩)) (.ptr o off)|fM (t:Nat)(T:TypeId)(bM:Nat)(xs:List (List AV))(a:Option Addr)(c:Nat):dA G.bk w (.slice a xs.length c) (.sl xs)->((xs=[]/\c=0)\/∃b off,a=some ⟨b,off,none⟩/\(∀ys,ys∈xs->ys.length=bM)/\G.tail t=some (b,off+xs.length*bM,off+c*bM,T))->aT G w (.slice a xs.length c) (.fM t T bM xs)|full (xs:List (List AV))(a:Option Addr):dA G.bk w (.slice a xs.length xs.length) (.sl xs)->aT G w (.slice a xs.length xs.length) (.full xs)|fn (f:Fn)(fs cs:List Value)(first captured:List FV):fs.length=first.length->cs.length=captured.length->(∀(i:Nat)(c:Value)(x:FV),fs[i]?=some c->first[i]?=some x->aT G w c x)->(∀(i:Nat)(c:Value)(x:FV),cs[i]?=some c->captured[i]?=some x->aT G w c x)->aT G w (.func f fs.toArray cs.toArray) (.fn f first captured)|lX (l k:Nat):G.yl l=some k->aT G w (.func (.yield k) #[] #[]) (.lX l)|gd (o:Nat)(T:TypeId)(bM n c b:Nat):G.loc o=some b->G.tail o=some (b,n*bM,c*bM,T)->n<=c->0<bM->aT G w (.slice (some ⟨b,0,none⟩) n c) (.gd o T bM)|uk (o base:Nat)(T:TypeId)(bM n c b off:Nat):G.loc o=some b->G.tail o=some (b,n*bM,c*bM,T)->base<=n/\(base<c->off=base*bM)->n<=c->0<bM->aT G w (.slice (some ⟨b,off,none⟩) (n-base) (c-base)) (.uk o base T bM)|gD (o base off b:Nat):G.loc o=some b->aT G w (.pointer (some ⟨b,base+off,none⟩)) (.gD o base off)|fG (o b:Nat):G.mp o=some b->aT G w (.map (some b)) (.fG o)|zR (q r:Nat):G.it q=some r->aT G w (.pointer (some ⟨r,0,none⟩)) (.zR q)|dR (v:Value):aT G w v .dR
theorem aT.keep {G G':bf}{w w':World}{v:Value}{x:FV}(h:aT G w v x)(hi:∀b o,G.bk b o->G'.bk b o)(hc:∀b o c,G.bk b o->w.cell? ⟨b,o,none⟩=some c->w'.cell? ⟨b,o,none⟩=some c)(hm:vV G.bk w w')(hl:∀o b,G.loc o=some b->G'.loc o=some b)(ht:∀(t:Nat) r,G.tail t=some r->G'.tail t=some r)(hy:∀l k,G.yl l=some k->G'.yl l=some k:=by intro _ _ h;exact h)(hmp:∀o b,G.mp o=some b->G'.mp o=some b:=by intro _ _ h;exact h)(hit:∀o b,G.it o=some b->G'.it o=some b:=by intro _ _ h;exact h):aT G' w' v x:=by
 induction h with
 |p v x h=>exact .p v x (h.keep hi hc hm)
 |agg cs xs hn _ ih=>exact .agg cs xs hn λi c x h1 h2=>ih i c x h1 h2
 |eW cs xs hn _ ih=>exact .eW cs xs hn λi c x h1 h2=>ih i c x h1 h2
 |ptr o off b h=>exact .ptr o off b (hl _ _ h)
 |fM t T bM xs a c h1 h2=>refine .fM t T bM xs a c (h1.keep hi hc hm) ?_;grind
 |full xs a h=>exact .full xs a (h.keep hi hc hm)
 |fn f fs cs first captured hn hn' _ _ ih Gj=>exact .fn f fs cs first captured hn hn' (λi c x h1 h2=>ih i c x h1 h2) (λi c x h1 h2=>Gj i c x h1 h2)
 |lX l k h=>exact .lX l k (hy _ _ h)
 |gd o T bM n c b h1 h2 h3 h4=>exact .gd o T bM n c b (hl _ _ h1) (ht _ _ h2) h3 h4
 |uk o x T bM n c b off h1 h2 h0 h3 h4=>exact .uk o x T bM n c b off (hl _ _ h1) (ht _ _ h2) h0 h3 h4
 |gD o base off b h=>exact .gD o base off b (hl _ _ h)
 |fG o b h=>exact .fG o b (hmp _ _ h)
 |zR q r h=>exact .zR q r (hit _ _ h)
 |dR v=>exact .dR v
theorem aT.uu {G G':bf}{w w':World}{v:Value}{x:FV}(h:aT G w v x)(hc:∀b o c,G.bk b o->w.cell? ⟨b,o,none⟩=some c->G'.bk b o/\w'.cell? ⟨b,o,none⟩=some c)(hm:∀(b:Nat)(es:Array MapEntry)(k:Nat),G.bk b 0->w.heap[b]?=some (.map es k)->G'.bk b 0/\w'.heap[b]?=some (.map es k))(hl:∀o b,G.loc o=some b->G'.loc o=some b)(ht:∀(t:Nat) r,G.tail t=some r->G'.tail t=some r)(hy:∀l k,G.yl l=some k->G'.yl l=some k:=by intro _ _ h;exact h)(hmp:∀o b,G.mp o=some b->G'.mp o=some b:=by intro _ _ h;exact h)(hit:∀o b,G.it o=some b->G'.it o=some b:=by intro _ _ h;exact h):aT G' w' v x:=by
 induction h with
 |p v x h=>exact .p v x (h.uu hc hm)
 |agg cs xs hn _ ih=>exact .agg cs xs hn λi c x h1 h2=>ih i c x h1 h2
 |eW cs xs hn _ ih=>exact .eW cs xs hn λi c x h1 h2=>ih i c x h1 h2
 |ptr o off b h=>exact .ptr o off b (hl _ _ h)
 |fM t T bM xs a c h1 h2=>refine .fM t T bM xs a c (h1.uu hc hm) ?_;grind
 |full xs a h=>exact .full xs a (h.uu hc hm)
 |fn f fs cs first captured hn hn' _ _ ih Gj=>exact .fn f fs cs first captured hn hn' (λi c x h1 h2=>ih i c x h1 h2) (λi c x h1 h2=>Gj i c x h1 h2)
 |lX l k h=>exact .lX l k (hy _ _ h)
 |gd o T bM n c b h1 h2 h3 h4=>exact .gd o T bM n c b (hl _ _ h1) (ht _ _ h2) h3 h4
 |uk o x T bM n c b off h1 h2 h0 h3 h4=>exact .uk o x T bM n c b off (hl _ _ h1) (ht _ _ h2) h0 h3 h4
 |gD o base off b h=>exact .gD o base off b (hl _ _ h)
 |fG o b h=>exact .fG o b (hmp _ _ h)
 |zR q r h=>exact .zR q r (hit _ _ h)
 |dR v=>exact .dR v
mutual def FV.kill (d:Nat):FV->FV
 |.ptr o off=>match Nat.beq o d with|true=>.dR|false=>.ptr o off
 |.fM t T e xs=>match Nat.beq t d with|true=>.p (.sl xs)|false=>.fM t T e xs
 |.agg xs=>.agg (FV.eD d xs)
 |.eW xs=>.eW (FV.eD d xs)
 |.fn f first captured=>.fn f (FV.eD d first) (FV.eD d captured)
 |.p x=>.p x
 |.full xs=>.full xs
 |.lX l=>match Nat.beq l d with|true=>.dR|false=>.lX l
 |.gd o T e=>match Nat.beq o d with|true=>.dR|false=>.gd o T e
 |.uk o x T e=>match Nat.beq o d with|true=>.dR|false=>.uk o x T e
 |.gD o b off=>match Nat.beq o d with|true=>.dR|false=>.gD o b off
 |.fG o=>match Nat.beq o d with|true=>.dR|false=>.fG o
 |.zR o=>match Nat.beq o d with|true=>.dR|false=>.zR o
 |.dR=>.dR def FV.eD (d:Nat):List FV->List FV|[]=>[]|x::xs=>FV.kill d x::FV.eD d xs end
theorem FV.fB (d:Nat)(xs:List FV):FV.eD d xs=xs.map (FV.kill d):=by
 induction xs with
 |nil=>rfl
 |cons x xs ih=>simp[FV.eD,ih]
theorem aT.kill {G G':bf}{w:World}{v:Value}{x:FV}(d:Nat)(h:aT G w v x)(hi:G'.bk=G.bk)(hl:∀o b,o≠d->G.loc o=some b->G'.loc o=some b)(ht:∀(t:Nat) r,t≠d->G.tail t=some r->G'.tail t=some r)(hy:∀l k,l≠d->G.yl l=some k->G'.yl l=some k:=by intro _ _ _ h;exact h)(hmp:∀o b,o≠d->G.mp o=some b->G'.mp o=some b:=by intro _ _ _ h;exact h)(hit:∀o b,o≠d->G.it o=some b->G'.it o=some b:=by intro _ _ _ h;exact h):aT G' w v (x.kill d):=by
 induction h with
 |p v x h=>exact .p v x (hi▸h)
 |agg cs xs hn _ ih=>simp only[FV.kill,FV.fB];refine .agg cs _ (by simp_all) λi c x h1 h2=>?_;grind
 |eW cs xs hn _ ih=>simp only[FV.kill,FV.fB];refine .eW cs _ (by simp_all) λi c x h1 h2=>?_;grind
 |ptr o off b h=>simp only[FV.kill];split;exact .dR _;rename_i hb;exact .ptr o off b (hl o b (bD hb) h)
 |fM t T bM xs a c h1 h2=>simp only[FV.kill];split;exact .p _ _ (hi▸h1);rename_i hb;refine .fM t T bM xs a c (hi▸h1) ?_;rcases h2 with h2|⟨b,off,e1,e2,e3⟩;simp_all;exact .inr ⟨b,off,e1,e2,ht _ _ (bD hb) e3⟩
 |full xs a h=>exact .full xs a (hi▸h)
 |fn f fs cs first captured hn hn' _ _ ih Gj=>simp only[FV.kill,FV.fB];refine .fn f fs cs _ _ (by simp_all) (by simp_all) (λi c x h1 h2=>?_) (λi c x h1 h2=>?_);grind;grind
 |lX l k h=>simp only[FV.kill];split;exact .dR _;rename_i hb;exact .lX l k (hy l k (bD hb) h)
 |gd o T bM n c b h1 h2 h3 h4=>simp only[FV.kill];split;exact .dR _;rename_i hb;have hne:=bD hb;exact .gd o T bM n c b (hl o b hne h1) (ht o _ hne h2) h3 h4
 |uk o x T bM n c b off h1 h2 h0 h3 h4=>simp only[FV.kill];split;exact .dR _;rename_i hb;have hne:=bD hb;exact .uk o x T bM n c b off (hl o b hne h1) (ht o _ hne h2) h0 h3 h4
 |gD o base off b h=>simp only[FV.kill];split;exact .dR _;rename_i hb;exact .gD o base off b (hl o b (bD hb) h)
 |fG o b h=>simp only[FV.kill];split;exact .dR _;rename_i hb;exact .fG o b (hmp o b (bD hb) h)
 |zR o b h=>simp only[FV.kill];split;exact .dR _;rename_i hb;exact .zR o b (hit o b (bD hb) h)
 |dR v=>exact .dR v
mutual def FV.eG:FV->Option AV
 |.p x=>some x
 |.fM _ _ _ xs=>some (.sl xs)
 |.full xs=>some (.sl xs)
 |.agg xs=>match FV.fe xs with
  |some ys=>match ys.all AV.one with|true=>some (.agg ys)|false=>none
  |none=>none
 |.eW xs=>match FV.fe xs with|some ys=>some (.eW ys)|none=>none
 |.fn f first captured=>match FV.fe first with
  |some a=>match FV.fe captured with|some b=>some (.fn f a b)|none=>none
  |none=>none
 |.ptr _ _=>none
 |.lX _=>none
 |.gd _ _ _=>none
 |.uk _ _ _ _=>none
 |.gD _ _ _=>none
 |.fG _=>none
 |.zR _=>none
 |.dR=>none def FV.fe:List FV->Option (List AV)
 |[]=>some []
 |x::xs=>match FV.eG x with
  |some y=>match FV.fe xs with|some ys=>some (y::ys)|none=>none
  |none=>none end
theorem FV.iC {xs:List FV}{ys:List AV}(h:FV.fe xs=some ys):ys.length=xs.length/\∀(i:Nat)(y:AV),ys[i]?=some y->∃x,xs[i]?=some x/\x.eG=some y:=by
 induction xs generalizing ys with
 |nil=>simp[FV.fe]at h;simp_all
 |cons x xs ih=>simp only[FV.fe]at h;grind
theorem aT.eG {G:bf}{w:World}{v:Value}{x:FV}(h:aT G w v x):∀{y:AV},x.eG=some y->dA G.bk w v y:=by
 induction h with
 |p v x h=>intro y hy;simp only[FV.eG,bN]at hy;simp_all
 |agg cs xs hn _ ih=>intro y hy;simp only[FV.eG]at hy;split at hy;rename_i ys hys;split at hy;rename_i hall;obtain rfl:=au hy;obtain⟨h1,h2⟩:=FV.iC hys;refine .agg cs ys oO (λx hx=>bA.1 hall x hx) λi c x hc hx=>?_;grind;simp_all;simp_all
 |eW cs xs hn _ ih=>intro y hy;simp only[FV.eG]at hy;split at hy;rename_i ys hys;obtain rfl:=au hy;obtain⟨h1,h2⟩:=FV.iC hys;refine .eW cs ys oO λi c x hc hx=>?_;grind;simp_all
 |ptr o off b h=>intro y hy;simp[FV.eG]at hy
 |fM t T bM xs a c h1 h2=>intro y hy;simp only[FV.eG,bN]at hy;simp_all
 |full xs a h=>intro y hy;simp only[FV.eG,bN]at hy;simp_all
 |fn f fs cs first captured hn hn' _ _ ih Gj=>intro y hy;simp only[FV.eG]at hy;split at hy;rename_i ys hys;split at hy;rename_i zs hzs;obtain rfl:=au hy;obtain⟨h1,h2⟩:=FV.iC hys;obtain⟨h3,h4⟩:=FV.iC hzs;refine .fn f fs cs ys zs oO oO (λi c x hc hx=>?_) (λi c x hc hx=>?_);grind;grind;simp_all;simp_all
 |lX l k h=>intro y hy;simp[FV.eG]at hy
 |gd o T bM n c b h1 h2 h3 h4=>intro y hy;simp[FV.eG]at hy
 |uk o x T bM n c b off h1 h2 h0 h3 h4=>intro y hy;simp[FV.eG]at hy
 |gD o base off b h=>intro y hy;simp[FV.eG]at hy
 |fG o b h=>intro y hy;simp[FV.eG]at hy
 |zR o b h=>intro y hy;simp[FV.eG]at hy
 |dR v=>intro y hy;simp[FV.eG]at hy
mutual def FV.fz (d:Nat)(ys:List AV):FV->FV
 |.ptr o off=>match Nat.beq o d with|true=>.p (.imp (ys.drop off))|false=>.ptr o off
 |.fM t T e xs=>.fM t T e xs
 |.agg xs=>.agg (FV.RF d ys xs)
 |.eW xs=>.eW (FV.RF d ys xs)
 |.fn f first captured=>.fn f (FV.RF d ys first) (FV.RF d ys captured)
 |.p x=>.p x
 |.full xs=>.full xs
 |.lX l=>.lX l
 |.gd o T e=>match Nat.beq o d with|true=>.dR|false=>.gd o T e
 |.uk o x T e=>match Nat.beq o d with|true=>.dR|false=>.uk o x T e
 |.gD o b off=>match Nat.beq o d with|true=>.dR|false=>.gD o b off
 |.fG o=>.fG o
 |.zR o=>.zR o
 |.dR=>.dR def FV.RF (d:Nat)(ys:List AV):List FV->List FV|[]=>[]|x::xs=>FV.fz d ys x::FV.RF d ys xs end
theorem FV.uT (d:Nat)(ys:List AV)(xs:List FV):FV.RF d ys xs=xs.map (FV.fz d ys):=by
 induction xs with
 |nil=>rfl
 |cons x xs ih=>simp[FV.RF,ih]
theorem Mg {R:Value->FV->Prop}{d:Nat}{ys:List AV}{cs:List Value}{xs:List FV}(ih:∀(i:Nat)(c:Value)(x:FV),cs[i]?=some c->xs[i]?=some x->R c (x.fz d ys)):∀(i:Nat)(c:Value)(x:FV),cs[i]?=some c->(FV.RF d ys xs)[i]?=some x->R c x:=λi c x h1 h2=>by rw[FV.uT,aN]at h2;grind
theorem aT.fz {G G':bf}{w:World}{v:Value}{x:FV}{d B:Nat}{ys:List AV}(h:aT G w v x)(hi:∀b o,G.bk b o->G'.bk b o)(hB:∀b,G.loc d=some b->b=B)(hc:∀(j:Nat)(y:AV),ys[j]?=some y->y.one=true/\G'.bk B j/\∃c,w.cell? ⟨B,j,none⟩=some c/\dA G'.bk w c y)(hl:∀o b,o≠d->G.loc o=some b->G'.loc o=some b)(ht:∀(t:Nat) r,G.tail t=some r->G'.tail t=some r)(hy:∀l k,G.yl l=some k->G'.yl l=some k:=by intro _ _ h;exact h)(hmp:∀o b,G.mp o=some b->G'.mp o=some b:=by intro _ _ h;exact h)(hit:∀o b,G.it o=some b->G'.it o=some b:=by intro _ _ h;exact h):aT G' w v (x.fz d ys):=by
 induction h with
 |p v x h=>exact .p v x (h.keep hi (λ_ _ _ _ h=>h) (.refl _ _))
 |agg cs xs hn _ ih=>exact .agg cs _ (by simpa[FV.uT]using hn) (Mg ih)
 |eW cs xs hn _ ih=>exact .eW cs _ (by simpa[FV.uT]using hn) (Mg ih)
 |ptr o off b h=>
  simp only[FV.fz];split
  ·rename_i hb;obtain rfl:=aM hb;obtain rfl:=hB b h;refine .p _ _ (.imp b off _ (λj=>(w.cell? ⟨b,off+j,none⟩).getD undef) ?_ ?_ ?_ ?_);all_goals intro j y hj;rw[gY]at hj;obtain⟨h1,h2,c,h3,h4⟩:=hc _ _ hj
   exact h1;rw[h3];rfl;exact h2;rw[h3];exact h4
  rename_i hb;exact .ptr o off b (hl o b (bD hb) h)
 |fM t T bM xs a c h1 h2=>refine .fM t T bM xs a c (h1.keep hi (λ_ _ _ _ h=>h) (.refl _ _)) ?_;grind
 |full xs a h=>exact .full xs a (h.keep hi (λ_ _ _ _ h=>h) (.refl _ _))
 |fn f fs cs first captured hn hn' _ _ ih Gj=>exact .fn f fs cs _ _ (by simpa[FV.uT]using hn) (by simpa[FV.uT]using hn') (Mg ih) (Mg Gj)
 |lX l k h=>exact .lX l k (hy _ _ h)
 |gd o T bM n c b h1 h2 h3 h4=>simp only[FV.fz];split;exact .dR _;rename_i hb;have hne:=bD hb;exact .gd o T bM n c b (hl o b hne h1) (ht o _ h2) h3 h4
 |uk o x T bM n c b off h1 h2 h0 h3 h4=>simp only[FV.fz];split;exact .dR _;rename_i hb;have hne:=bD hb;exact .uk o x T bM n c b off (hl o b hne h1) (ht o _ h2) h0 h3 h4
 |gD o base off b h=>simp only[FV.fz];split;exact .dR _;rename_i hb;exact .gD o base off b (hl o b (bD hb) h)
 |fG o b h=>exact .fG o b (hmp _ _ h)
 |zR o b h=>exact .zR o b (hit _ _ h)
 |dR v=>exact .dR v
mutual def FV.fm (d:Nat)(x:AV):FV->FV
 |.fG o=>match Nat.beq o d with|true=>.p x|false=>.fG o
 |.ptr o off=>.ptr o off
 |.fM t T e xs=>.fM t T e xs
 |.agg xs=>.agg (FV.XS d x xs)
 |.eW xs=>.eW (FV.XS d x xs)
 |.fn f first captured=>.fn f (FV.XS d x first) (FV.XS d x captured)
 |.p y=>.p y
 |.full xs=>.full xs
 |.lX l=>.lX l
 |.gd o T e=>.gd o T e
 |.uk o x T e=>.uk o x T e
 |.gD o b off=>.gD o b off
 |.zR o=>.zR o
 |.dR=>.dR def FV.XS (d:Nat)(x:AV):List FV->List FV|[]=>[]|y::ys=>FV.fm d x y::FV.XS d x ys end
theorem FV.vX (d:Nat)(y:AV)(xs:List FV):FV.XS d y xs=xs.map (FV.fm d y):=by
 induction xs with
 |nil=>rfl
 |cons x xs ih=>simp[FV.XS,ih]
theorem Mh {R:Value->FV->Prop}{d:Nat}{z:AV}{cs:List Value}{xs:List FV}(ih:∀(i:Nat)(c:Value)(x:FV),cs[i]?=some c->xs[i]?=some x->R c (x.fm d z)):∀(i:Nat)(c:Value)(x:FV),cs[i]?=some c->(FV.XS d z xs)[i]?=some x->R c x:=λi c x h1 h2=>by rw[FV.vX,aN]at h2;grind
theorem aT.fm {G G':bf}{w:World}{v:Value}{x:FV}{d:Nat}{z:AV}(h:aT G w v x)(hi:∀b o,G.bk b o->G'.bk b o)(hz:∀b,G.mp d=some b->dA G'.bk w (.map (some b)) z)(hl:∀o b,G.loc o=some b->G'.loc o=some b)(ht:∀(t:Nat) r,G.tail t=some r->G'.tail t=some r)(hy:∀l k,G.yl l=some k->G'.yl l=some k)(hmp:∀o b,o≠d->G.mp o=some b->G'.mp o=some b)(hit:∀o b,G.it o=some b->G'.it o=some b):aT G' w v (x.fm d z):=by
 induction h with
 |p v x h=>exact .p v x (h.keep hi (λ_ _ _ _ h=>h) (.refl _ _))
 |agg cs xs hn _ ih=>exact .agg cs _ (by simpa[FV.vX]using hn) (Mh ih)
 |eW cs xs hn _ ih=>exact .eW cs _ (by simpa[FV.vX]using hn) (Mh ih)
 |ptr o off b h=>exact .ptr o off b (hl _ _ h)
 |fM t T bM xs a c h1 h2=>refine .fM t T bM xs a c (h1.keep hi (λ_ _ _ _ h=>h) (.refl _ _)) ?_;grind
 |full xs a h=>exact .full xs a (h.keep hi (λ_ _ _ _ h=>h) (.refl _ _))
 |fn f fs cs first captured hn hn' _ _ ih Gj=>exact .fn f fs cs _ _ (by simpa[FV.vX]using hn) (by simpa[FV.vX]using hn') (Mh ih) (Mh Gj)
 |lX l k h=>exact .lX l k (hy _ _ h)
 |gd o T bM n c b h1 h2 h3 h4=>exact .gd o T bM n c b (hl _ _ h1) (ht _ _ h2) h3 h4
 |uk o x T bM n c b off h1 h2 h0 h3 h4=>exact .uk o x T bM n c b off (hl _ _ h1) (ht _ _ h2) h0 h3 h4
 |gD o base off b h=>exact .gD o base off b (hl _ _ h)
 |fG o b h=>simp only[FV.fm];split;rename_i hb;obtain rfl:=aM hb;exact .p _ _ (hz b h);rename_i hb;exact .fG o b (hmp o b (bD hb) h)
 |zR o b h=>exact .zR o b (hit _ _ h)
 |dR v=>exact .dR v
def KE:Nat->Option (List AV):=λ_=>none
def pW (bk:Nat->Nat->Prop)(w:World):Prop:=∀(g:Nat)(xs:List AV),KE g=some xs->dA bk w (.pointer (some ⟨g,0,none⟩)) (.imp xs)
end Qv
namespace Qv
universe u
open Go
inductive Shape where|int (k:IntKind)|bool|str|slice (e:TypeId)|struct (fs:List (Nat×TypeId))|array (n:Nat)(e:TypeId)|map (k e:TypeId)|ptr (e:TypeId)|iface|func|other deriving Inhabited
def Shape.isAgg:Shape->Bool|.struct _=>true|.array _ _=>true|_=>false
structure jF where
 size:Nat
 bytes:Nat
 shape:Shape
 zero:List Value deriving Inhabited
def shapeOf:TypeDesc->Shape|.bool=>.bool|.int k=>.int k|.string=>.str|.pointer e=>.ptr e|.slice e=>.slice e|.array n e=>.array n e|.map k e=>.map k e|.struct fs=>.struct (fs.toList.map λf=>(f.offset,f.type))|.func _ _ _=>.func|.interface _=>.iface|_=>.other
structure fN (P:Program)(t:TypeId)(i:jF):Prop where
 info:(P.info? t).map (λinf=>(inf.size,inf.bytes,inf.zero.map λv=>v.cells.toList))=some (i.size,i.bytes,some i.zero)
 und:(P.underlying t).map shapeOf=some i.shape
 len:i.zero.length=i.size
structure Extra where
 opens:List Nat
 JL:List Nat
 full:Bool
 inl:List FuncId:=[]
 frm:List Nat:=[]
 fzo:List Nat:=[]
 Mi:List (Nat×(TypeId×Nat×Option AV)):=[]
 rmr:List Nat:=[]
 rel:List FuncId:=[]
structure Ctx where
 P:Program
 iZ:List (TypeId×jF)
 aeT:∀t i,(t,i)∈iZ->fN P t i
 J:World->Prop
 mV:Nat
 mixed:P.follows .mixedOrders=true
 bT:TypeId
 bE:TypeId
 afF:∀w w':World,(∀k,k<mV->w'.heap[k]?=w.heap[k]?)->J w->J w'
 ahk:List Nat
 ex:Extra
def Ctx.cut (C:Ctx)(l:List Nat):Ctx:={C with ahk:=l}
def Ctx.open (C:Ctx)(e:Extra):Ctx:={C with ex:=e}
def bO:List (TypeId×jF)->TypeId->Option jF|[],_=>none|(u,i)::r,t=>match Nat.beq u t with|true=>some i|false=>bO r t
inductive dx where|val (x:AV)|fresh (T:TypeId)(bM:Nat)(xs:List (List AV))|vf (x:FV)|own (rest:Option (List AV))(T:TypeId)(bM:Nat)(xss:List (List AV))
def afG (rest:Option (List AV))(s:Value)(us:List Value):Value:=match rest with|none=>s|some _=>.tuple (s::us).toArray
def Yc (bk:Nat->Nat->Prop)(B b:Nat):Nat->Nat->Prop:=λb' o=>bk b' o\/(B<=b'/\b'≠b)
def bare (bk:Nat->Nat->Prop):bf:=⟨bk,λ_=>none,λ_=>none,λ_=>none,λ_=>none,λ_=>none,λ_=>none⟩
def kW (bk:Nat->Nat->Prop)(B:Nat):Nat->Nat->Prop:=λb o=>bk b o\/B<=b
def oy (bk:Nat->Nat->Prop)(B:Nat)(w':World)(v:Value):dx->Prop|.val x=>dA (kW bk B) w' v x|.fresh T bM xs=>∃a c,v=.slice a xs.length c/\((xs=[]/\c=0/\dA (kW bk B) w' v (.sl xs))\/∃b off cs fr,a=some ⟨b,off,none⟩/\B<=b/\b<w'.heap.size/\(∀ys,ys∈xs->ys.length=bM)/\w'.heap[b]?=some (.cells cs T fr)/\(∀i,off+xs.length*bM<=i->i<off+c*bM->(∃u,w'.cell? ⟨b,i,none⟩=some u)/\w'.frozen? ⟨b,i,none⟩=false)/\dA (λb' o=>bk b' o\/(B<=b'/\¬(b'=b/\off+xs.length*bM<=o/\o<off+c*bM))) w' v (.sl xs))|.vf x=>aT (bare (kW bk B)) w' v x|.own rest T bM xss=>∃(b c:Nat) (cs:Array Value) (fr:Nat×Nat) (us:List Value),v=afG rest (.slice (some ⟨b,0,none⟩) xss.length c) us/\B<=b/\b<w'.heap.size/\0<bM/\xss.length<=c/\(∀ys,ys∈xss->ys.length=bM/\∀y,y∈ys->y.one=true)/\w'.heap[b]?=some (.cells cs T fr)/\(∀i,w'.frozen? ⟨b,i,none⟩=false)/\(∀i,i<c*bM->∃u,w'.cell? ⟨b,i,none⟩=some u)/\(∀(i:Nat)(x:AV),xss.flatten[i]?=some x->∃u,w'.cell? ⟨b,i,none⟩=some u/\dA (Yc bk B b) w' u x)/\∀r,rest=some r->us.length=r.length/\∀(i:Nat)(u:Value)(x:AV),us[i]?=some u->r[i]?=some x->dA (Yc bk B b) w' u x
def aq (C:Ctx)(f:FuncId)(args:List AV)(R:dx->Prop):Prop:=(∃fn,C.P.funcs[f]?=some fn/\fn.body.isNone=false/\(fn.name== "runtime.NumGoroutine")=false)/\∀(bk:Nat->Nat->Prop)(w:World)(vs:List Value),C.J w/\pW bk w->C.mV<=w.heap.size->(∀b o,bk b o->b<w.heap.size)->vs.length=args.length->(∀(i:Nat)(v:Value)(x:AV),vs[i]?=some v->args[i]?=some x->dA bk w v x)->Calls C.P f vs.toArray w λe w'=>∃v r,e=.returned v/\R r/\oy bk w.heap.size w' v r/\RowKit.Below w.heap.size w w'
def Hg (C:Ctx)(f:FuncId)(cells args:List AV)(R:AV->List AV->Prop):Prop:=(∃fn,C.P.funcs[f]?=some fn/\fn.body.isNone=false/\(fn.name== "runtime.NumGoroutine")=false)/\∀(bk:Nat->Nat->Prop)(w:World)(b:Nat)(vs:List Value),C.J w/\pW bk w->C.mV<=w.heap.size->(∀b o,bk b o->b<w.heap.size)->C.mV<=b->b<w.heap.size->(∀i,¬bk b i/\w.frozen? ⟨b,i,none⟩=false)->(∀(i:Nat)(x:AV),cells[i]?=some x->∃c,w.cell? ⟨b,i,none⟩=some c/\dA bk w c x)->vs.length=args.length->(∀(i:Nat)(v:Value)(x:AV),vs[i]?=some v->args[i]?=some x->dA bk w v x)->Calls C.P f (.pointer (some ⟨b,0,none⟩)::vs).toArray w λe w'=>∃v r cells',e=.returned v/\R r cells'/\cells'.length=cells.length/\dA (kW bk w.heap.size) w' v r/\(∀(i:Nat)(x:AV),cells'[i]?=some x->∃c,w'.cell? ⟨b,i,none⟩=some c/\dA (kW bk w.heap.size) w' c x)/\w'.os=w.os/\w'.tape=w.tape/\w'.output=w.output/\w.heap.size<=w'.heap.size/\(∀k,k<w.heap.size->k≠b->w'.heap[k]?=w.heap[k]?)/\(∀cs T fr,w.heap[b]?=some (.cells cs T fr)->∃cs',w'.heap[b]?=some (.cells cs' T fr)/\cs'.size=cs.size)
def VC (C:Ctx)(f:FuncId)(T:TypeId)(bM:Nat)(cells args:List AV)(R:Bool->List AV->Prop):Prop:=(∃fn,C.P.funcs[f]?=some fn/\fn.body.isNone=false/\(fn.name== "runtime.NumGoroutine")=false)/\∀(bk:Nat->Nat->Prop)(w:World)(b n c:Nat)(vs:List Value),C.J w/\pW bk w->C.mV<=w.heap.size->(∀b o,bk b o->b<w.heap.size)->C.mV<=b->b<w.heap.size->(∀i,¬bk b i/\w.frozen? ⟨b,i,none⟩=false)->(∃cs fr,w.heap[b]?=some (.cells cs T fr))->cells.length=n*bM->n<=c->0<bM->(∀(i:Nat)(x:AV),cells[i]?=some x->∃c,w.cell? ⟨b,i,none⟩=some c/\dA bk w c x)->vs.length=args.length->(∀(i:Nat)(v:Value)(x:AV),vs[i]?=some v->args[i]?=some x->dA bk w v x)->Calls C.P f (.slice (some ⟨b,0,none⟩) n c::vs).toArray w λe w'=>∃(v:Value) (r:Bool) (ys full:List AV),e=.returned v/\R r ys/\full.length=cells.length/\(match r with|false=>v=.tuple #[]/\ys=full|true=>∃m:Nat,v=.slice (some ⟨b,0,none⟩) m c/\m<=n/\ys=full.take (m*bM))/\(∀(i:Nat)(x:AV),full[i]?=some x->∃c,w'.cell? ⟨b,i,none⟩=some c/\dA (kW bk w.heap.size) w' c x)/\w'.os=w.os/\w'.tape=w.tape/\w'.output=w.output/\w.heap.size<=w'.heap.size/\(∀k,k<w.heap.size->k≠b->w'.heap[k]?=w.heap[k]?)/\(∀cs T fr,w.heap[b]?=some (.cells cs T fr)->∃cs',w'.heap[b]?=some (.cells cs' T fr)/\cs'.size=cs.size)
structure Fr where
 n:Nat
 off:Nat
 tmps:Nat->FV
inductive zS where|ready|busy|Mj|Hh (id:Nat)
def yh (C:Ctx)(w:World)(b:Nat)(row:Option Nat)(bs:List UInt8):Prop:=∃(p:Option Addr) (v:Value),(p=none\/p=some ⟨b,0,none⟩)/\w.heap[b]?=some (.cells #[.pointer p,v] C.bT (0,0))/\match row with|none=>v=.slice none 0 0/\bs=[]|some r=>b≠r/\∃(cap:Nat) (cur:Array Value),v=.slice (some ⟨r,0,none⟩) bs.length cap/\w.heap[r]?=some (.cells cur C.bE (0,0))/\bs.length<=cap/\cap<=9223372036854775807/\cur.size=cap/\cur.toList.take bs.length=bs.map λc=>Value.int .u8 (c.toNat:Int)
def vn (C:Ctx)(f:FuncId)(args:List AV)(bs:List UInt8)(out:Option (List UInt8))(r:AV):Prop:=(∃fn,C.P.funcs[f]?=some fn/\fn.body.isNone=false/\(fn.name== "runtime.NumGoroutine")=false)/\∀(bk:Nat->Nat->Prop)(w:World)(b:Nat)(row:Option Nat)(vs:List Value),C.J w/\pW bk w->C.mV<=w.heap.size->(∀b o,bk b o->b<w.heap.size)->C.mV<=b->(∀r,row=some r->C.mV<=r)->(∀i,¬bk b i)->(∀r i,row=some r->¬bk r i)->yh C w b row bs->vs.length=args.length->(∀(i:Nat)(v:Value)(x:AV),vs[i]?=some v->args[i]?=some x->dA bk w v x)->Calls C.P f (.pointer (some ⟨b,0,none⟩)::vs).toArray w λe w'=>∃v,e=.returned v/\dA (λ_ _=>False) w' v r/\(match out with|some bs'=>∃row',yh C w' b row' bs'/\(row'=row\/row'=none\/∃x,row'=some x/\w.heap.size<=x)|none=>∃p v,w'.heap[b]?=some (.cells #[p,v] C.bT (0,0)))/\w'.os=w.os/\w'.tape=w.tape/\w'.output=w.output/\w.heap.size<=w'.heap.size/\∀k,k<w.heap.size->k≠b->row≠some k->w'.heap[k]?=w.heap[k]?
structure aj where
 n:Nat
 off:Nat
 tmps:Nat->FV
 aI:List (Nat×List FV)
 bK:List Fr
 cF:List zS
 cT:List (Nat×List UInt8)
 maps:List (Nat×List (AV×FV)):=[]
 je:List (Nat×(Option (AV×AV)×List (AV×AV))):=[]
def aj.KF (S:aj)(m:List (Nat×List (AV×FV))):aj:={S with maps:=m}
def ltB (i n:Nat):Bool:=match n with|0=>false|m+1=>Nat.ble i m
@[simp] theorem acs (i n:Nat):(ltB i n=true)=(i<n):=by
 cases n with
 |zero=>simp[ltB]
 |succ m=>simp[ltB,Nat.lt_succ_iff]
def aj.get (S:aj)(i:Nat):FV:=match ltB i S.n with|true=>S.tmps i|false=>.dR
def aj.put (S:aj)(dst:Option Nat)(v:FV):aj:=match dst with|none=>S|some d=>{S with tmps:=λi=>match Nat.beq i d with|true=>v|false=>S.tmps i}
def getObj:List (Nat×List FV)->Nat->Option (List FV)|[],_=>none|(u,i)::r,t=>match Nat.beq u t with|true=>some i|false=>getObj r t
def iw (d:Nat):Bool:=Nat.ble 990000 d
def Av (l:List (Nat×List FV))(d:Nat):Option (List FV):=match iw d with|true=>none|false=>getObj l d
def setObj:List (Nat×List FV)->Nat->List FV->List (Nat×List FV)|[],_,_=>[]|(u,i)::r,t,c=>match Nat.beq u t with|true=>(u,c)::r|false=>(u,i)::setObj r t c
def eA (d:Nat):List (Nat×List FV)->List (Nat×List FV)|[]=>[]|(u,i)::r=>match Nat.beq u d with|true=>eA d r|false=>(u,FV.eD d i)::eA d r
def lT:List (Nat×List UInt8)->Nat->Option (List UInt8)|[],_=>none|(u,i)::r,t=>match Nat.beq u t with|true=>some i|false=>lT r t
def Yd:List (Nat×List UInt8)->Nat->List UInt8->List (Nat×List UInt8)|[],_,_=>[]|(u,i)::r,t,c=>match Nat.beq u t with|true=>(u,c)::r|false=>(u,i)::Yd r t c
def Ch (d:Nat):List (Nat×List UInt8)->List (Nat×List UInt8)|[]=>[]|(u,i)::r=>match Nat.beq u d with|true=>Ch d r|false=>(u,i)::Ch d r
def uq (f:FV->FV):List (AV×FV)->List (AV×FV)|[]=>[]|(k,x)::r=>(k,f x)::uq f r
theorem vY (f:FV->FV)(l:List (AV×FV)):uq f l=l.map λp=>(p.1,f p.2):=by
 induction l with
 |nil=>rfl
 |cons p l ih=>obtain⟨k,x⟩:=p;simp[uq,ih]
def AD (f:FV->FV):List (Nat×List (AV×FV))->List (Nat×List (AV×FV))|[]=>[]|(u,l)::r=>(u,uq f l)::AD f r
def getM {α:Type}:List (Nat×α)->Nat->Option α|[],_=>none|(u,i)::r,t=>match Nat.beq u t with|true=>some i|false=>getM r t
def uU {α:Type}:List (Nat×α)->Nat->α->List (Nat×α)|[],_,_=>[]|(u,i)::r,t,c=>match Nat.beq u t with|true=>(u,c)::r|false=>(u,i)::uU r t c
def Aw {α:Type}(d:Nat):List (Nat×α)->List (Nat×α)|[]=>[]|(u,i)::r=>match Nat.beq u d with|true=>Aw d r|false=>(u,i)::Aw d r
def Fr.map (f:FV->FV)(r:Fr):Fr:={r with tmps:=λi=>f (r.tmps i)}
def yj (f:FV->FV):List Fr->List Fr|[]=>[]|r::rs=>r.map f::yj f rs
theorem Hi (f:FV->FV)(rs:List Fr):yj f rs=rs.map (Fr.map f):=by
 induction rs with
 |nil=>rfl
 |cons r rs ih=>simp[yj,ih]
def aj.kill (S:aj)(d:Nat):aj:={S with tmps:=λi=>(S.tmps i).kill d,aI:=eA d S.aI,bK:=yj (FV.kill d) S.bK,cT:=Ch d S.cT,maps:=AD (FV.kill d) (Aw d S.maps),je:=Aw d S.je}
def FV.one:FV->Bool|.agg _=>false|.eW _=>false|.p x=>x.one|.dR=>false|_=>true
def jG:List FV->Bool|[]=>true|x::xs=>match x.one with|true=>jG xs|false=>false
def aG:List AV->List FV|[]=>[]|x::xs=>.p x::aG xs
def FV.cells:FV->List FV|.agg xs=>xs|.p (.agg xs)=>aG xs|x=>[x]
def takeN:Nat->List FV->Option (List FV)|0,_=>some []|_+1,[]=>none|n+1,x::xs=>match takeN n xs with|some ys=>some (x::ys)|none=>none
def Fi:Nat->List AV->Option (List AV)|0,_=>some []|_+1,[]=>none|n+1,x::xs=>match Fi n xs with|some ys=>some (x::ys)|none=>none
def gh {α:Type}:Nat->List α->List α|0,xs=>xs|_+1,[]=>[]|n+1,_::xs=>gh n xs
def JP {α:Type}:List α->Nat->α->Option (List α)|[],_,_=>none|_::xs,0,y=>some (y::xs)|x::xs,n+1,y=>match JP xs n y with|some zs=>some (x::zs)|none=>none
def gI {α:Type}:List α->Nat->List α->Option (List α)|xs,_,[]=>some xs|xs,n,y::ys=>match JP xs n y with|some zs=>gI zs (n+1) ys|none=>none
def FV.gv:Value->FV|.bool b=>.p (.bool b)|.int k n=>.p (.int k n)|.string s=>.p (.str s.data.toList)|.pointer none=>.p .yg|.nilFunc=>.p .Ee|.nilIface=>.p .tH|.map none=>.p .vU|.slice none 0 0=>.full []|_=>.dR
def FV.Ol:Value->FV|.agg cs=>.agg (cs.toList.map FV.gv)|.tuple ⟨[]⟩=>.p (.eW [])|v=>FV.gv v
def aj.val (S:aj):Operand->FV|.tmp t=>S.get t|.const v=>FV.Ol v|.func f=>.p (.fn (.func f) [] [])|.global g=>match KE g with|some xs=>.p (.imp xs)|none=>.dR
structure Al {α:Sort u}(p:α->Prop):Prop where
 out:∀x,p x
def force (v:FV)(K:FV->Prop):Prop:=match v with|.p x=>K (.p x)|.agg xs=>K (.agg xs)|.eW xs=>K (.eW xs)|.ptr o off=>K (.ptr o off)|.fM t T e xs=>K (.fM t T e xs)|.full xs=>K (.full xs)|.fn f a b=>K (.fn f a b)|.lX l=>K (.lX l)|.gd o T e=>K (.gd o T e)|.uk o x T e=>K (.uk o x T e)|.gD o b off=>K (.gD o b off)|.fG o=>K (.fG o)|.zR o=>K (.zR o)|.dR=>K .dR
theorem force_eq (v:FV)(K:FV->Prop):force v K=K v:=by cases v<;>rfl
def pX:List FV->(List FV->Prop)->Prop|[],K=>K []|x::xs,K=>force x λy=>pX xs λys=>K (y::ys)
theorem jX (xs:List FV)(K:List FV->Prop):pX xs K=K xs:=by
 induction xs generalizing K with
 |nil=>rfl
 |cons x xs ih=>simp only[pX,force_eq,ih]
def FV.elems:FV->Option (List (List AV))|.p (.sl xs)=>some xs|.fM _ _ _ xs=>some xs|.full xs=>some xs|_=>none
def Gy (a b:List UInt8):Bool:=Op.bytesLess a b
def yb (op:BinOp)(k:IntKind)(x y:Int):Int:=k.wrap (match op with|.and=>BitVec.ofInt k.bits x&&&BitVec.ofInt k.bits y|.or=>BitVec.ofInt k.bits x|||BitVec.ofInt k.bits y|.xor=>BitVec.ofInt k.bits x^^^BitVec.ofInt k.bits y|_=>BitVec.ofInt k.bits x&&&~~~BitVec.ofInt k.bits y).toNat
def acu:BinOp->Bool|.shl=>true|.shr=>true|_=>false
def Ci (op:BinOp)(k:IntKind)(a b:Int)(K:FV->Prop):Prop:=match op with|.shl=>0<=b/\∃c,k.wrap (a*2^(min b.toNat k.bits))=c/\K (.p (.int k c))|.shr=>0<=b/\∃c,a.fdiv (2^(min b.toNat k.bits))=c/\K (.p (.int k c))|_=>False
def Om (op:BinOp)(k:IntKind)(a b:Int)(K:FV->Prop):Prop:=match op with|.add=>∃c,k.wrap (a+b)=c/\K (.p (.int k c))|.sub=>∃c,k.wrap (a-b)=c/\K (.p (.int k c))|.mul=>∃c,k.wrap (a*b)=c/\K (.p (.int k c))|.quo=>b≠0/\∃c,k.wrap (a.tdiv b)=c/\K (.p (.int k c))|.rem=>b≠0/\∃c,a.tmod b=c/\K (.p (.int k c))|.and=>∃c,yb .and k a b=c/\K (.p (.int k c))|.or=>∃c,yb .or k a b=c/\K (.p (.int k c))|.xor=>∃c,yb .xor k a b=c/\K (.p (.int k c))|.andNot=>∃c,yb .andNot k a b=c/\K (.p (.int k c))|.eql=>Al λt:Bool=>t=(a==b)->K (.p (.bool t))|.neq=>Al λt:Bool=>t=(a !=b)->K (.p (.bool t))|.lss=>Al λt:Bool=>t=decide (a<b)->K (.p (.bool t))|.leq=>Al λt:Bool=>t=decide (a<=b)->K (.p (.bool t))|.gtr=>Al λt:Bool=>t=decide (a>b)->K (.p (.bool t))|.geq=>Al λt:Bool=>t=decide (a≥b)->K (.p (.bool t))|_=>False
def On (op:BinOp)(a b:List UInt8)(K:FV->Prop):Prop:=match op with|.add=>a.length+b.length<2^62/\K (.p (.str (a++b)))|.eql=>Al λt:Bool=>t=(a==b)->K (.p (.bool t))|.neq=>Al λt:Bool=>t=!(a==b)->K (.p (.bool t))|.lss=>Al λt:Bool=>t=Gy a b->K (.p (.bool t))|.leq=>Al λt:Bool=>t=(Gy a b||a==b)->K (.p (.bool t))|.gtr=>Al λt:Bool=>t=!(Gy a b||a==b)->K (.p (.bool t))|.geq=>Al λt:Bool=>t=!Gy a b->K (.p (.bool t))|_=>False
def Ye:IntKind->Nat|.i8=>0|.i16=>1|.i32=>2|.i64=>3|.u8=>4|.u16=>5|.u32=>6|.u64=>7
def AE (k k':IntKind):Bool:=Nat.beq (Ye k) (Ye k')
theorem rN {k k':IntKind}(h:AE k k'=true):k=k':=by have :=aM h;cases k<;>cases k'<;>first|rfl|(simp[Ye]at this)
inductive gJ where|bool|int (k:IntKind)|str deriving Inhabited
def acv (P:Program)(t:TypeId):Option (List gJ)->Option (List gJ)|none=>none|some l=>match Nat.beq (P.cellsOf t) l.length with|true=>some l|false=>none
mutual def eZ (P:Program):Nat->TypeId->Option (List gJ)
 |0,_=>none
 |d+1,t=>match P.underlying t with
  |some .bool=>some [.bool]
  |some (.int k)=>some [.int k]
  |some .string=>some [.str]
  |some (.struct fs)=>match P.stoodInHeld t with|true=>none|false=>acv P t (oG P d 0 fs.toList)
  |some (.array n e)=>match eZ P d e with|none=>none|some l=>match Nat.beq (P.cellsOf e) l.length with|true=>acv P t (some (List.replicate n l).flatten)|false=>none
  |_=>none def oG (P:Program):Nat->Nat->List Field->Option (List gJ)
 |0,_,_=>none
 |_+1,_,[]=>some []
 |d+1,off,f::fs=>match f.name== "_",Nat.beq f.offset off with
  |false,true=>match eZ P d f.type with|none=>none|some l=>match oG P d (off+l.length) fs with|none=>none|some r=>some (l++r)
  |_,_=>none end
def gJ.fits:gJ->AV->Bool|.bool,.bool _=>true|.int k,.int k' _=>AE k k'|.str,.str _=>true|_,_=>false
def fC:List gJ->List AV->Bool
 |[],[]=>true
 |l::ls,x::xs=>match l.fits x with|true=>fC ls xs|false=>false
 |_,_=>false
def gL (agg:Bool)(L:List gJ)(x:AV):Bool:=match agg,x with|true,.agg xs=>fC L xs|true,_=>false|false,.agg _=>false|false,x=>fC L [x]
def sg:AV->AV->Bool|.bool a,.bool b=>a==b|.int k a,.int k' b=>AE k k'&&a==b|.str a,.str b=>a==b|_,_=>false
def sameAs:List AV->List AV->Bool|[],[]=>true|x::xs,y::ys=>sg x y&&sameAs xs ys|_,_=>false
def nt:AV->AV->Bool|.agg a,.agg b=>sameAs a b|x,y=>sg x y
def Ef (C:Ctx)(t:TypeId)(op:BinOp)(x y:FV)(K:FV->Prop):Prop:=match bO C.iZ t with|none=>False|some i=>match i.shape.isAgg,x.eG,y.eG with|true,some (.agg xs),some (.agg ys)=>∃L,eZ C.P 40 t=some L/\C.P.eqGuardType C.P.depth t=false/\fC L xs=true/\fC L ys=true/\(match op with|.eql=>Al λb:Bool=>b=sameAs xs ys->K (.p (.bool b))|.neq=>Al λb:Bool=>b=!sameAs xs ys->K (.p (.bool b))|_=>False)|_,_,_=>False
def Hj (C:Ctx)(t:TypeId)(op:BinOp)(x y:FV)(K:FV->Prop):Prop:=match x,y with
 |.p (.int k a),.p (.int k' b)=>match acu op with|true=>Ci op k a b K|false=>match AE k k' with|true=>Om op k a b K|false=>False
 |.p (.str a),.p (.str b)=>On op a b K
 |.ptr _ _,.p .yg=>match op,bO C.iZ t with|.eql,some ⟨_,_,.ptr _,_⟩=>K (.p (.bool false))|.neq,some ⟨_,_,.ptr _,_⟩=>K (.p (.bool true))|_,_=>False
 |.p .yg,.p .yg=>match op,bO C.iZ t with|.eql,some ⟨_,_,.ptr _,_⟩=>K (.p (.bool true))|.neq,some ⟨_,_,.ptr _,_⟩=>K (.p (.bool false))|_,_=>False
 |.ptr o f,.ptr o' f'=>match Nat.beq o o',Nat.beq f f',op,bO C.iZ t with
  |true,true,.eql,some ⟨_,_,.ptr e,_⟩=>match bO C.iZ e with|some _=>K (.p (.bool true))|none=>False
  |true,true,.neq,some ⟨_,_,.ptr e,_⟩=>match bO C.iZ e with|some _=>K (.p (.bool false))|none=>False
  |_,_,_,_=>False
 |.p (.bool a),.p (.bool b)=>match bO C.iZ t with
  |some ⟨_,_,.bool,_⟩=>match op with|.eql=>Al λt:Bool=>t=(a==b)->K (.p (.bool t))|.neq=>Al λt:Bool=>t=!(a==b)->K (.p (.bool t))|_=>False
  |_=>False
 |x,y=>Ef C t op x y K
def Mk:Operand->Bool|.const .nilIface=>true|_=>false
def Be (C:Ctx)(t:TypeId)(op:BinOp)(x:FV)(K:FV->Prop):Prop:=match bO C.iZ t with
 |some ⟨_,_,.iface,_⟩=>match op,x with|.eql,.p .tH=>K (.p (.bool true))|.eql,.p (.iface _ _)=>K (.p (.bool false))|.neq,.p .tH=>K (.p (.bool false))|.neq,.p (.iface _ _)=>K (.p (.bool true))|_,_=>False
 |_=>False
def Ml:Operand->Bool|.const (.slice none 0 0)=>true|_=>false
def Mm (C:Ctx)(t:TypeId)(op:BinOp)(x:FV)(K:FV->Prop):Prop:=match bO C.iZ t with
 |some ⟨_,_,.slice _,_⟩=>match x with
  |.gd _ _ _=>match op with|.eql=>K (.p (.bool false))|.neq=>K (.p (.bool true))|_=>False
  |x=>match x.elems with|none=>False|some xs=>match op with|.eql=>Al λb:Bool=>(xs≠[]->b=false)->K (.p (.bool b))|.neq=>Al λb:Bool=>(xs≠[]->b=true)->K (.p (.bool b))|_=>False
 |_=>False
def nu (C:Ctx)(aI:List (Nat×List FV))(t:TypeId)(a:FV)(K:FV->Prop):Prop:=match bO C.iZ t with
 |none=>False
 |some i=>match a with
  |.ptr o off=>match getObj aI o with
   |none=>False
   |some cells=>match i.shape.isAgg with
    |true=>match takeN i.size (gh off cells)with|none=>False|some cs=>K (.agg cs)
    |false=>match gh off cells with|[]=>False|x::_=>K x
  |.p (.imp xs)=>match i.shape.isAgg with
   |true=>match Fi i.size xs with|none=>False|some cs=>K (.p (.agg cs))
   |false=>match xs with|[]=>False|x::_=>K (.p x)
  |.gD o base off=>match getObj aI o with
   |none=>False
   |some cells=>∃A ys B:List FV,cells=A++(ys++B)/\A.length=base/\(match i.shape.isAgg with
    |true=>match takeN i.size (gh off ys)with|none=>False|some cs=>K (.agg cs)
    |false=>match gh off ys with|[]=>False|x::_=>K x)
  |_=>False
def nv (C:Ctx)(s:TypeId)(x:FV)(f:Nat)(K:FV->Prop):Prop:=match bO C.iZ s with
 |some ⟨_,_,.struct fs,_⟩=>match gh f fs with|[]=>False|(o,t)::_=>match bO C.iZ t with|none=>False|some j=>match j.size with|0=>False|_+1=>match x with|.ptr b off=>K (.ptr b (off+o))|.p (.imp xs)=>K (.p (.imp (gh o xs)))|.gD b base off=>K (.gD b base (off+o))|_=>False
 |_=>False
def vZ (C:Ctx)(s:TypeId)(x:FV)(f:Nat)(K:FV->Prop):Prop:=match bO C.iZ s with
 |some ⟨_,_,.struct fs,_⟩=>match gh f fs with
  |[]=>False
  |(o,t)::_=>match bO C.iZ t with
   |none=>False
   |some j=>match x with
    |.agg xs=>match j.shape.isAgg with
     |true=>match takeN j.size (gh o xs)with|some cs=>K (.agg cs)|none=>False
     |false=>match gh o xs with|y::_=>K y|[]=>False
    |.p (.agg xs)=>match j.shape.isAgg with
     |true=>match Fi j.size (gh o xs)with|some cs=>K (.p (.agg cs))|none=>False
     |false=>match gh o xs with|y::_=>K (.p y)|[]=>False
    |_=>False
 |_=>False
def js (C:Ctx)(aI:List (Nat×List FV))(t:TypeId)(x i:FV)(K:FV->Prop):Prop:=match i with
 |.p (.int _ n)=>match bO C.iZ t with
  |some ⟨_,_,.slice e,_⟩=>match bO C.iZ e with
   |none=>False
   |some j=>match x with
    |.gd o _ bM=>match getObj aI o,Nat.beq bM j.size with|some cells,true=>∃m base:Nat,n=m/\m*bM=base/\base+bM<=cells.length/\K (.gD o base 0)|_,_=>False
    |.uk o x _ bM=>match getObj aI o,Nat.beq bM j.size with|some cells,true=>∃m base:Nat,n=m/\(x+m)*bM=base/\base+bM<=cells.length/\K (.gD o base 0)|_,_=>False
    |x=>match x.elems with|none=>False|some xs=>0<=n/\∃ys,xs[n.toNat]?=some ys/\ys.length=j.size/\K (.p (.imp ys))
  |some ⟨_,_,.array len e,_⟩=>match bO C.iZ e with|none=>False|some j=>∃m:Nat,n=m/\m<len/\(match x with|.ptr o off=>∃sym:Bool,(match sym with|true=>∃base,off+m*j.size=base/\K (.gD o base 0)|false=>K (.ptr o (off+m*j.size)))|.gD o b off=>∃base,b+(off+m*j.size)=base/\K (.gD o base 0)|.p (.imp xs)=>∃ys,gh (m*j.size) xs=ys/\K (.p (.imp ys))|_=>False)
  |_=>False
 |_=>False
def we (C:Ctx)(t:TypeId)(x i:FV)(K:FV->Prop):Prop:=match i with
 |.p (.int _ n)=>match bO C.iZ t with
  |some ⟨_,_,.str,_⟩=>match x with|.p (.str s)=>0<=n/\∃c,s[n.toNat]?=some c/\K (.p (.int .u8 c.toNat))|_=>False
  |some ⟨_,_,.array len e,_⟩=>match bO C.iZ e with
   |none=>False
   |some j=>match j.shape.isAgg with
    |true=>∃m:Nat,n=m/\m<len/\(match x with
     |.agg xs=>match takeN j.size (gh (m*j.size) xs)with|some cs=>K (.agg cs)|none=>False
     |.p (.agg xs)=>match Fi j.size (gh (m*j.size) xs)with|some cs=>K (.p (.agg cs))|none=>False
     |_=>False)
    |false=>∃m:Nat,n=m/\m<len/\(match x with
     |.agg xs=>match gh (m*j.size) xs with|y::_=>K y|[]=>False
     |.p (.agg xs)=>match gh (m*j.size) xs with|y::_=>K (.p y)|[]=>False
     |_=>False)
  |_=>False
 |_=>False
def uv (x:Option FV)(dflt:Nat)(K:Nat->Prop):Prop:=match x with|none=>K dflt|some (.p (.int _ n))=>∃m:Nat,n=m/\K m|some _=>False
def Mn (C:Ctx)(t:TypeId)(x:FV)(lo hi:Option FV)(K:FV->Prop):Prop:=match bO C.iZ t with
 |some ⟨_,_,.str,_⟩=>match x with|.p (.str s)=>uv hi s.length λh=>uv lo 0 λl=>l<=h/\h<=s.length/\∃s',(s.take h).drop l=s'/\K (.p (.str s'))|_=>False
 |some ⟨_,_,.slice e,_⟩=>match bO C.iZ e with|none=>False|some j=>match x.elems with|none=>False|some xs=>uv hi xs.length λh=>uv lo 0 λl=>l<=h/\h<=xs.length/\(∀ys,ys∈xs->ys.length=j.size)/\∃xs',(xs.take h).drop l=xs'/\K (.p (.sl xs'))
 |some ⟨_,_,.array len e,_⟩=>match bO C.iZ e with|none=>False|some j=>match x with|.p (.imp xs)=>uv hi len λh=>uv lo 0 λl=>l<=h/\h<=len/\j.size=1/\len<=xs.length/\∃xs',((xs.take h).drop l).map (λx=>[x])=xs'/\K (.p (.sl xs'))|_=>False
 |_=>False
def nw (fs:List (Nat×TypeId))(iZ:List (TypeId×jF))(S:aj):List (Nat×Operand)->List FV->Option (List FV)
 |[],cells=>some cells
 |(i,x)::rest,cells=>match gh i fs with
  |[]=>none
  |(o,t)::_=>match bO iZ t with
   |none=>none
   |some j=>match Nat.beq j.size 0,Nat.beq (S.val x).cells.length j.size,jG (S.val x).cells with
    |false,true,true=>match gI cells o (S.val x).cells with|none=>none|some cells'=>nw fs iZ S rest cells'
    |_,_,_=>none
def fP (size:Nat)(S:aj):List (Nat×Operand)->List FV->Option (List FV)
 |[],cells=>some cells
 |(i,x)::rest,cells=>match Nat.beq size 0,Nat.beq (S.val x).cells.length size,jG (S.val x).cells with
  |false,true,true=>match gI cells (i*size) (S.val x).cells with|none=>none|some cells'=>fP size S rest cells'
  |_,_,_=>none
def placesOf (iZ:List (TypeId×jF)):List (Nat×TypeId)->Option (List (Nat×Nat))|[]=>some []|(o,t)::fs=>match bO iZ t with|none=>none|some j=>match placesOf iZ fs with|none=>none|some ps=>some ((o,j.size)::ps)
def Gz (C:Ctx)(S:aj)(t:TypeId)(parts:List (Nat×Operand))(K:FV->Prop):Prop:=match bO C.iZ t with
 |some ⟨_,_,.struct fs,zero⟩=>match placesOf C.iZ fs with|none=>False|some _=>match nw fs C.iZ S parts (zero.map FV.gv)with|some cs=>pX cs λcs=>K (.agg cs)|none=>False
 |some ⟨_,_,.array _ e,zero⟩=>match bO C.iZ e with|none=>False|some j=>match fP j.size S parts (zero.map FV.gv)with|some cs=>pX cs λcs=>K (.agg cs)|none=>False
 |_=>False
def kZ {α:Type}:Nat->List α->List α|0,_=>[]|n+1,xs=>xs++kZ n xs
def chunk {α:Type}(size:Nat):Nat->List α->List (List α)|0,_=>[]|n+1,xs=>xs.take size::chunk size n (xs.drop size)
def mh (C:Ctx)(S:aj)(t:TypeId)(len:Nat)(parts:List (Nat×Operand))(K:FV->Prop):Prop:=match bO C.iZ t with
 |some ⟨_,_,.slice e,_⟩=>match bO C.iZ e with
  |none=>False
  |some j=>match Nat.ble (len*j.size) 1000000 with
   |false=>False
   |true=>match fP j.size S parts (kZ len (j.zero.map FV.gv))with
    |some cs=>match jG cs with|false=>False|true=>match FV.fe cs with|some ys=>K (.full (chunk j.size len ys))|none=>False
    |none=>False
 |_=>False
def gM:Nat->List Nat->Bool|_,[]=>false|i,d::ds=>match Nat.beq i d with|true=>true|false=>gM i ds
def Shape.Fj:Shape->Bool|.slice _=>true|.str=>true|_=>false
def FV.items:FV->Option (List (List AV))|.p (.str s)=>some (s.map λ(b:UInt8)=>[AV.int .u8 (b.toNat:Int)])|y=>y.elems
def wg (S:aj)(d:Nat)(K:Nat->Prop):Prop:=match S.off with|0=>K d|n+1=>K (n+1+d)
theorem lD (S:aj)(d:Nat)(K:Nat->Prop):wg S d K=K (S.off+d):=by unfold wg;split;rename_i h;rw[h,de];rename_i n h;rw[h]
def rF (S:aj)(d:Nat)(K:Nat->Prop):Prop:=match S.off with
 |0=>match iw d with|true=>False|false=>K d
 |n+1=>match iw (n+1+d)with|true=>False|false=>K (n+1+d)
theorem jH (S:aj)(d:Nat)(K:Nat->Prop):rF S d K=(iw (S.off+d)=false/\K (S.off+d)):=by unfold rF;split;rename_i h;rw[h,de];cases iw d<;>simp;rename_i n h;rw[h];cases iw (n+1+d)<;>simp
def Hl (n:Nat)(K:Nat->Prop):Prop:=match n with|0=>K 0|m+1=>K (m+1)
theorem Oo (n:Nat)(K:Nat->Prop):Hl n K=K n:=by cases n<;>rfl
def tI (C:Ctx)(t u d:TypeId)(S:aj)(x y:FV)(K:aj->Prop):Prop:=match bO C.iZ t,bO C.iZ u with
 |some ⟨_,_,.slice e,_⟩,some ui=>match ui.shape.Fj with
  |false=>False
  |true=>match bO C.iZ e with
   |none=>False
   |some j=>match y.items with
    |none=>False
    |some ys=>match x with
     |.fM k T bM xs=>match Nat.beq bM j.size,Nat.beq j.bytes 0,Nat.beq T e with|true,false,true=>(∀zs,zs∈xs->zs.length=bM)/\(∀zs,zs∈ys->zs.length=bM)/\(xs.length+ys.length)*j.bytes<=140737488355328/\∃zs,xs++ys=zs/\K ((S.kill k).put (some d) (.fM k T bM zs))|_,_,_=>False
     |.gd k T bM=>match Nat.beq bM j.size,Nat.beq T e,Nat.beq j.bytes 0 with
      |true,true,false=>match Av S.aI k with|none=>False|some xs=>∃n:Nat,xs.length=n*j.size/\(∀zs,zs∈ys->zs.length=j.size)/\(n+ys.length)*j.bytes<=140737488355328/\∃zs,FV.eD k (xs++aG ys.flatten)=zs/\K ({S.kill k with aI:=(k,zs)::eA k S.aI}.put (some d) (.gd k e j.size))
      |_,_,_=>False
     |.full []=>match Nat.beq j.bytes 0 with|false=>(∀zs,zs∈ys->zs.length=j.size)/\ys.length*j.bytes<=140737488355328/\wg S d λnm=>K ((S.kill nm).put (some d) (.fM nm e j.size ys))|true=>False
     |.full (q::r)=>match Nat.beq j.bytes 0 with|false=>ys≠[]/\(∀zs,zs∈q::r->zs.length=j.size)/\(∀zs,zs∈ys->zs.length=j.size)/\((q::r).length+ys.length)*j.bytes<=140737488355328/\wg S d λnm=>∃zs,(q::r)++ys=zs/\K ((S.kill nm).put (some d) (.fM nm e j.size zs))|true=>False
     |_=>False
 |_,_=>False
def RG (C:Ctx)(t u d:TypeId)(S:aj)(x:FV)(o2:Nat)(T2:TypeId)(e2:Nat)(K:aj->Prop):Prop:=match bO C.iZ t,bO C.iZ u with
 |some ⟨_,_,.slice e,_⟩,some ui=>match ui.shape.Fj with
  |false=>False
  |true=>match bO C.iZ e with
   |none=>False
   |some j=>match Nat.beq e2 j.size,Nat.beq T2 e,Nat.beq j.bytes 0 with
    |true,true,false=>match getObj S.aI o2 with
     |none=>False
     |some ys=>match x with
      |.gd k T bM=>match Nat.beq bM j.size,Nat.beq T e,Nat.beq k o2 with
       |true,true,false=>match Av S.aI k with|none=>False|some xs=>∃n m:Nat,xs.length=n*j.size/\ys.length=m*j.size/\jG ys=true/\(n+m)*j.bytes<=140737488355328/\∃zs,FV.eD k (xs++ys)=zs/\K ({S.kill k with aI:=(k,zs)::eA k S.aI}.put (some d) (.gd k e j.size))
       |_,_,_=>False
      |.full []=>∃m:Nat,0<m/\ys.length=m*j.size/\jG ys=true/\m*j.bytes<=140737488355328/\rF S d λnm=>∃zs,FV.eD nm ys=zs/\K ({S.kill nm with aI:=(nm,zs)::eA nm S.aI}.put (some d) (.gd nm e j.size))
      |_=>False
    |_,_,_=>False
 |_,_=>False
def jI (C:Ctx)(aI:List (Nat×List FV))(b:Builtin)(args:List FV)(types:List TypeId)(K:FV->Prop):Prop:=match b with
 |.len=>match args,types with
  |[x],[t]=>match bO C.iZ t with
   |none=>False
   |some ⟨_,_,.str,_⟩=>match x with|.p (.str s)=>K (.p (.int .i64 s.length))|_=>False
   |some ⟨_,_,.slice _,_⟩=>match x with
    |.gd o _ bM=>match getObj aI o with|some cells=>∃n:Nat,cells.length=n*bM/\K (.p (.int .i64 n))|none=>False
    |.uk o x _ bM=>match getObj aI o with|some cells=>∃n:Nat,cells.length=(x+n)*bM/\K (.p (.int .i64 n))|none=>False
    |x=>match x.elems with|some xs=>K (.p (.int .i64 xs.length))|none=>False
   |_=>False
  |_,_=>False
 |.min=>match args with
  |[.p (.int k a),.p (.int k' b)]=>match AE k k' with|true=>∃c,(if b<a then b else a)=c/\K (.p (.int k c))|false=>False
  |_=>False
 |.max=>match args with
  |[.p (.int k a),.p (.int k' b)]=>match AE k k' with|true=>∃c,(if b>a then b else a)=c/\K (.p (.int k c))|false=>False
  |_=>False
 |_=>False
def acw (rest:Option (List AV))(x:FV):FV:=match rest with|none=>x|some r=>.eW (x::aG r)
def aj.got (S:aj)(dst:Option Nat):dx->aj
 |.own rest T bM xss=>match dst with|some d=>{S.kill (S.off+d)with aI:=(S.off+d,aG xss.flatten)::eA (S.off+d) S.aI}.put (some d) (acw rest (.gd (S.off+d) T bM))|none=>S
 |.val x=>S.put dst (.p x)
 |.fresh T bM xs=>match dst with|some d=>(S.kill (S.off+d)).put (some d) (.fM (S.off+d) T bM xs)|none=>S
 |.vf x=>S.put dst x
def aeV (S:aj)(dst:Option Nat):dx->Prop|.own _ _ _ _=>∀d,dst=some d->iw (S.off+d)=false|_=>True
def JQ (S:aj)(dst:Option Nat)(r:dx)(K:aj->Prop):Prop:=match r with
 |.own rest T bM xss=>match dst with|some d=>rF S d λnm=>∃zs,aG xss.flatten=zs/\K ({S.kill nm with aI:=(nm,zs)::eA nm S.aI}.put (some d) (acw rest (.gd nm T bM)))|none=>K S
 |.val x=>K (S.put dst (.p x))
 |.fresh T bM xs=>match dst with|some d=>wg S d λnm=>K ((S.kill nm).put (some d) (.fM nm T bM xs))|none=>K S
 |.vf x=>K (S.put dst x)
theorem GA {S:aj}{dst:Option Nat}{r:dx}{K:aj->Prop}(h:JQ S dst r K):aeV S dst r/\K (S.got dst r):=by
 unfold JQ at h;cases r with
 |val x=>exact⟨trivial,h⟩
 |fresh T bM xs=>
  cases dst with
  |none=>exact⟨trivial,h⟩
  |some d=>simp only[lD]at h;exact⟨trivial,h⟩
 |vf x=>exact⟨trivial,h⟩
 |own rest T bM xss=>
  cases dst with
  |none=>exact⟨λd hd=>(by cases hd),h⟩
  |some d=>simp only[jH]at h;obtain⟨h1,zs,rfl,h2⟩:=h;exact⟨λd' hd=>by cases hd;exact h1,h2⟩
abbrev pH:=Nat->List FV->(FV->aj->Prop)->aj->Prop
abbrev iQ:=pH->FuncId->List FV->(FV->aj->Prop)->aj->Prop
def acy (P:Program)(g:FuncId):Prop:=∀(v:Value)(w:World),(callFunc g #[v]).run P w=.ok (.value v) w
def RH (S:aj)(d:Nat):aj:={(S.kill (S.off+d)).put (some d) (.ptr (S.off+d) 0)with cT:=(S.off+d,[])::Ch (S.off+d) S.cT}
def AV.flat:AV->Bool|.bool _=>true|.int _ _=>true|.str _=>true|.yg=>true|.Ee=>true|.tH=>true|.vU=>true|_=>false
def Ua:List AV->Bool|[]=>true|x::xs=>match x.flat with|true=>Ua xs|false=>false
theorem VD {xs:List AV}(h:Ua xs=true):∀x,x∈xs->x.flat=true:=by
 induction xs with
 |nil=>simp
 |cons x xs ih=>simp only[Ua]at h;split at h;rename_i h1;intro y hy;rcases aK.1 hy with rfl|hy;exact h1;exact ih h y hy;cases h
theorem dA.flat {bk uo:Nat->Nat->Prop}{w:World}{v:Value}{x:AV}(h:dA bk w v x)(hx:x.flat=true):dA uo w v x:=by
 cases h with
 |bool b=>exact .bool b
 |int k n=>exact .int k n
 |str s=>exact .str s
 |yg=>exact .yg
 |Ee=>exact .Ee
 |tH=>exact .tH
 |vU=>exact .vU
 |_=>simp[AV.flat]at hx
def Yf (C:Ctx)(S:aj)(dst:Option Nat)(g:FuncId)(o:Nat)(bs:List UInt8)(args:List FV)(K:aj->Prop):Prop:=match FV.fe args with|none=>False|some xs=>∃(out:Option (List UInt8)) (r:AV),vn C g xs bs out r/\(match out with|some bs'=>K ({S with cT:=Yd S.cT o bs'}.put dst (.p r))|none=>K ({S with cT:=Ch o S.cT}.put dst (.p r)))
def Yg (S:aj):List FV->Option (Nat×List UInt8×List FV)
 |.ptr o 0::rest=>match lT S.cT o with|some bs=>some (o,bs,rest)|none=>none
 |_=>none
def aj.Cj (S:aj)(ob:Nat)(cs:List FV):aj:={S with aI:=setObj S.aI ob cs}
def Eg (d:Nat)(z:AV):List (Nat×List FV)->List (Nat×List FV)|[]=>[]|(u,i)::r=>(u,FV.XS d z i)::Eg d z r
def aj.Oq (S:aj)(d:Nat)(z:AV):aj:={S with tmps:=λi=>(S.tmps i).fm d z,aI:=Eg d z S.aI,bK:=yj (FV.fm d z) S.bK,maps:=AD (FV.fm d z) (Aw d S.maps)}
def gF {α:Type}:List (AV×α)->List AV|[]=>[]|(k,_)::r=>k::gF r
def tJ {α:Type}:List (AV×α)->List α|[]=>[]|(_,x)::r=>x::tJ r
def afH {α:Type}(l:List (Nat×α))(d:Nat):Option α:=match iw d with|true=>none|false=>getM l d
theorem VE {α:Type}{l:List (Nat×α)}{d:Nat}{x:α}(h:afH l d=some x):iw d=false/\getM l d=some x:=by unfold afH at h;split at h;cases h;rename_i hb;exact⟨hb,h⟩
structure Yh (S:aj)(d:Nat)(ks vs:List AV):Prop where
 mp:∃l,afH S.maps d=some l/\gF l=ks/\FV.fe (tJ l)=some vs
def Yi (C:Ctx)(S:aj)(dst:Option Nat)(g:FuncId)(args:List FV)(K:aj->Prop):Prop:=∃(d:Nat) (ks vs:List AV),Yh S d ks vs/\match FV.fe (FV.XS d (.mp ks vs) args)with|some xs=>∃R,aq C g xs R/\∀r,R r->JQ (S.Oq d (.mp ks vs)) dst r K|none=>False
def Eh (d:Nat)(ys:List AV):List (Nat×List FV)->List (Nat×List FV)|[]=>[]|(u,i)::r=>match Nat.beq u d with|true=>Eh d ys r|false=>(u,FV.RF d ys i)::Eh d ys r
def aj.JL (S:aj)(d:Nat)(ys:List AV):aj:={S with tmps:=λi=>(S.tmps i).fz d ys,aI:=Eh d ys S.aI,bK:=yj (FV.fz d ys) S.bK,maps:=AD (FV.fz d ys) S.maps}
def uw:List AV->Bool|[]=>true|x::xs=>match x.one with|true=>uw xs|false=>false
def acz (C:Ctx)(S:aj)(dst:Option Nat)(g:FuncId)(args:List FV)(K:aj->Prop):Prop:=∃(d:Nat) (ys:List AV),match Av S.aI d with|none=>False|some cells=>FV.fe cells=some ys/\uw ys=true/\match FV.fe (FV.RF d ys args)with|some xs=>∃R,aq C g xs R/\∀r,R r->JQ (S.JL d ys) dst r K|none=>False
def Yj (S:aj)(dst:Option Nat)(o:Nat)(T:TypeId)(bM:Nat)(r:Bool)(ys:List AV)(K:aj->Prop):Prop:=match r with|false=>K ((S.Cj o (aG ys)).put dst (.p (.eW [])))|true=>match dst with|some d=>∃zs,aG ys=zs/\K ({S.kill o with aI:=(o,zs)::eA o S.aI}.put (some d) (.gd o T bM))|none=>False
def Ot (C:Ctx)(S:aj)(dst:Option Nat)(g:FuncId)(args:List FV)(K:aj->Prop):Prop:=match args with
 |.ptr o 0::rest=>match getObj S.aI o,FV.fe rest with
  |some cells,some xs=>match FV.fe cells with|some (z::zs)=>∃R,Hg C g (z::zs) xs R/\∀r ys,R r ys->K ((S.Cj o (aG ys)).put dst (.p r))|_=>False
  |_,_=>False
 |.gd o T bM::rest=>match Av S.aI o,FV.fe rest with
  |some cells,some xs=>match FV.fe cells with|some zs=>∃R,VC C g T bM zs xs R/\∀r ys,R r ys->Yj S dst o T bM r ys K|none=>False
  |_,_=>False
 |args=>Yi C S dst g args K\/acz C S dst g args K
mutual inductive Fk (S:aj):FV->AV->Prop|plain {x:FV}{y:AV}:x.eG=some y->Fk S x y|gd {o:Nat}{T:TypeId}{bM:Nat}{cells:List FV}{xss:List (List AV)}:Av S.aI o=some cells->vo S cells xss.flatten->(∀ys,ys∈xss->ys.length=bM/\∀y,y∈ys->y.one=true)->Fk S (.gd o T bM) (.sl xss)|ptr {o:Nat}{cells:List FV}{ys:List AV}:Av S.aI o=some cells->vo S cells ys->(∀y,y∈ys->y.one=true)->Fk S (.ptr o 0) (.imp ys)|fG {o:Nat}{l:List (AV×FV)}{ks vs:List AV}:getM S.maps o=some l->gF l=ks->vo S (tJ l) vs->Fk S (.fG o) (.mp ks vs)|fn {f:Fn}{fs cs:List FV}{a b:List AV}:vo S fs a->vo S cs b->Fk S (.fn f fs cs) (.fn f a b)|agg {xs:List FV}{ys:List AV}:vo S xs ys->(∀y,y∈ys->y.one=true)->Fk S (.agg xs) (.agg ys) inductive vo (S:aj):List FV->List AV->Prop|plain {xs:List FV}{ys:List AV}:FV.fe xs=some ys->vo S xs ys|nil:vo S [] []|cons {x:FV}{y:AV}{xs:List FV}{ys:List AV}:Fk S x y->vo S xs ys->vo S (x::xs) (y::ys) end
def AV.Ho:AV->Bool|.eW xs=>Ua xs|x=>x.flat
def Yk (C:Ctx)(S:aj)(dst:Option Nat)(g:FuncId)(args:List FV)(K:aj->Prop):Prop:=∃(xs:List AV) (R:dx->Prop),vo S args xs/\aq C g xs R/\∀r,R r->(∃x,r=.val x/\x.Ho=true)/\JQ S dst r K
def bh (x y:FV):Prop:=∀(G:bf)(w:World)(v:Value),aT G w v x->aT G w v y
structure cK (S S':aj):Prop where
 n:S'.n=S.n
 off:S'.off=S.off
 cF:S'.cF=S.cF
 cT:∀o bs,lT S'.cT o=some bs->lT S.cT o=some bs/\(getObj S.aI o=none->getObj S'.aI o=none)
 bK:S'.bK.length=S.bK.length/\∀(i:Nat)(f f':Fr),S.bK[i]?=some f->S'.bK[i]?=some f'->f'.n=f.n/\f'.off=f.off/\∀j,bh (f.tmps j) (f'.tmps j)
 tmps:∀i,bh (S.tmps i) (S'.tmps i)
 aI:∀o ys,getObj S'.aI o=some ys->∃xs,getObj S.aI o=some xs/\xs.length=ys.length/\∀(i:Nat)(x y:FV),xs[i]?=some x->ys[i]?=some y->bh x y
 maps:∀o l',getM S'.maps o=some l'->∃l,getM S.maps o=some l/\l.length=l'.length/\∀(i:Nat)(p p':AV×FV),l[i]?=some p->l'[i]?=some p'->p'.1=p.1/\bh p.2 p'.2
 je:∀q x,getM S'.je q=some x->getM S.je q=some x
def ahl (C:Ctx)(g:FuncId)(K:aj->Prop)(S:aj):Prop:=match gM g C.ex.rel with|true=>∃T,cK S T/\K T|false=>K S
def ux (bk:Nat->Nat->Prop)(loc mp:Nat->Option Nat):bf:=⟨bk,loc,λ_=>none,λ_=>none,λ_=>none,mp,λ_=>none⟩
def GB:List (Nat×Nat)->Nat->Nat|[],o=>o|(u,i)::r,o=>match Nat.beq u o with|true=>i|false=>GB r o
mutual def FV.nm (ρ:List (Nat×Nat)):FV->FV|.ptr o off=>.ptr (GB ρ o) off|.gD o b off=>.gD (GB ρ o) b off|.fG o=>.fG (GB ρ o)|.agg xs=>.agg (FV.Hp ρ xs)|.eW xs=>.eW (FV.Hp ρ xs)|.fn f first captured=>.fn f (FV.Hp ρ first) (FV.Hp ρ captured)|x=>x def FV.Hp (ρ:List (Nat×Nat)):List FV->List FV|[]=>[]|x::xs=>FV.nm ρ x::FV.Hp ρ xs end
mutual def FV.only (N:List Nat)(m:Nat):FV->Bool
 |.p _=>true
 |.agg xs=>FV.ym N m xs
 |.eW xs=>FV.ym N m xs
 |.ptr o _=>gM o N
 |.fG o=>Nat.beq o m
 |.full _=>true
 |.fn _ a b=>match FV.ym N m a with|true=>FV.ym N m b|false=>false
 |.dR=>true
 |_=>false def FV.ym (N:List Nat)(m:Nat):List FV->Bool|[]=>true|x::xs=>match x.only N m with|true=>FV.ym N m xs|false=>false end
def KG (N:List Nat)(m:Nat):List (AV×FV)->Bool|[]=>true|(_,x)::r=>match x.only N m with|true=>KG N m r|false=>false
def jf:List (Nat×List FV)->List Nat|[]=>[]|(o,_)::r=>o::jf r
structure Yl (g:Nat)(bk:Nat->Nat->Prop)(loc mp:Nat->Option Nat)(w:World)(aI:List (Nat×List FV))(m:Nat)(l:List (AV×FV)):Prop where
 dom:∀o b,loc o=some b->iw o=true/\gM o (jf aI)=true/\(∃cs T fr,w.heap[b]?=some (.cells cs T fr))/\g<=b/\b<w.heap.size/\∀i,¬bk b i/\w.frozen? ⟨b,i,none⟩=false
 aI:∀o cells,getObj aI o=some cells->∃b,loc o=some b/\∀(i:Nat)(x:FV),cells[i]?=some x->∃c,w.cell? ⟨b,i,none⟩=some c/\aT (ux bk loc mp) w c x
 inj:∀o o' b,loc o=some b->loc o'=some b->o=o'
 Ym:∀o b,mp o=some b->o=m/\iw m=true/\g<=b/\b<w.heap.size/\∀i,¬bk b i
 map:∃(b gu:Nat) (es:List MapEntry),mp m=some b/\w.heap[b]?=some (.map es.toArray gu)/\pV es gu/\es.length=l.length/\∀(i:Nat)(e:MapEntry)(p:AV×FV),es[i]?=some e->l[i]?=some p->dA bk w e.key p.1/\aT (ux bk loc mp) w e.val p.2
 apart:∀o o' b,mp o=some b->loc o'≠some b
def oz (C:Ctx)(f:FuncId)(aI:List (Nat×List FV))(m:Nat)(l:List (AV×FV))(args:List FV)(R:AV->List (AV×FV)->Prop):Prop:=(∃fn,C.P.funcs[f]?=some fn/\fn.body.isNone=false/\(fn.name== "runtime.NumGoroutine")=false)/\∀(bk:Nat->Nat->Prop)(loc mp:Nat->Option Nat)(w:World)(vs:List Value),C.J w/\pW bk w->C.mV<=w.heap.size->(∀b o,bk b o->b<w.heap.size)->Yl C.mV bk loc mp w aI m l->vs.length=args.length->(∀(i:Nat)(v:Value)(x:FV),vs[i]?=some v->args[i]?=some x->aT (ux bk loc mp) w v x)->Calls C.P f vs.toArray w λe w'=>∃v r l',e=.returned v/\R r l'/\dA (kW bk w.heap.size) w' v r/\(∀o b,loc o=some b->(∀cells (i:Nat)(x:FV),getObj aI o=some cells->cells[i]?=some x->∃c,w'.cell? ⟨b,i,none⟩=some c/\aT (ux (kW bk w.heap.size) loc mp) w' c x)/\∀cs T fr,w.heap[b]?=some (.cells cs T fr)->∃cs',w'.heap[b]?=some (.cells cs' T fr)/\cs'.size=cs.size)/\(∃(b gu:Nat) (es:List MapEntry),mp m=some b/\w'.heap[b]?=some (.map es.toArray gu)/\pV es gu/\es.length=l'.length/\∀(i:Nat)(e:MapEntry)(p:AV×FV),es[i]?=some e->l'[i]?=some p->dA (kW bk w.heap.size) w' e.key p.1/\aT (ux (kW bk w.heap.size) loc mp) w' e.val p.2)/\w'.os=w.os/\w'.tape=w.tape/\w'.output=w.output/\w.heap.size<=w'.heap.size/\∀k,k<w.heap.size->(∀o,loc o≠some k)->(∀o,mp o≠some k)->w'.heap[k]?=w.heap[k]?
def vp (N:List Nat)(m:Nat):List (Nat×List FV)->Bool|[]=>true|(_,[])::_=>false|(o,c::cs)::r=>match iw o,FV.ym N m (c::cs)with|true,true=>vp N m r|_,_=>false
def Hq (n:Nat):List Nat->Bool|[]=>true|m::r=>match Nat.beq n m with|true=>false|false=>Hq n r
def Mo:List Nat->Bool|[]=>true|n::r=>match Hq n r with|true=>Mo r|false=>false
def Hr (ρ:List (Nat×Nat)):List (Nat×List FV)->List Nat|[]=>[]|(o,_)::r=>GB ρ o::Hr ρ r
def Mp (S:aj)(ρ:List (Nat×Nat)):List (Nat×List FV)->Prop|[]=>True|(o,cells)::r=>getObj S.aI (GB ρ o)=some (FV.Hp ρ cells)/\Mp S ρ r
def Ub (C:Ctx)(S:aj)(dst:Option Nat)(g:FuncId)(args:List FV)(K:aj->Prop):Prop:=∃(ρ:List (Nat×Nat)) (aI:List (Nat×List FV)) (m:Nat) (l:List (AV×FV)) (az:List FV) (R:AV->List (AV×FV)->Prop),FV.Hp ρ az=args/\(FV.ym (jf aI) m az=true/\vp (jf aI) m aI=true/\iw m=true/\KG (jf aI) m l=true/\Mo (Hr ρ aI)=true)/\Mp S ρ aI/\getM S.maps (GB ρ m)=some (uq (FV.nm ρ) l)/\getM C.ex.Mi (GB ρ m)=none/\oz C g aI m l az R/\∀r l',R r l'->K ((S.KF (uU S.maps (GB ρ m) (uq (FV.nm ρ) l'))).put dst (.p r))
def Ou (C:Ctx)(call:iQ)(Y:pH)(S:aj)(dst:Option Nat)(g:FuncId)(args:List FV)(K:aj->Prop):Prop:=match Yg S args with|some (o,bs,rest)=>Yf C S dst g o bs rest K|none=>call Y g args (λv S'=>ahl C g K (S'.put dst v)) S\/(((acy C.P g/\match args with|[x]=>K (S.put dst x)|_=>False)\/Ub C S dst g args K)\/Yk C S dst g args K)\/Ot C S dst g args K
def alr:List FV->Option Int|[.full [],.p (.int .i64 n)]=>some n|_=>none
def RI (C:Ctx)(call:iQ)(Y:pH)(S:aj)(dst:Option Nat)(f:FV)(args:List FV)(K:aj->Prop):Prop:=match f with
 |.p (.fn (.func g) first captured)=>match gM g C.ex.inl with|true=>Ou C call Y S dst g (aG first++args++aG captured) K|false=>match FV.fe args with|some xs=>∃R,aq C g (first++xs++captured) R/\∀r,R r->JQ S dst r K|none=>Ou C call Y S dst g (aG first++args++aG captured) K
 |.fn (.func g) first captured=>match FV.fe (first++args++captured)with|some xs=>∃R,aq C g xs R/\∀r,R r->JQ S dst r K|none=>Ou C call Y S dst g (first++args++captured) K
 |.lX l=>Y l args (λv S'=>K (S'.put dst v)) S
 |_=>False
def newObj (S:aj)(d:Nat)(cells:List FV):aj:={(S.kill (S.off+d)).put (some d) (.ptr (S.off+d) 0)with aI:=(S.off+d,FV.eD (S.off+d) cells)::eA (S.off+d) S.aI}
def GC (S:aj)(d:Nat)(cells:List FV)(K:aj->Prop):Prop:=rF S d λnm=>K {(S.kill nm).put (some d) (.ptr nm 0)with aI:=(nm,FV.eD nm cells)::eA nm S.aI}
theorem wh (S:aj)(d:Nat)(cells:List FV)(K:aj->Prop):GC S d cells K=(iw (S.off+d)=false/\K (newObj S d cells)):=by unfold GC newObj;rw[jH]
def Mq (S:aj)(d:Nat)(K:aj->Prop):Prop:=rF S d λnm=>K {(S.kill nm).put (some d) (.ptr nm 0)with cT:=(nm,[])::Ch nm S.cT}
theorem Hs (S:aj)(d:Nat)(K:aj->Prop):Mq S d K=(iw (S.off+d)=false/\K (RH S d)):=by unfold Mq RH;rw[jH]
def sw {α:Type}(k:AV):List (AV×α)->Option α|[]=>none|(k',x)::r=>match nt k k' with|true=>some x|false=>sw k r
def Bf {α:Type}(k:AV)(x:α):List (AV×α)->List (AV×α)|[]=>[(k,x)]|(k',y)::r=>match nt k k' with|true=>(k,x)::r|false=>(k',y)::Bf k x r
def pT {α:Type}:List AV->List α->List (AV×α)|k::ks,x::xs=>(k,x)::pT ks xs|_,_=>[]
def FV.entries (maps:List (Nat×List (AV×FV))):FV->Option (List (AV×FV))|.fG o=>getM maps o|.p (.mp ks vs)=>some (pT ks (aG vs))|.p .vU=>some []|_=>none
def okV (ok:Bool)(x:FV)(b:Bool):FV:=match ok with|true=>.eW [x,.p (.bool b)]|false=>x
def Ht (C:Ctx)(maps:List (Nat×List (AV×FV)))(t:TypeId)(x i:FV)(ok:Bool)(K:FV->Prop):Prop:=match bO C.iZ t with
 |some ⟨_,_,.map kT eT,_⟩=>match bO C.iZ kT,i.eG,x.entries maps with|some ki,some kk,some l=>∃L,eZ C.P 40 kT=some L/\gL ki.shape.isAgg L kk=true/\(∀p,p∈l->gL ki.shape.isAgg L p.1=true)/\∃r,sw kk l=r/\(match r with|some v=>K (okV ok v true)|none=>∃z:Value,(C.P.info? eT).map (·.zero)=some (some z)/\K (okV ok (FV.Ol z) false))|_,_,_=>False
 |_=>False
def Uc (C:Ctx)(S:aj)(dst:Option Nat)(t:TypeId)(m k:FV)(x:FV)(K:aj->Prop):Prop:=match bO C.iZ t with
 |some ⟨_,_,.map kT _,_⟩=>match m with
  |.fG ob=>match bO C.iZ kT,k.eG,getM S.maps ob with|some ki,some kk,some l=>∃L,eZ C.P 40 kT=some L/\gL ki.shape.isAgg L kk=true/\(∀p,p∈l->gL ki.shape.isAgg L p.1=true)/\∃l',Bf kk x l=l'/\(match getM C.ex.Mi ob with|none=>K ((S.KF (uU S.maps ob l')).put dst (.p (.eW [])))|some (_,_,k)=>k=some kk/\K ((S.KF (uU S.maps ob l')).put dst (.p (.eW []))))|_,_,_=>False
  |_=>False
 |_=>False
def Mr (S:aj)(d:Nat)(K:aj->Prop):Prop:=rF S d λnm=>K {(S.kill nm).put (some d) (.fG nm)with maps:=(nm,[])::AD (FV.kill nm) (Aw nm S.maps)}
def RJ (op:UnOp)(x:FV)(K:FV->Prop):Prop:=match op,x with|.not,.p (.bool b)=>Al λt:Bool=>t=!b->K (.p (.bool t))|.neg,.p (.int k n)=>∃c,k.wrap (0-n)=c/\K (.p (.int k c))|.xor,.p (.int k n)=>∃c,yb .xor k (match k.signed with|true=>-1|false=>k.max) n=c/\K (.p (.int k c))|_,_=>False
def dx.plain:dx->FV|.val x=>.p x|.fresh _ _ xs=>.p (.sl xs)|.vf x=>x|.own rest _ _ xss=>match rest with|none=>.p (.sl xss)|some r=>.p (.eW (.sl xss::r))
def zT (C:Ctx)(f:FV)(args:List FV)(K:FV->Prop):Prop:=match f with
 |.p (.fn (.func g) first captured)=>match FV.fe args with|some xs=>∃R,aq C g (first++xs++captured) R/\∀r,R r->K r.plain|none=>False
 |.fn (.func g) first captured=>match FV.fe (first++args++captured)with|some xs=>∃R,aq C g xs R/\∀r,R r->K r.plain|none=>False
 |_=>False
def Ud (C:Ctx)(sh:Shape)(xs:Option (List (List AV)))(K:FV->Prop):Prop:=match sh,xs with
 |.slice e,some xs=>match bO C.iZ e with|some ⟨1,_,.int .u8,_⟩=>∃bs:List UInt8,xs=bs.map (λb=>[AV.int .u8 (b.toNat:Int)])/\K (.p (.str bs))|_=>False
 |_,_=>False
def RK (C:Ctx)(src dst:TypeId)(v:FV)(K:FV->Prop):Prop:=match bO C.iZ src with
 |none=>False
 |some ⟨_,_,sh,_⟩=>match bO C.iZ dst with
  |some ⟨_,_,.int k,_⟩=>match v with|.p (.int _ n)=>∃c,k.wrap n=c/\K (.p (.int k c))|_=>False
  |some ⟨_,_,.str,_⟩=>match v with|.p (.str s)=>K (.p (.str s))|.p (.int _ n)=>∃c:UInt8,n=(c.toNat:Int)/\c.toNat<128/\K (.p (.str [c]))|v=>Ud C sh v.elems K
  |_=>False
def eH (C:Ctx)(S:aj)(op:Op)(K:FV->Prop):Prop:=match op with
 |.move x=>force (S.val x) K
 |.assign x=>force (S.val x) K
 |.pick c a b=>match S.val c with|.p (.bool true)=>force (S.val a) K|.p (.bool false)=>force (S.val b) K|_=>False
 |.binOp op t x y _=>match Mk y with|true=>Be C t op (S.val x) K|false=>match Ml y with|true=>Mm C t op (S.val x) K|false=>Hj C t op (S.val x) (S.val y) K
 |.unOp op _ x=>RJ op (S.val x) K
 |.convert src dst x=>RK C src dst (S.val x) K
 |.makeInterface t x=>match bO C.iZ t with
  |some ⟨_,_,.iface,_⟩=>False
  |some _=>match(S.val x).eG with|some y=>K (.p (.iface t y))|none=>False
  |none=>False
 |.makeFunc fn first captured=>pX (first.toList.map S.val) λa=>pX (captured.toList.map S.val) λb=>K (.fn fn a b)
 |.build t parts=>Gz C S t parts.toList K
 |.buildSlice t len parts=>mh C S t len parts.toList K
 |.load t a=>nu C S.aI t (S.val a) K
 |.nilCheck x=>match S.val x with|.ptr b off=>K (.ptr b off)|.p (.imp xs)=>K (.p (.imp xs))|.gD o base off=>K (.gD o base off)|.p (.fn (.func f) a b)=>K (.p (.fn (.func f) a b))|.fn (.func f) a b=>K (.fn (.func f) a b)|_=>False
 |.fieldAddr s x f=>nv C s (S.val x) f K
 |.field s x f=>vZ C s (S.val x) f K
 |.indexAddr t x i=>js C S.aI t (S.val x) (S.val i) K
 |.index t x i=>we C t (S.val x) (S.val i) K
 |.lookup t x i ok=>Ht C S.maps t (S.val x) (S.val i) ok K
 |.slice t x lo hi none=>Mn C t (S.val x) (lo.map S.val) (hi.map S.val) K
 |.extract x i=>match S.val x with
  |.eW xs=>match gh i xs with|y::_=>K y|[]=>False
  |.p (.eW xs)=>match gh i xs with|y::_=>K (.p y)|[]=>False
  |_=>False
 |.call c=>match c.callee with|.builtin b=>jI C S.aI b (c.args.toList.map S.val) c.argTypes.toList K|.value f=>zT C (S.val f) (c.args.toList.map S.val) K|.invoke _ _=>False
 |_=>False
def Fl:List Nat->(aj->Prop)->aj->Prop|[],K,S=>K S|d::ds,K,S=>match Av S.aI d with|none=>False|some cells=>match FV.fe cells with|none=>False|some ys=>match uw ys with|true=>Fl ds K (S.JL d ys)|false=>False
def Fm (C:Ctx)(S:aj)(e:TypeId)(len:Nat)(parts:List (Nat×Operand))(K:List FV->Nat->Prop):Prop:=match bO C.iZ e with
 |none=>False
 |some j=>match Nat.ble (len*j.size) 1000000,Nat.beq j.size 0 with
  |true,false=>match fP j.size S parts (kZ len (j.zero.map FV.gv))with
   |some cs=>match jG cs with|false=>False|true=>pX cs λcs=>K cs j.size
   |none=>False
  |_,_=>False
def yo (C:Ctx)(S:aj)(e:TypeId)(d len:Nat)(parts:List (Nat×Operand))(K:aj->Prop):Prop:=Fm C S e len parts λcs z=>rF S d λnm=>K ({S.kill nm with aI:=(nm,FV.eD nm cs)::eA nm S.aI}.put (some d) (.gd nm e z))
def RL (C:Ctx)(S:aj)(t:TypeId)(d:Nat)(len cap:FV)(K:aj->Prop):Prop:=match bO C.iZ t with
 |some ⟨_,_,.slice e,_⟩=>match bO C.iZ e with
  |some ⟨1,bytes,_,[z]⟩=>match len,cap with|.p (.int _ n),.p (.int _ n')=>∃m:Nat,n=m/\n'=m/\bytes*m<=281474976710656/\m<=9223372036854775807/\rF S d λnm=>∃cs,FV.eD nm (List.replicate m (FV.gv z))=cs/\K ({S.kill nm with aI:=(nm,cs)::eA nm S.aI}.put (some d) (.gd nm e 1))|_,_=>False
  |some j=>match len,cap with|.p (.int _ n),.p (.int _ n')=>∃m:Nat,n=0/\n'=m/\j.bytes*m<=281474976710656/\m<=9223372036854775807/\wg S d λnm=>K ((S.kill nm).put (some d) (.fM nm e j.size []))|_,_=>False
  |none=>False
 |_=>False
def RM (C:Ctx)(t:TypeId)(dst:Option Nat)(S:aj)(k:Nat)(T:TypeId)(bM:Nat)(hi:FV)(K:aj->Prop):Prop:=match dst,bO C.iZ t,hi with
 |some d,some ⟨_,_,.slice e,_⟩,.p (.int _ n)=>match bO C.iZ e with|none=>False|some j=>match Nat.beq bM j.size,Av S.aI k with|true,some xs=>∃m N:Nat,n=m/\xs.length=N*bM/\m<=N/\∃zs,FV.eD k (xs.take (m*bM))=zs/\K ({S.kill k with aI:=(k,zs)::eA k S.aI}.put (some d) (.gd k T bM))|_,_=>False
 |_,_,_=>False
def Ei (C:Ctx)(S:aj)(src dst:TypeId)(d:Nat)(s:List UInt8)(K:aj->Prop):Prop:=match bO C.iZ src,bO C.iZ dst with
 |some ⟨_,_,.str,_⟩,some ⟨_,_,.slice e,_⟩=>match bO C.iZ e with|some ⟨1,_,.int .u8,_⟩=>wg S d λnm=>K ((S.kill nm).put (some d) (.fM nm e 1 (s.map λb=>[AV.int .u8 (b.toNat:Int)])))|_=>False
 |_,_=>False
def Ue (C:Ctx)(dst:Option Nat)(S:aj)(src ty:TypeId)(x:Operand)(K:aj->Prop):Prop:=match bO C.iZ ty,dst with
 |some ⟨_,_,.slice _,_⟩,some d=>match S.val x with|.p (.str s)=>Ei C S src ty d s K|_=>False
 |_,_=>eH C S (.convert src ty x) λv=>K (S.put dst v)
def Ms (C:Ctx)(t u d:TypeId)(S:aj)(y:FV)(K:aj->Prop):Prop:=match bO C.iZ t,bO C.iZ u with
 |some ⟨_,_,.slice e,_⟩,some ui=>match ui.shape.Fj with|false=>False|true=>match bO C.iZ e with|none=>False|some j=>match y.items,Nat.beq j.bytes 0,Nat.beq j.size 0 with|some ys,false,false=>ys≠[]/\(∀zs,zs∈ys->zs.length=j.size)/\ys.length*j.bytes<=140737488355328/\rF S d λnm=>∃zs,aG ys.flatten=zs/\K ({S.kill nm with aI:=(nm,zs)::eA nm S.aI}.put (some d) (.gd nm e j.size))|_,_,_=>False
 |_,_=>False
def RN (C:Ctx)(t u d:TypeId)(S:aj)(x y:FV)(K:aj->Prop):Prop:=match gM d C.ex.opens with
 |true=>match x with|.full []=>Ms C t u d S y K|x=>tI C t u d S x y K
 |false=>tI C t u d S x y K
def RO (C:Ctx)(t:TypeId)(x h m:FV)(K:FV->Prop):Prop:=match bO C.iZ t with
 |some ⟨_,_,.slice e,_⟩=>match bO C.iZ e with|none=>False|some _=>match x.elems,h,m with|some _,.p (.int _ a),.p (.int _ b)=>a=0/\b=0/\K (.full [])|_,_,_=>False
 |_=>False
def Mt (C:Ctx)(t:TypeId)(dst:Option Nat)(S:aj)(k:Nat)(T:TypeId)(bM:Nat)(lo:FV)(K:aj->Prop):Prop:=match dst,bO C.iZ t,lo with
 |some d,some ⟨_,_,.slice e,_⟩,.p (.int _ n)=>match bO C.iZ e with|none=>False|some j=>match Nat.beq bM j.size,Av S.aI k with|true,some xs=>∃m N:Nat,n=m/\xs.length=N*bM/\m<=N/\K (S.put (some d) (.uk k m T bM))|_,_=>False
 |_,_,_=>False
def Mu (C:Ctx)(t:TypeId)(dst:Option Nat)(S:aj)(x:FV)(K:aj->Prop):Prop:=match x with
 |.uk k b T bM=>match bO C.iZ t with
  |some ⟨_,_,.slice e,_⟩=>match bO C.iZ e with|none=>False|some j=>match Nat.beq bM j.size,Av S.aI k with|true,some xs=>jG (j.zero.map FV.gv)=true/\∃N:Nat,xs.length=(b+N)*bM/\∃zs,xs.take (b*bM)++kZ N (j.zero.map FV.gv)=zs/\K ((S.Cj k zs).put dst (.p (.eW [])))|_,_=>False
  |_=>False
 |_=>False
def Ov (C:Ctx)(dst:Option Nat)(S:aj)(t:TypeId)(x:Operand)(lo hi mx:Option Operand)(K:aj->Prop):Prop:=match S.val x with
 |.gd k T bM=>match lo,hi,mx with|none,some h,none=>RM C t dst S k T bM (S.val h) K|some l,none,none=>Mt C t dst S k T bM (S.val l) K|_,_,_=>False
 |v=>match lo,hi,mx with|none,some h,some m=>RO C t v (S.val h) (S.val m) λv=>K (S.put dst v)|_,_,_=>eH C S (.slice t x lo hi mx) λv=>K (S.put dst v)
mutual def FV.JR (d E:Nat)(qK:List (List AV)):FV->FV
 |.ptr o off=>match Nat.beq o d with|true=>.dR|false=>.ptr o off
 |.gD o b off=>match Nat.beq o d with|true=>.dR|false=>.gD o b off
 |.gd o T e=>match Nat.beq o d with
  |true=>match Nat.beq e E with|true=>.fM o T e qK|false=>.dR
  |false=>.gd o T e
 |.uk o x T e=>match Nat.beq o d with|true=>.dR|false=>.uk o x T e
 |.fM t T e xs=>match Nat.beq t d with|true=>.p (.sl xs)|false=>.fM t T e xs
 |.agg xs=>.agg (FV.Ck d E qK xs)
 |.eW xs=>.eW (FV.Ck d E qK xs)
 |.fn f first captured=>.fn f (FV.Ck d E qK first) (FV.Ck d E qK captured)
 |.p x=>.p x
 |.full xs=>.full xs
 |.lX l=>match Nat.beq l d with|true=>.dR|false=>.lX l
 |.fG o=>match Nat.beq o d with|true=>.dR|false=>.fG o
 |.zR o=>match Nat.beq o d with|true=>.dR|false=>.zR o
 |.dR=>.dR def FV.Ck (d E:Nat)(qK:List (List AV)):List FV->List FV|[]=>[]|x::xs=>FV.JR d E qK x::FV.Ck d E qK xs end
theorem FV.wj (d E:Nat)(qK:List (List AV))(xs:List FV):FV.Ck d E qK xs=xs.map (FV.JR d E qK):=by
 induction xs with
 |nil=>simp[FV.Ck]
 |cons x xs ih=>simp[FV.Ck,ih]
def zU (d E:Nat)(qK:List (List AV)):List (Nat×List FV)->List (Nat×List FV)|[]=>[]|(u,i)::r=>match Nat.beq u d with|true=>zU d E qK r|false=>(u,FV.Ck d E qK i)::zU d E qK r
def aj.Ow (S:aj)(d E:Nat)(qK:List (List AV)):aj:={S with tmps:=λi=>(S.tmps i).JR d E qK,aI:=zU d E qK S.aI,bK:=yj (FV.JR d E qK) S.bK,cT:=Ch d S.cT,maps:=AD (FV.JR d E qK) (Aw d S.maps),je:=Aw d S.je}
structure ahm (S:aj)(d E:Nat)(qK:List (List AV)):Prop where
 obj:∃cells,Av S.aI d=some cells/\FV.fe cells=some qK.flatten
 each:∀ys,ys∈qK->ys.length=E/\∀y,y∈ys->y.one=true
def Gk (C:Ctx)(call:iQ)(Y:pH)(o:Oper)(K:aj->Prop)(S:aj):Prop:=match o.op with
 |.makeFunc fn first captured=>∃fr:List Nat,Fl fr (λS=>pX (first.toList.map S.val) λa=>pX (captured.toList.map S.val) λb=>K (S.put o.dst (.fn fn a b))) S
 |.buildSlice t len parts=>match o.dst,bO C.iZ t with
  |some d,some ⟨_,_,.slice e,_⟩=>match gM d C.ex.opens with
   |true=>yo C S e d len parts.toList K
   |false=>mh C S t len parts.toList λv=>match v with
    |.full xs=>match bO C.iZ e with|none=>False|some j=>wg S d λnm=>K ((S.kill nm).put (some d) (.fM nm e j.size xs))
    |_=>False
  |_,_=>False
 |.alloc t=>match o.dst,bO C.iZ t with
  |some d,some i=>match Nat.beq t C.bT,i.zero with|true,[.pointer none,.slice none 0 0]=>Mq S d K|_,_=>pX (i.zero.map FV.gv) λcs=>GC S d cs K
  |_,_=>False
 |.box t x=>match o.dst,bO C.iZ t with
  |some d,some i=>match Nat.beq (S.val x).cells.length i.size with
   |true=>match jG (S.val x).cells with|true=>pX (S.val x).cells λcs=>GC S d cs K|false=>False
   |false=>False
  |_,_=>False
 |.store t a x=>match bO C.iZ t,S.val a with
  |some i,.ptr ob off=>match getObj S.aI ob with
   |none=>False
   |some cells=>match Nat.beq (S.val x).cells.length i.size with
    |true=>match jG (S.val x).cells with
     |true=>match gI cells off (S.val x).cells with|some cs=>pX cs λcs=>K ((S.Cj ob cs).put o.dst (.p (.eW [])))|none=>False
     |false=>False
    |false=>False
  |some i,.gD ob base off=>match getObj S.aI ob with
   |none=>False
   |some cells=>match Nat.beq (S.val x).cells.length i.size with
    |true=>match jG (S.val x).cells with|true=>∃A ys B:List FV,cells=A++(ys++B)/\A.length=base/\(match gI ys off (S.val x).cells with|some zs=>pX zs λzs=>∃cs,A++(zs++B)=cs/\K ((S.Cj ob cs).put o.dst (.p (.eW [])))|none=>False)|false=>False
    |false=>False
  |_,_=>False
 |.makeMap _ none=>match o.dst with|some d=>Mr S d K|none=>False
 |.makeSlice t len cap=>match o.dst with|some d=>RL C S t d (S.val len) (S.val cap) K|none=>False
 |.mapUpdate t m k x=>Uc C S o.dst t (S.val m) (S.val k) (S.val x) K
 |.insert t m k x=>Uc C S o.dst t (S.val m) (S.val k) (S.val x) K
 |.slice t x lo hi mx=>Ov C o.dst S t x lo hi mx K
 |.convert src ty x=>Ue C o.dst S src ty x K
 |.call c=>match c.callee with
  |.builtin .append=>match c.args.toList.map S.val,c.argTypes.toList,o.dst with
   |[x,y],[t,u],some d=>match y with|.gd o2 T2 e2=>RG C t u d S x o2 T2 e2 K|y=>RN C t u d S x y K
   |_,_,_=>False
  |.builtin .clear=>match c.args.toList.map S.val,c.argTypes.toList with|[x],[t]=>Mu C t o.dst S x K|_,_=>False
  |.builtin b=>jI C S.aI b (c.args.toList.map S.val) c.argTypes.toList λv=>K (S.put o.dst v)
  |.value f=>RI C call Y S o.dst (S.val f) (c.args.toList.map S.val) K
  |.invoke _ _=>False
 |op=>eH C S op λv=>K (S.put o.dst v)
def Hu:Bool->Bool->Bool|true,b=>b|false,true=>false|false,false=>true
theorem oH (a b:Bool):Hu a b=(a==b):=by cases a<;>cases b<;>rfl
def pI (C:Ctx)(call:iQ)(Y:pH)(ops:Array Oper):List Oper->(aj->Prop)->aj->Prop
 |[],K,S=>K S
 |o::rest,K,S=>match o.guard with
  |none=>Gk C call Y o (pI C call Y ops rest K) S
  |some (j,want)=>match(ops[j]?).bind (·.dst)with
   |none=>False
   |some d=>match S.get d with
    |.p (.bool b)=>match Hu b want with|true=>Gk C call Y o (pI C call Y ops rest K) S|false=>pI C call Y ops rest K (S.put o.dst (.p (.eW [])))
    |.p (.eW [])=>pI C call Y ops rest K (S.put o.dst (.p (.eW [])))
    |_=>False
def Hv (C:Ctx)(ops:Array Oper):List Oper->(aj->Prop)->aj->Prop
 |[],K,S=>K S
 |o::rest,K,S=>match o.guard with
  |none=>∃v,eH C S o.op (λu=>u=v)/\Hv C ops rest K (S.put o.dst v)
  |some (j,want)=>match(ops[j]?).bind (·.dst)with
   |none=>False
   |some d=>match S.get d with
    |.p (.bool b)=>match Hu b want with|true=>∃v,eH C S o.op (λu=>u=v)/\Hv C ops rest K (S.put o.dst v)|false=>Hv C ops rest K (S.put o.dst (.p (.eW [])))
    |.p (.eW [])=>Hv C ops rest K (S.put o.dst (.p (.eW [])))
    |_=>False
def dstsOf:List Oper->List Nat|[]=>[]|o::os=>match o.dst with|some d=>d::dstsOf os|none=>dstsOf os
def aj.Bg (S:aj)(ds:List Nat):aj:={S with tmps:=λi=>match gM i ds with|true=>.dR|false=>S.tmps i}
def uy (K:aj->Prop)(Q:Exit->aj->Prop):Exit->aj->Prop|.normal,S=>K S|e,S=>Q e S
def Hw (id:Nat)(Q:Exit->aj->Prop):Exit->aj->Prop
 |.exit n,S=>match Nat.beq n id with|true=>Q .normal S|false=>Q (.exit n) S
 |e,S=>Q e S
def guarded:List Oper->Bool|[]=>false|o::os=>match o.guard with|some _=>true|none=>guarded os
def yp:List Oper->List Nat
 |[]=>[]
 |[o]=>match o.dst with|some d=>[d]|none=>[]
 |o::os=>match o.op,o.dst with|.assign _,some d=>d::yp os|_,_=>yp os
def getAll (S:aj):List Nat->List FV|[]=>[]|r::rs=>S.get r::getAll S rs
def Hx (K:aj->Prop):aj->List Nat->(List FV->Prop)->Prop|S,[],φ=>Al λ_:φ []=>K S|S,r::rs,φ=>Al λv=>Hx K (S.put (some r) v) rs λvs=>φ (v::vs)
def tK (ops:Array Oper):Nat->Nat->Nat->Bool|0,_,_=>false|fuel+1,j,i=>match ops[j]?with|none=>false|some o=>o.after.toList.any λe=>Region.binds .any e&&(e.on==i||tK ops fuel e.on i)
def Ox (ops:Array Oper)(q:Nat->Bool)(listed:Array Bool)(k:Nat):Bool:=match ops[k]?with|none=>false|some o=>(List.range ops.size).all λj=>j==k||listed.getD j true||tK ops ops.size j k||(q j&&match ops[j]?with|none=>true|some oj=>o.apart ops oj)
def tL (ops:Array Oper)(m:Nat):Nat->Nat->Array Bool->Bool|0,_,listed=>(Region.ready .any ops listed).isEmpty|fuel+1,k,listed=>(match decide (k<m)with|true=>(Region.ready .any ops listed).contains k&&Ox ops (λj=>decide (j<m)) listed k|false=>Region.ready .any ops listed==[k])&&tL ops m fuel (k+1) (listed.setIfInBounds k true)
def Ej (ops:Array Oper)(m:Nat):Bool:=decide (m<=ops.size)&&Region.noSelect ops&&tL ops m ops.size 0 (Array.replicate ops.size false)
mutual def FV.safe (pr:List Nat):FV->Bool
 |.p _=>true
 |.agg xs=>FV.uz pr xs
 |.eW xs=>FV.uz pr xs
 |.ptr o _=>gM o pr
 |.fM t _ _ _=>gM t pr
 |.full _=>true
 |.fn _ a b=>match FV.uz pr a with|true=>FV.uz pr b|false=>false
 |.lX l=>gM l pr
 |.gd o _ _=>gM o pr
 |.uk o _ _ _=>gM o pr
 |.gD o _ _=>gM o pr
 |.fG o=>gM o pr
 |.zR o=>gM o pr
 |.dR=>true def FV.uz (pr:List Nat):List FV->Bool|[]=>true|x::xs=>match FV.safe pr x with|true=>FV.uz pr xs|false=>false end
def opsL:Op->Option (List Operand)|.move x=>some [x]|.assign x=>some [x]|.pick c x y=>some [c,x,y]|.binOp _ _ x y _=>some [x,y]|.unOp _ _ x=>some [x]|.convert _ _ x=>some [x]|.load _ x=>some [x]|.nilCheck x=>some [x]|.fieldAddr _ x _=>some [x]|.field _ x _=>some [x]|.indexAddr _ x i=>some [x,i]|.index _ x i=>some [x,i]|.slice _ x lo hi none=>some (x::(lo.toList++hi.toList))|.extract x _=>some [x]|.call ⟨.value f,args,_⟩=>some (f::args.toList)|.call ⟨.builtin _,args,_⟩=>some args.toList|.build _ parts=>some (parts.toList.map (·.2))|.buildSlice _ _ parts=>some (parts.toList.map (·.2))|_=>none
def yq (pr:List Nat)(S:aj):List Operand->Bool|[]=>true|z::zs=>match(S.val z).safe pr with|true=>yq pr S zs|false=>false
def xL (pr:List Nat)(S:aj)(op:Op)(v:FV):Bool:=match opsL op with|none=>false|some zs=>match yq pr S zs with|true=>v.safe pr|false=>false
def KH (pr:List Nat)(k:Nat):FV->Bool|.fM t _ _ _=>!gM t pr|.full _=>!gM k pr|_=>false
def oI (il:List FuncId)(pr:List Nat)(S:aj)(dst:Option Nat):Op->Bool
 |.alloc _=>match dst with|some d=>!gM (S.off+d) pr|none=>false
 |.store _ a _=>match S.val a with|.ptr ob _=>!gM ob pr|_=>false
 |.call ⟨.builtin .append,args,_⟩=>match args.toList.map S.val,dst with
  |[x,y],some d=>match y with|.gd _ _ _=>false|_=>KH pr (S.off+d) x
  |_,_=>false
 |.call ⟨.value f,args,_⟩=>match S.val f with
  |.p (.fn (.func g) _ _)=>match gM g il,FV.fe (args.toList.map S.val),dst with|false,some _,some d=>!gM (S.off+d) pr|_,_,_=>false
  |_=>false
 |_=>false
inductive JS where|fin|one (k:Nat)(p:JS)|alt (k:Nat)(p r:JS)|stop
def JS.Uf:JS->List Nat|.alt k _ r=>k::r.Uf|_=>[]
structure rO where
 calm:List Nat
 ajH:List Nat
 ajI:List Nat
 pr:List Nat
def rO.of (c:rO)(i:Nat):Nat:=match gM i c.calm with|true=>1|false=>match gM i c.ajH with|true=>2|false=>match gM i c.ajI with|true=>3|false=>0
def oA (ops:Array Oper)(c:rO):JS->Bool->Nat->Array Bool->Bool
 |.fin,top,_,listed=>top&&(Region.ready .any ops listed).isEmpty
 |.stop,top,_,_=>!top
 |.one k p,top,fuel,listed=>top&&match fuel with|0=>false|fuel+1=>Nat.ble (c.of k) 1&&(Region.ready .any ops listed).contains k&&Ox ops (λj=>Nat.ble (c.of j) (c.of k+1)) listed k&&oA ops c p true fuel (listed.setIfInBounds k true)
 |.alt k p r,top,fuel,listed=>(!top||Region.ready .any ops listed==(k::r.Uf))&&match fuel with|0=>false|fuel'+1=>oA ops c p true fuel' (listed.setIfInBounds k true)&&oA ops c r false fuel listed
def afI (C:Ctx)(ops:Array Oper)(pr:List Nat)(o:Oper)(K:aj->Prop)(S:aj):Prop:=match o.guard with
 |none=>∃v,eH C S o.op (λu=>u=v)/\xL pr S o.op v=true/\K (S.put o.dst v)
 |some (j,want)=>match(ops[j]?).bind (·.dst)with
  |none=>False
  |some d=>match S.get d with
   |.p (.bool b)=>match Hu b want with|true=>∃v,eH C S o.op (λu=>u=v)/\xL pr S o.op v=true/\K (S.put o.dst v)|false=>K (S.put o.dst (.p (.eW [])))
   |.p (.eW [])=>K (S.put o.dst (.p (.eW [])))
   |_=>False
def afJ (C:Ctx)(call:iQ)(Y:pH)(ops:Array Oper)(pr:List Nat)(o:Oper)(K:aj->Prop)(S:aj):Prop:=match o.guard with
 |none=>oI C.ex.inl pr S o.dst o.op=true/\Gk C call Y o K S
 |some (j,want)=>match(ops[j]?).bind (·.dst)with
  |none=>False
  |some d=>match S.get d with
   |.p (.bool b)=>match Hu b want with|true=>oI C.ex.inl pr S o.dst o.op=true/\Gk C call Y o K S|false=>K (S.put o.dst (.p (.eW [])))
   |.p (.eW [])=>K (S.put o.dst (.p (.eW [])))
   |_=>False
def yu (C:Ctx)(call:iQ)(Y:pH)(ops:Array Oper)(c:rO)(k:Nat)(K:aj->Prop)(S:aj):Prop:=match ops.toList[k]?with|none=>False|some o=>match c.of k with|0=>Hv C ops [o] K S|1=>afI C ops c.pr o K S|2=>afJ C call Y ops c.pr o K S|_=>pI C call Y ops [o] K S
def oB (C:Ctx)(call:iQ)(Y:pH)(ops:Array Oper)(c:rO)(K:aj->Prop):JS->aj->Prop|.fin,S=>K S|.stop,_=>True|.one k p,S=>yu C call Y ops c k (oB C call Y ops c K p) S|.alt k p r,S=>match r with|.stop=>yu C call Y ops c k (oB C call Y ops c K p) S|_=>yu C call Y ops c k (oB C call Y ops c K p) S/\oB C call Y ops c K r S
inductive How where|lex (m:Nat)|keep (φ:List FV->Prop)|plan (c:rO)(p:JS)(T:Option aj)|sea (c:rO)(J:Array Bool->aj->Prop)
def ny (C:Ctx)(call:iQ)(Y:pH)(ops:Array Oper)(draw:Bool)(K:aj->Prop)(S:aj):Prop:=match draw,guarded ops.toList with
 |false,false=>pI C call Y ops ops.toList K S
 |false,true=>∃φ:Option (List FV->Prop),match φ with|some φ=>Hv C ops ops.toList (λS'=>φ (getAll S' (yp ops.toList))) S/\Hx K (S.Bg (dstsOf ops.toList)) (yp ops.toList) φ|none=>pI C call Y ops ops.toList K S
 |true,_=>∃how:How,match how with
  |.lex m=>Ej ops m=true/\Hv C ops (ops.toList.take m) (pI C call Y ops (ops.toList.drop m) K) S
  |.keep φ=>Ej ops ops.size=true/\Hv C ops ops.toList (λS'=>φ (getAll S' (yp ops.toList))) S/\Hx K (S.Bg (dstsOf ops.toList)) (yp ops.toList) φ
  |.plan c p T=>oA ops c p true ops.size (Array.replicate ops.size false)=true/\match T with|none=>oB C call Y ops c K p S|some T=>oB C call Y ops c (λS'=>cK S' T) p S/\K T
  |.sea c J=>J (Array.replicate ops.size false) S/\(∀(listed:Array Bool)(S':aj)(k:Nat),J listed S'->k∈Region.ready .any ops listed->yu C call Y ops c k (J (listed.setIfInBounds k true)) S')/\∀(listed:Array Bool)(S':aj),J listed S'->Region.ready .any ops listed=[]->K S'
def Yn (m k y d0 d1 d2 d3 n:Nat):Bool:=ltB d0 n&&ltB d1 n&&ltB d2 n&&ltB d3 n&&!gM m [d0,d1,d2,d3]&&!gM k [d0,d1,d2,d3]&&!gM y [d0,d1,d2,d3]&&!gM d0 [d1,d2,d3]&&!gM d1 [d2,d3]&&!Nat.beq d2 d3
def uV (C:Ctx)(l:List Oper)(K:aj->Prop)(S:aj):Prop:=∃(t tx ty m k y d0 d1 d2 d3:Nat),l.map (·.op)=[.mapEntry t (.tmp m) (.tmp k),.extract (.tmp d0) 0,.call ⟨.builtin .append,#[.tmp d1,.tmp y],#[tx,ty]⟩,.extract (.tmp d0) 1,.entryStore t (.tmp m) (.tmp d3) (.tmp d2)]/\l.map (·.dst)=[some d0,some d1,some d2,some d3,none]/\l.map (·.guard)=[none,none,none,none,none]/\Yn m k y d0 d1 d2 d3 S.n=true/\match bO C.iZ t,bO C.iZ tx,bO C.iZ ty with
 |some ⟨_,_,.map kT eT,_⟩,some ⟨_,_,.slice e,_⟩,some ui=>match ui.shape.Fj,bO C.iZ e,bO C.iZ kT,S.get m with
  |true,some j,some ki,.fG ob=>match(S.get k).eG,(S.get y).items,getM S.maps ob,getM C.ex.Mi ob with|some kk,some ys,some l,some (T,z,x)=>Nat.beq T e=true/\Nat.beq z j.size=true/\Nat.beq j.bytes 0=false/\x≠some kk/\(C.P.info? eT).map (·.zero)=some (some (.slice none 0 0))/\∃L,eZ C.P 40 kT=some L/\gL ki.shape.isAgg L kk=true/\(∀p,p∈l->gL ki.shape.isAgg L p.1=true)/\(∀zs,zs∈ys->zs.length=j.size)/\∃old:List (List AV),(match sw kk l with|some v=>v=.p (.sl old)|none=>old=[])/\(∀zs,zs∈old->zs.length=j.size)/\(old.length+ys.length)*j.bytes<=140737488355328/\∃l',Bf kk (.p (.sl (old++ys))) l=l'/\K ((S.Bg [d0,d1,d2,d3]).KF (uU S.maps ob l'))|_,_,_,_=>False
  |_,_,_,_=>False
 |_,_,_=>False
def yw (ops:Array Oper)(m:Nat)(l:Array Bool):Bool:=let r:=Region.ready .any ops;let a:=l.setIfInBounds m true;let b:=a.setIfInBounds (m+1) true;let b2:=b.setIfInBounds (m+2) true;let b3:=b2.setIfInBounds (m+3) true;let c:=b.setIfInBounds (m+3) true;let c2:=c.setIfInBounds (m+2) true;let d:=a.setIfInBounds (m+3) true;let d1:=d.setIfInBounds (m+1) true;let d2:=d1.setIfInBounds (m+2) true;r l==[m]&&r a==[m+1,m+3]&&r b==[m+2,m+3]&&r b2==[m+3]&&r b3==[m+4]&&r (b3.setIfInBounds (m+4) true)==[]&&r c==[m+2]&&r c2==[m+4]&&r (c2.setIfInBounds (m+4) true)==[]&&r d==[m+1]&&r d1==[m+2]&&r d2==[m+4]&&r (d2.setIfInBounds (m+4) true)==[]
def Cl (ops:Array Oper):Nat->Nat->Array Bool->Bool|0,k,listed=>yw ops k listed&&(List.range k).all λj=>listed.getD j true|f+1,k,listed=>(Region.ready .any ops listed).contains k&&Ox ops (λj=>decide (j<k+(f+1))) listed k&&Cl ops f (k+1) (listed.setIfInBounds k true)
def Cm (ops:Array Oper):Bool:=Nat.ble 5 ops.size&&Cl ops (ops.size-5) 0 (Array.replicate ops.size false)
def GD (C:Ctx)(call:iQ)(Y:pH)(ops:Array Oper)(draw:Bool)(K:aj->Prop)(S:aj):Prop:=match draw with|true=>Cm ops=true/\Hv C ops (ops.toList.take (ops.size-5)) (uV C (ops.toList.drop (ops.size-5)) K) S|false=>pI C call Y ops (ops.toList.take (ops.toList.length-5)) (uV C (ops.toList.drop (ops.toList.length-5)) K) S
def Hy:List zS->Nat->Option zS|[],_=>none|p::_,0=>some p|_::r,n+1=>Hy r n
def VF:List zS->Nat->zS->List zS|[],_,_=>[]|_::r,0,q=>q::r|p::r,n+1,q=>p::VF r n q
def acA:List Fr->Nat->Option Fr|[],_=>none|p::_,0=>some p|_::r,n+1=>acA r n
def Oy (f:Nat->FV):List Nat->List FV->Nat->FV|p::ps,x::xs=>Oy (λi=>match Nat.beq i p with|true=>x|false=>f i) ps xs|_,_=>f
def aj.enter (S:aj)(n:Nat)(tmps:Nat->FV):aj:={n:=n,off:=S.off+1000,tmps:=tmps,aI:=S.aI,bK:=⟨S.n,S.off,S.tmps⟩::S.bK,cF:=S.cF,cT:=S.cT,maps:=S.maps,je:=S.je}
def aj.leave (S:aj)(K:aj->Prop):Prop:=match S.bK with|[]=>False|f::r=>K {n:=f.n,off:=f.off,tmps:=f.tmps,aI:=S.aI,bK:=r,cF:=S.cF,cT:=S.cT,maps:=S.maps,je:=S.je}
def uA (args:List FV):Nat->FV:=λi=>match args[i]?with|some x=>x|none=>.p (.eW [])
def yx (lvl:Nat)(st:zS)(K:aj->Prop)(S:aj):Prop:=match Hy S.cF lvl with|some .busy=>aj.leave {S with cF:=VF S.cF lvl st} K|_=>False
def Yo (lvl:Nat)(K:FV->aj->Prop):Exit->aj->Prop|.normal,S=>yx lvl .ready (K (.p (.bool true))) S|.ret,S=>yx lvl .Mj (K (.p (.bool false))) S|.exit id,S=>yx lvl (.Hh id) (K (.p (.bool false))) S|_,_=>False
def Ug (lvl:Nat)(K:aj->Prop)(S:aj):Prop:=match Hy S.cF lvl with|some .ready=>K {S with cF:=VF S.cF lvl .busy}|_=>False
def Cn (lvl:Nat)(Q:Exit->aj->Prop)(S:aj):Prop:=match Hy S.cF lvl with|some .ready=>Q .normal {S with cF:=S.cF.take lvl}|some .Mj=>Q .ret {S with cF:=S.cF.take lvl}|some (.Hh id)=>Q (.exit id) {S with cF:=S.cF.take lvl}|_=>False
def Yp (S:aj)(depth:Nat):Option Fr:=acA S.bK (S.bK.length-depth-1)
def wm (Y:pH)(assign body:(Exit->aj->Prop)->aj->Prop)(ps:List Nat)(lvl depth:Nat):pH:=λl args K S1=>match Nat.beq l (1000000+lvl)with|false=>Y l args K S1|true=>match Hy S1.cF lvl,Yp S1 depth with|some .ready,some fr=>Nat.beq args.length ps.length=true/\assign (uy (Ug lvl (body (Yo lvl K))) λ_ _=>False) (S1.enter fr.n (Oy fr.tmps ps args))|_,_=>False
def yc (C:Ctx)(call:iQ)(Y:pH):Code->(Exit->aj->Prop)->aj->Prop
 |.skip,Q,S=>Q .normal S
 |.region id ops draw,Q,S=>match gM id C.ahk with|true=>∃T,cK S T/\ny C call Y ops draw (Q .normal) T|false=>match gM (S.off+id) C.ex.JL with|true=>(∃(d E:Nat) (qK:List (List AV)),ahm S d E qK/\ny C call Y ops draw (Q .normal) (S.Ow d E qK))\/ny C call Y ops draw (Q .normal) S|false=>match gM (S.off+id) C.ex.frm with|true=>(∃(d:Nat) (ks vs:List AV),Yh S d ks vs/\ny C call Y ops draw (Q .normal) (S.Oq d (.mp ks vs)))\/ny C call Y ops draw (Q .normal) S|false=>match gM (S.off+id) C.ex.fzo with|true=>∃fr:List Nat,Fl fr (λS=>ny C call Y ops draw (Q .normal) S) S|false=>match gM (S.off+id) C.ex.rmr with|true=>GD C call Y ops draw (Q .normal) S|false=>ny C call Y ops draw (Q .normal) S
 |.seq a b,Q,S=>yc C call Y a (uy (yc C call Y b Q) Q) S
 |.cond c x y,Q,S=>match S.val c with|.p (.bool true)=>yc C call Y x Q S|.p (.bool false)=>yc C call Y y Q S|_=>False
 |.block id c,Q,S=>yc C call Y c (Hw id Q) S
 |.loop c,Q,S=>∃(α:Type) (I:α->aj->Prop) (μ:α->Nat),(∃a S',cK S S'/\I a S')/\∀a S,I a S->yc C call Y c (uy (λS'=>∃a' um,cK S' um/\I a' um/\μ a'<μ a) Q) S
 |.rangeFunc g ps assign body,Q,S=>Hl S.cF.length λlvl=>Hl S.bK.length λdep=>match S.val g with|.p (.fn (.func f) [] captured)=>call (wm Y (yc C call Y assign) (yc C call Y body) ps.toList lvl dep) f (.lX (1000000+lvl)::aG captured) (λ_ S'=>Cn lvl Q S') {S.kill (1000000+lvl)with cF:=S.cF++[.ready]}|.fn (.func f) [] captured=>call (wm Y (yc C call Y assign) (yc C call Y body) ps.toList lvl dep) f (.lX (1000000+lvl)::FV.eD (1000000+lvl) captured) (λ_ S'=>Cn lvl Q S') {S.kill (1000000+lvl)with cF:=S.cF++[.ready]}|_=>False
 |.exit id,Q,S=>Q (.exit id) S
 |.ret,Q,S=>Q .ret S
 |_,_,_=>False
def AF (ntmps:Nat)(args:List AV):aj:={n:=ntmps,tmps:=λi=>match(args)[i]?with|some x=>.p x|none=>.p (.eW []),off:=0,aI:=[],bK:=[],cF:=[],cT:=[]}
def mN (C:Ctx)(S:aj):List ResultVar->(List AV->Prop)->Prop
 |[],K=>K []
 |.tmp t::rest,K=>match(S.get t).eG with|some x=>mN C S rest λxs=>K (x::xs)|none=>False
 |.cell a t::rest,K=>nu C S.aI t (S.get a) λv=>match v.eG with|some x=>mN C S rest λxs=>K (x::xs)|none=>False
def qL (C:Ctx)(S:aj):List ResultVar->(List FV->Prop)->Prop|[],K=>K []|.tmp t::rest,K=>qL C S rest λxs=>K (S.get t::xs)|.cell a t::rest,K=>nu C S.aI t (S.get a) λv=>qL C S rest λxs=>K (v::xs)
def JT:List FV->FV|[v]=>v|vs=>.eW vs
def Oz (C:Ctx)(rs:List ResultVar)(K:FV->aj->Prop):Exit->aj->Prop|.normal,S=>qL C S rs λvs=>S.leave (K (JT vs))|.ret,S=>qL C S rs λvs=>S.leave (K (JT vs))|_,_=>False
def Yq (C:Ctx):Nat->iQ|0=>λ_ _ _ _ _=>False|k+1=>λY g args K S=>∃fn,C.P.funcs[g]?=some fn/\fn.body.isSome=true/\(fn.name== "runtime.NumGoroutine")=false/\Nat.ble args.length fn.ntmps=true/\yc C (Yq C k) Y (match fn.body with|some c=>c|none=>.skip) (Oz C fn.results.toList K) (S.enter fn.ntmps (uA args))
def tM:pH:=λ_ _ _ _=>False
def ev (C:Ctx):Code->(Exit->aj->Prop)->aj->Prop:=yc C (Yq C 6) tM
def Yr (S:aj)(o bM:Nat)(K:List (List AV)->Prop):Prop:=∃xss:List (List AV),(∀ys,ys∈xss->ys.length=bM/\∀y,y∈ys->y.one=true)/\(match Av S.aI o with|some cells=>FV.fe cells=some xss.flatten|none=>False)/\K xss
def yy (C:Ctx)(rs:List ResultVar)(R:dx->Prop)(S:aj):Prop:=match C.ex.full with
 |true=>qL C S rs λvs=>match FV.uz [] vs with|true=>R (.vf (JT vs))|false=>False
 |false=>match rs with
  |[.tmp t]=>match S.get t with|.fM _ T bM xs=>R (.fresh T bM xs)\/R (.val (.sl xs))|.full []=>(∃T bM,R (.fresh T bM []))\/R (.val (.sl []))|.fG o=>∃ks vs:List AV,Yh S o ks vs/\R (.val (.mp ks vs))|.gd o T bM=>Yr S o bM λxss=>R (.own none T bM xss)|x=>match x.eG with|some y=>R (.val y)|none=>False
  |[.cell a t]=>nu C S.aI t (S.get a) λv=>match v.eG with|some y=>R (.val y)|none=>False
  |.tmp t::r1::rest=>match S.get t with|.gd o T bM=>mN C S (r1::rest) λys=>Yr S o bM λxss=>R (.own (some ys) T bM xss)|_=>mN C S (.tmp t::r1::rest) λxs=>R (.val (.eW xs))
  |rs=>mN C S rs λxs=>R (.val (.eW xs))
def uB (C:Ctx)(rs:List ResultVar)(R:dx->Prop):Exit->aj->Prop|.normal,S=>yy C rs R S|.ret,S=>yy C rs R S|_,_=>False
def Uh (ntmps:Nat)(cells args:List AV):aj:={n:=ntmps,tmps:=uA (.ptr 999999 0::aG args),off:=0,aI:=[(999999,aG cells)],bK:=[],cF:=[],cT:=[]}
def zW (C:Ctx)(rs:List ResultVar)(n:Nat)(R:AV->List AV->Prop)(S:aj):Prop:=qL C S rs λvs=>match(JT vs).eG,getObj S.aI 999999 with
 |some r,some cells=>match FV.fe cells with|some ys=>Nat.beq ys.length n=true/\R r ys|none=>False
 |_,_=>False
def OA (C:Ctx)(rs:List ResultVar)(n:Nat)(R:AV->List AV->Prop):Exit->aj->Prop|.normal,S=>zW C rs n R S|.ret,S=>zW C rs n R S|_,_=>False
def Ui (ntmps:Nat)(bs:List UInt8)(args:List AV):aj:={n:=ntmps,tmps:=uA (.ptr 999999 0::aG args),off:=0,aI:=[],bK:=[],cF:=[],cT:=[(999999,bs)]}
def OB (ntmps:Nat)(aI:List (Nat×List FV))(m:Nat)(l:List (AV×FV))(args:List FV):aj:={n:=ntmps,tmps:=uA args,off:=0,aI:=aI,bK:=[],cF:=[],cT:=[],maps:=[(m,l)]}
def Hz (S:aj):List (Nat×List FV)->Prop|[]=>True|(o,cells)::r=>getObj S.aI o=some cells/\Hz S r
def zY (C:Ctx)(rs:List ResultVar)(aI:List (Nat×List FV))(m:Nat)(R:AV->List (AV×FV)->Prop)(S:aj):Prop:=qL C S rs λvs=>match(JT vs).eG,getM S.maps m with|some r,some l'=>(Hz S aI/\KG (jf aI) m l'=true)/\R r l'|_,_=>False
def OC (C:Ctx)(rs:List ResultVar)(aI:List (Nat×List FV))(m:Nat)(R:AV->List (AV×FV)->Prop):Exit->aj->Prop|.normal,S=>zY C rs aI m R S|.ret,S=>zY C rs aI m R S|_,_=>False
end Qv
