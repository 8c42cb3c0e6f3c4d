/- Part 5 of the proof: its lemmas. No condition. -/
import Derived.Test.YtlbofhenpfnenaaGreatDoorU4
import Derived.Laws.IdiomCopy
import Derived.Laws.Entries
import Derived.ChangeKeysEq
import Derived.Laws.Small
set_option maxRecDepth 10000
set_option maxHeartbeats 80000000
set_option linter.all false
namespace Qv
open Go Go.RowKit
theorem Tj {l:List (TypeId×jX)}{t:TypeId}{i:jX}(h:bU l t=some i):(t,i)∈l:=by
 induction l with
 |nil=>cases h
 |cons p l ih=>obtain⟨u,j⟩:=p;simp only[bU]at h;split at h;simp_all;simp_all
theorem Ctx.ok (C:Ctx){t:TypeId}{i:jX}(h:bU C.jG t=some i):fJ C.P t i:=C.aii t i (Tj h)
theorem fJ.info' {P:Program}{t:TypeId}{i:jX}(h:fJ P t i):∃inf z,P.info? t=some inf/\inf.size=i.size/\inf.bytes=i.bytes/\inf.zero=some z/\z.cells.toList=i.zero:=by have :=h.info;simp_all
theorem fJ.zm {P:Program}{t:TypeId}{i:jX}(h:fJ P t i):∃d,P.underlying t=some d/\shapeOf d=i.shape:=by have :=h.und;simp_all
theorem fJ.sizeOf {P:Program}{t:TypeId}{i:jX}(h:fJ P t i)(w:World):(Go.sizeOf t).run P w=.ok i.size w:=by obtain⟨inf,z,h1,h2,-⟩:=h.info';simp[Go.sizeOf,run_typeInfo w h1,h2]
theorem fJ.isAgg {P:Program}{t:TypeId}{i:jX}(h:fJ P t i)(w:World):(Go.isAgg t).run P w=.ok i.shape.isAgg w:=by obtain⟨d,h1,h2⟩:=h.zm;simp only[Go.isAgg,Sem.run_bind,run_underlying h1,Result.andThen_ok];rw[<-h2];cases d<;>rfl
theorem fJ.gJ {P:Program}{t:TypeId}{i:jX}(h:fJ P t i):Qv.gJ P t=i.shape.isAgg:=by obtain⟨d,h1,h2⟩:=h.zm;rw[<-h2];unfold Qv.gJ;rw[h1];cases d<;>rfl
theorem fJ.slice {P:Program}{t e:TypeId}{a b:Nat}{z:List Value}(h:fJ P t ⟨a,b,.slice e,z⟩):P.underlying t=some (.slice e):=by obtain⟨d,h1,h2⟩:=h.zm;cases d<;>simp[shapeOf]at h2;simp_all
theorem fJ.array {P:Program}{t e:TypeId}{a b n:Nat}{z:List Value}(h:fJ P t ⟨a,b,.array n e,z⟩):P.underlying t=some (.array n e):=by obtain⟨d,h1,h2⟩:=h.zm;cases d<;>simp[shapeOf]at h2;simp_all
theorem fJ.str {P:Program}{t:TypeId}{a b:Nat}{z:List Value}(h:fJ P t ⟨a,b,.str,z⟩):P.underlying t=some .string:=by obtain⟨d,h1,h2⟩:=h.zm;cases d<;>simp[shapeOf]at h2;omega
theorem fJ.bool {P:Program}{t:TypeId}{a b:Nat}{z:List Value}(h:fJ P t ⟨a,b,.bool,z⟩):P.underlying t=some .bool:=by obtain⟨d,h1,h2⟩:=h.zm;cases d<;>simp[shapeOf]at h2;omega
theorem fJ.int {P:Program}{t:TypeId}{a b:Nat}{k:IntKind}{z:List Value}(h:fJ P t ⟨a,b,.int k,z⟩):P.underlying t=some (.int k):=by obtain⟨d,h1,h2⟩:=h.zm;cases d<;>simp[shapeOf]at h2;simp_all
theorem fJ.struct {P:Program}{t:TypeId}{a b:Nat}{fs:List (Nat×TypeId)}{z:List Value}(h:fJ P t ⟨a,b,.struct fs,z⟩):∃gs,P.underlying t=some (.struct gs)/\fs=gs.toList.map λf=>(f.offset,f.type):=by obtain⟨d,h1,h2⟩:=h.zm;cases d<;>simp[shapeOf]at h2;simp_all
theorem fJ.ptr {P:Program}{t e:TypeId}{a b:Nat}{z:List Value}(h:fJ P t ⟨a,b,.ptr e,z⟩):P.underlying t=some (.pointer e):=by obtain⟨d,h1,h2⟩:=h.zm;cases d<;>simp[shapeOf]at h2;simp_all
theorem ES {P:Program}{w:World}{t e:TypeId}(d:Nat)(p:Option Addr)(h:P.underlying t=some (.pointer e)):(Op.equalIn (d+1) t (.pointer p) (.pointer none)).run P w=.ok p.isNone w:=by cases p<;>simp[Op.equalIn,run_underlying h]
theorem qa {P:Program}{w:World}{t e:TypeId}(p:Option Addr)(h:P.underlying t=some (.pointer e)):(Op.equal t (.pointer p) (.pointer none)).run P w=.ok p.isNone w:=ES 9999 p h
theorem CO {P:Program}{w:World}{t e:TypeId}{i:jX}(d:Nat)(p:Addr)(h:P.underlying t=some (.pointer e))(hi:fJ P e i):(Op.equalIn (d+1) t (.pointer (some p)) (.pointer (some p))).run P w=.ok true w:=by have hso:=hi.sizeOf w;simp only[Op.equalIn,Sem.run_bind,run_underlying h,Result.andThen_ok,hso,sameAddr];simp_all
theorem yB {P:Program}{w:World}{t e:TypeId}{i:jX}(p:Addr)(h:P.underlying t=some (.pointer e))(hi:fJ P e i):(Op.equal t (.pointer (some p)) (.pointer (some p))).run P w=.ok true w:=CO 9999 p h hi
theorem nw {α:Type}(n:Nat)(xs:List α):fT n xs=xs.drop n:=by
 induction n generalizing xs with
 |zero=>rfl
 |succ n ih=>cases xs<;>simp[fT,ih]
theorem lY {α:Type}{n:Nat}{xs:List α}{y:α}{ys:List α}(h:fT n xs=y::ys):xs[n]?=some y:=by rw[nw]at h;have :=aB (·[0]?) h;grind
theorem xh {n:Nat}{xs cs:List FV}(h:takeN n xs=some cs):cs=xs.take n/\n<=xs.length:=by
 induction n generalizing xs cs with
 |zero=>simp[takeN]at h;grind
 |succ n ih=>
  cases xs with
  |nil=>simp[takeN]at h
  |cons x xs=>simp only[takeN]at h;grind
theorem BG {n:Nat}{xs cs:List AV}(h:FW n xs=some cs):cs=xs.take n/\n<=xs.length:=by
 induction n generalizing xs cs with
 |zero=>simp[FW]at h;grind
 |succ n ih=>
  cases xs with
  |nil=>simp[FW]at h
  |cons x xs=>simp only[FW]at h;grind
theorem fJ.field {P:Program}{s:TypeId}{a b f:Nat}{fs:List (Nat×TypeId)}{z:List Value}{o:Nat}{t:TypeId}{r:List (Nat×TypeId)}(h:fJ P s ⟨a,b,.struct fs,z⟩)(hd:fT f fs=(o,t)::r):∃(gs:Array Field) (g:Field),P.underlying s=some (.struct gs)/\gs[f]?=some g/\g.offset=o/\g.type=t:=by obtain⟨gs,h1,h2⟩:=h.struct;have h3:=lY hd;simp_all
section
variable {aZ:Nat->Nat->Prop}{w:World}{v:Value}{G:aV}
theorem dh.fN {k:IntKind}{n:Int}(h:dh aZ w v (.int k n)):v=.int k n:=by cases h;rfl
theorem dh.ny {b:Bool}(h:dh aZ w v (.bool b)):v=.bool b:=by cases h;rfl
theorem dh.jR {s:List UInt8}(h:dh aZ w v (.str s)):v=.string ⟨s.toArray⟩:=by cases h;rfl
theorem aT.fN {k:IntKind}{n:Int}(h:aT G w v (.p (.int k n))):v=.int k n:=by
 cases h with
 |p _ _ h=>exact h.fN
theorem aT.Ii (h:aT G w v (.p .wN)):v=.pointer none:=by
 cases h with
 |p _ _ h=>cases h;rfl
theorem aT.ny {b:Bool}(h:aT G w v (.p (.bool b))):v=.bool b:=by
 cases h with
 |p _ _ h=>exact h.ny
theorem aT.jR {s:List UInt8}(h:aT G w v (.p (.str s))):v=.string ⟨s.toArray⟩:=by
 cases h with
 |p _ _ h=>exact h.jR
theorem aT.plain {x:AV}(h:aT G w v (.p x)):dh G.aZ w v x:=by
 cases h with
 |p _ _ h=>omega
theorem aT.Xk (h:aT G w v (.p (.eV []))):v=undef:=by
 cases h with
 |p _ _ h=>
  cases h with
  |eV cs xs hl h=>have :cs=[]:=bK.1 oO;subst this;rfl
theorem aT.oW {o off:Nat}(h:aT G w v (.ptr o off)):∃b,v=.pointer (some ⟨b,off,none⟩)/\G.loc o=some b:=by
 cases h with
 |ptr _ _ b h=>simp_all
theorem aT.Hu {o bP:Nat}{T:TypeId}(h:aT G w v (.fe o T bP)):∃n c b,v=.slice (some ⟨b,0,none⟩) n c/\G.loc o=some b/\G.tail o=some (b,n*bP,c*bP,T)/\n<=c/\0<bP:=by
 cases h with
 |fe _ _ _ n c b h1 h2 h3 h4=>grind
theorem dh.lD {xs:List (List AV)}(h:dh aZ w v (.sl xs)):∃a c,v=.slice a xs.length c/\xs.length<=c/\(xs≠[]->∃(b off bP:Nat) (cell:Nat->Nat->Value),a=some ⟨b,off,none⟩/\(∀(i:Nat)(ys:List AV),xs[i]?=some ys->ys.length=bP)/\(∀(i:Nat)(ys:List AV)(j:Nat)(y:AV),xs[i]?=some ys->ys[j]?=some y->y.one=true/\w.cell? ⟨b,off+i*bP+j,none⟩=some (cell i j)/\aZ b (off+i*bP+j)/\dh aZ w (cell i j) y)):=by
 cases h with
 |Xi a c=>simp_all
 |sl b off c bP xs cell h1 h2 h3 h4 h5 h6=>exact⟨_,c,rfl,h6,λ_=>⟨b,off,bP,cell,rfl,h1,λi ys j y a b=>⟨h2 i ys j y a b,h3 i ys j y a b,h4 i ys j y a b,h5 i ys j y a b⟩⟩⟩
theorem aT.elems {x:FV}{xs:List (List AV)}(hx:x.elems=some xs)(h:aT G w v x):dh G.aZ w v (.sl xs):=by
 cases x with
 |p y=>cases y<;>simp[FV.elems]at hx;subst hx;exact h.plain
 |eH t T e ys=>simp only[FV.elems,bN]at hx;subst hx;exact h.fh rfl
 |full ys=>simp only[FV.elems,bN]at hx;subst hx;exact h.fh rfl
 |_=>simp[FV.elems]at hx
theorem dh.CP {xs:List AV}(h:dh aZ w v (.imp xs)):∃b off,v=.pointer (some ⟨b,off,none⟩)/\∀(j:Nat)(y:AV),xs[j]?=some y->∃c,y.one=true/\w.cell? ⟨b,off+j,none⟩=some c/\aZ b (off+j)/\dh aZ w c y:=by
 cases h with
 |imp b off xs cell h2 h3 h4 h5=>grind
theorem dh.Tk {xs:List AV}{b off:Nat}(h:∀(j:Nat)(y:AV),xs[j]?=some y->∃c,y.one=true/\w.cell? ⟨b,off+j,none⟩=some c/\aZ b (off+j)/\dh aZ w c y):dh aZ w (.pointer (some ⟨b,off,none⟩)) (.imp xs):=by refine .imp b off xs (λj=>(w.cell? ⟨b,off+j,none⟩).getD undef) (λj y hy=>(h j y hy).choose_spec.1) (λj y hy=>?_) (λj y hy=>(h j y hy).choose_spec.2.2.1) (λj y hy=>?_);grind;grind
theorem dh.PZ {xs:List (List AV)}{b off bP c:Nat}(hc:xs.length<=c)(h1:∀(i:Nat)(ys:List AV),xs[i]?=some ys->ys.length=bP)(h:∀(i:Nat)(ys:List AV)(j:Nat)(y:AV),xs[i]?=some ys->ys[j]?=some y->∃u,y.one=true/\w.cell? ⟨b,off+i*bP+j,none⟩=some u/\aZ b (off+i*bP+j)/\dh aZ w u y):dh aZ w (.slice (some ⟨b,off,none⟩) xs.length c) (.sl xs):=by refine .sl b off c bP xs (λi j=>(w.cell? ⟨b,off+i*bP+j,none⟩).getD undef) h1 (λi ys j y a a'=>(h i ys j y a a').choose_spec.1) (λi ys j y a a'=>?_) (λi ys j y a a'=>(h i ys j y a a').choose_spec.2.2.1) (λi ys j y a a'=>?_) hc;grind;grind
theorem dh.ZW {x:AV}(h:dh aZ w v x)(hx:x.one=true):v.oneCell'=true:=by cases h<;>first|rfl|(simp[AV.one]at hx)
theorem aT.ZW {x:FV}(h:aT G w v x)(hx:x.one=true):v.oneCell'=true:=by
 cases h with
 |p v x h=>exact h.ZW (by cases x<;>simp_all[FV.one,AV.one])
 |_=>first|rfl|(simp[FV.one]at hx)
end
section
variable {E:Env}{G:aV}{S:ai}{a:Act}{w:World}{o:Oper}{K:FV->Prop}
def Yields (E:Env)(G:aV)(a:Act)(w:World)(o:Oper)(K:FV->Prop):Prop:=∃v x w',(execOp a.eval o).run E.C.P w=.ok (.value v) w'/\K x/\Below w.heap.size w w'/\aT {G with aZ:=λb o=>G.aZ b o\/(w.heap.size<=b/\b<w'.heap.size)} w' v x
theorem Yields.same {v:Value}{x:FV}(h:(execOp a.eval o).run E.C.P w=.ok (.value v) w)(hk:K x)(hr:aT G w v x):Yields E G a w o K:=⟨v,x,w,h,hk,Below.refl _ _,hr.keep (λ_ _ h=>.inl h) (λ_ _ _ _ h=>h) (.refl _ _) (λ_ _ h=>h) (λ_ _ h=>h)⟩
theorem qQ {op:BinOp}{t yt:TypeId}{x y:Operand}{p q:Option Addr}{b:Bool}(ho:o.op=.binOp op t x y yt)(ex:a.eval x=.pointer p)(ey:a.eval y=.pointer q)(hq:(Op.equal t (.pointer p) (.pointer q)).run E.C.P w=.ok b w)(h:(op=.eql/\K (.p (.bool b)))\/(op=.neq/\K (.p (.bool (!b))))):Yields E G a w o K:=by
 have hg:∀op,(eqGuard op t x y (.pointer p) (.pointer q)).run E.C.P w=.ok () w:=by intro op;unfold eqGuard;split<;>simp
 rcases h with⟨rfl,h⟩|⟨rfl,h⟩;exact Yields.same (by simp[execOp,ho,ex,ey,hg,binOp,hq]) h (.p _ _ (.bool _));exact Yields.same (by simp[execOp,ho,ex,ey,hg,binOp,hq]) h (.p _ _ (.bool _))
theorem fJ.iface {P:Program}{t:TypeId}{a b:Nat}{z:List Value}(h:fJ P t ⟨a,b,.iface,z⟩):∃ms,P.underlying t=some (.interface ms):=by obtain⟨d,h1,h2⟩:=h.zm;cases d<;>simp[shapeOf]at h2;simp_all
theorem KL {P:Program}{w:World}{t:TypeId}{ms:Array (String×TypeId)}(d:Nat)(v:Value)(b:Bool)(h:P.underlying t=some (.interface ms))(hv:v=.nilIface/\b=true\/(∃u x,v=.iface u x)/\b=false):(Op.equalIn (d+1) t v .nilIface).run P w=.ok b w:=by rcases hv with⟨rfl,rfl⟩|⟨⟨u,x,rfl⟩,rfl⟩<;>simp[Op.equalIn,run_underlying h]
theorem Qa {P:Program}{w:World}{t:TypeId}{ms:Array (String×TypeId)}(v:Value)(b:Bool)(h:P.underlying t=some (.interface ms))(hv:v=.nilIface/\b=true\/(∃u x,v=.iface u x)/\b=false):(Op.equal t v .nilIface).run P w=.ok b w:=KL 9999 v b h hv
theorem Qb (hs:bp E G S a w){op:BinOp}{t yt:TypeId}{x y:Operand}(ho:o.op=.binOp op t x y yt)(hy:Ng y=true)(h:BC E.C t op (S.val x) K):Yields E G a w o K:=by
 have hx:=aT.val hs x;generalize S.val x=vx at h hx;generalize hex:a.eval x=v at hx;unfold Ng at hy;split at hy;have ey:a.eval (.const .nilIface)=.nilIface:=rfl;have key:∀(b:Bool),(v=.nilIface/\b=true\/(∃u x,v=.iface u x)/\b=false)->(∃ms,E.C.P.underlying t=some (.interface ms))->((op=.eql/\K (.p (.bool b)))\/(op=.neq/\K (.p (.bool (!b)))))->Yields E G a w o K:=λb hv ⟨ms,hm⟩ hk=>by
  have hq:(Op.equal t v .nilIface).run E.C.P w=.ok b w:=Qa v b hm hv;have hg:(eqGuard op t x (.const .nilIface) v .nilIface).run E.C.P w=.ok () w:=by rcases hv with⟨rfl,rfl⟩|⟨⟨u,z,rfl⟩,rfl⟩;unfold eqGuard;simp_all;unfold eqGuard;simp_all
  rcases hv with⟨rfl,rfl⟩|⟨⟨u,z,rfl⟩,rfl⟩;rcases hk with⟨rfl,hk⟩|⟨rfl,hk⟩;exact Yields.same (by simp[execOp,ho,hex,ey,hg,binOp,hq]) hk (.p _ _ (.bool _));exact Yields.same (by simp[execOp,ho,hex,ey,hg,binOp,hq]) hk (.p _ _ (.bool _));rcases hk with⟨rfl,hk⟩|⟨rfl,hk⟩;exact Yields.same (by simp[execOp,ho,hex,ey,hg,binOp,hq]) hk (.p _ _ (.bool _));exact Yields.same (by simp[execOp,ho,hex,ey,hg,binOp,hq]) hk (.p _ _ (.bool _))
 unfold BC at h;split at h;rename_i ht;have hm:=(E.C.ok ht).iface;have aj5:aT G w v (.p .sE)->v=.nilIface:=λh=>by
  cases h with
  |p _ _ h=>cases h;rfl
 have akx:∀{u:TypeId}{z:AV},aT G w v (.p (.iface u z))->∃u x,v=.iface u x:=λh=>by
  cases h with
  |p _ _ h=>cases h;simp_all
 grind;simp_all;simp_all
theorem Qc {P:Program}{w:World}{t e:TypeId}(a:Option Addr)(n c:Nat)(h:P.underlying t=some (.slice e)):(Op.equal t (.slice a n c) (.slice none 0 0)).run P w=.ok a.isNone w:=by
 have :∀d,(Op.equalIn (d+1) t (.slice a n c) (.slice none 0 0)).run P w=.ok a.isNone w:=λd=>by cases a<;>simp[Op.equalIn,run_underlying h]
 exact this 9999
theorem Qd (hs:bp E G S a w){op:BinOp}{t yt:TypeId}{x y:Operand}(ho:o.op=.binOp op t x y yt)(hy:Nh y=true)(h:Ni E.C t op (S.val x) K):Yields E G a w o K:=by
 have hx:=aT.val hs x;generalize S.val x=vx at h hx;generalize hex:a.eval x=v at hx;unfold Nh at hy;split at hy;have ey:a.eval (.const (.slice none 0 0))=.slice none 0 0:=rfl;have key:∀(ad:Option Addr)(n c:Nat),v=.slice ad n c->(∃e,E.C.P.underlying t=some (.slice e))->((op=.eql/\K (.p (.bool ad.isNone)))\/(op=.neq/\K (.p (.bool (!ad.isNone)))))->Yields E G a w o K:=λad n c hv ⟨e,hm⟩ hk=>by
  subst hv;have hq:(Op.equal t (.slice ad n c) (.slice none 0 0)).run E.C.P w=.ok ad.isNone w:=Qc ad n c hm;have hg:(eqGuard op t x (.const (.slice none 0 0)) (.slice ad n c) (.slice none 0 0)).run E.C.P w=.ok () w:=by unfold eqGuard;split<;>simp
  rcases hk with⟨rfl,hk⟩|⟨rfl,hk⟩;exact Yields.same (by simp[execOp,ho,hex,ey,hg,binOp,hq]) hk (.p _ _ (.bool _));exact Yields.same (by simp[execOp,ho,hex,ey,hg,binOp,hq]) hk (.p _ _ (.bool _))
 unfold Ni at h;split at h;rename_i ht;have hm:=(E.C.ok ht).slice;split at h;obtain⟨n,c,b,rfl,-⟩:=hx.Hu;grind;split at h;simp_all;rename_i xs hxs;obtain⟨ad,c,rfl,-,hne⟩:=(hx.elems hxs).lD;have hsome:xs≠[]->ad.isNone=false:=λhn=>by grind
 split at h;exact key _ _ _ rfl ⟨_,hm⟩ (.inl ⟨rfl,h.out _ hsome⟩);exact key _ _ _ rfl ⟨_,hm⟩ (.inr ⟨rfl,h.out _ λhn=>by simp_all⟩);simp_all;simp_all;simp_all
theorem Qe (hs:bp E G S a w){op:BinOp}{t yt:TypeId}{x y:Operand}{vx vy:FV}(ho:o.op=.binOp op t x y yt)(hx:aT G w (a.eval x) vx)(hy:aT G w (a.eval y) vy)(h:EJ E.C t op vx vy K):Yields E G a w o K:=by
 unfold EJ at h;split at h;simp_all;rename_i i hi;have hok:=E.C.ok hi;split at h;rename_i xs ys hagg hxs hys;obtain⟨L,hL,hg,f1,f2,h⟩:=h;have ha:gJ E.C.P t=true:=by rw[hok.gJ,hagg]
 have e1:a.eval x=tv true xs:=tK (hx.fh hxs) (agg:=true) (L:=L) f1;have e2:a.eval y=tv true ys:=tK (hy.fh hys) (agg:=true) (L:=L) f2;have hq:(Op.equal t (tv true xs) (tv true ys)).run E.C.P w=.ok (sameAs xs ys) w:=by have :=(ER (P:=E.C.P) 40).1 t L Op.maxDepth w xs ys dD hL f1 f2;rw[ha]at this;exact this
 have hg':(eqGuard op t x y (tv true xs) (tv true ys)).run E.C.P w=.ok () w:=by unfold eqGuard;simp only[tv];split<;>simp[hg]
 simp only[tv]at e1 e2 hq hg';cases op<;>simp only at h<;>first|exact h.elim|(exact Yields.same (by simp[execOp,ho,e1,e2,hg',binOp,hq];rfl) (h.out _ rfl) (.p _ _ (.bool _)))|(exact Yields.same (by simp[execOp,ho,e1,e2,hg',binOp,hq]) (h.out _ rfl) (.p _ _ (.bool _)))
 simp_all
theorem agL (k:IntKind)(x y:Int):Op.intBits .and k x y=pure (.int k (yO .and k x y)):=rfl
theorem ais (k:IntKind)(x y:Int):Op.intBits .or k x y=pure (.int k (yO .or k x y)):=rfl
theorem ZX (k:IntKind)(x y:Int):Op.intBits .xor k x y=pure (.int k (yO .xor k x y)):=rfl
theorem Xl (k:IntKind)(x y:Int):Op.intBits .andNot k x y=pure (.int k (yO .andNot k x y)):=rfl
theorem Tl (hs:bp E G S a w){op:BinOp}{t yt:TypeId}{x y:Operand}(ho:o.op=.binOp op t x y yt)(h:HR E.C t op (S.val x) (S.val y) K):Yields E G a w o K:=by
 have hx:=aT.val hs x;have hy:=aT.val hs y;generalize S.val x=vx at h hx;generalize S.val y=vy at h hy;unfold HR at h;split at h
 ·rename_i k m k' n;split at h;have ex:=hx.fN;have ey:=hy.fN;have hg:(eqGuard op t x y (.int k m) (.int k' n)).run E.C.P w=.ok () w:=by unfold eqGuard;split<;>simp
  cases op<;>simp only[Cv]at h<;>first
   |exact h.elim
   |
    (
     obtain⟨hn,c,rfl,h⟩:=h;have hn':¬n<0:=oO
     exact Yields.same (by simp[execOp,ho,ex,ey,hg,binOp,Op.shift,hn']) h (.p _ _ (.int _ _)))
  rename_i Tm;split at h;case h_2=>simp_all
  rename_i hk;obtain rfl:=rV hk;have ex:=hx.fN;have ey:=hy.fN;have hg:(eqGuard op t x y (.int k m) (.int k n)).run E.C.P w=.ok () w:=by unfold eqGuard;split<;>simp
  cases op<;>simp only[PF]at h<;>first|exact h.elim|(obtain⟨c,rfl,h⟩:=h;exact Yields.same (by simp[execOp,ho,ex,ey,hg,binOp,Op.intArith,agL,ais,ZX,Xl]) h (.p _ _ (.int _ _)))|(obtain⟨hn,c,rfl,h⟩:=h;exact Yields.same (by simp[execOp,ho,ex,ey,hg,binOp,Op.intDiv,hn]) h (.p _ _ (.int _ _)))|(exact Yields.same (by simp[execOp,ho,ex,ey,hg,binOp,Op.intCmp]) (h.out _ rfl) (.p _ _ (.bool _)))
 rename_i s r;have ex:=hx.jR;have ey:=hy.jR;have hg:(eqGuard op t x y (.string ⟨s.toArray⟩) (.string ⟨r.toArray⟩)).run E.C.P w=.ok () w:=by unfold eqGuard;split<;>simp
 have l1:(⟨s.toArray⟩:ByteArray).toList=s:=by simp[ByteArray.toList_eq]
 have l2:(⟨r.toArray⟩:ByteArray).toList=r:=by simp[ByteArray.toList_eq]
 cases op<;>simp only[PG]at h<;>first
  |exact h.elim
  |
   (
    obtain⟨hlen,h⟩:=h;have hlen':¬(((⟨s.toArray⟩:ByteArray).size+(⟨r.toArray⟩:ByteArray).size:Nat):Int)>IntKind.i64.max:=by
     have h1:(⟨s.toArray⟩:ByteArray).size=s.length:=by simp[ByteArray.size]
     have h2:(⟨r.toArray⟩:ByteArray).size=r.length:=by simp[ByteArray.size]
     rw[h1,h2];simp only[IntKind.max,IntKind.signed,IntKind.bits,if_true];omega
    have aky:(⟨s.toArray⟩:ByteArray)++⟨r.toArray⟩=⟨(s++r).toArray⟩:=by apply ByteArray.ext;simp
    exact Yields.same (v:=.string ⟨(s++r).toArray⟩) (by simp only[execOp,ho,ex,ey,hg,binOp,Op.stringOp,hlen',aky,Sem.run_bind,Result.andThen_ok,if_false,Sem.run_pure]) h (.p _ _ (.str _)))
  |(exact Yields.same (by simp[execOp,ho,ex,ey,hg,binOp,Op.stringOp,l1,l2];rfl) (h.out _ rfl) (.p _ _ (.bool _)))
  |(exact Yields.same (by simp[execOp,ho,ex,ey,hg,binOp,Op.stringOp,l1,l2]) (h.out _ rfl) (.p _ _ (.bool _)))
 rename_i ob off;generalize hex:a.eval x=vx at hx;generalize hey:a.eval y=vy at hy;obtain rfl:=hy.Ii;cases hx with
 |ptr _ _ b gb=>split at h;rename_i ht;exact qQ ho hex hey (qa _ (E.C.ok ht).ptr) (.inl ⟨rfl,h⟩);rename_i ht;exact qQ ho hex hey (qa _ (E.C.ok ht).ptr) (.inr ⟨rfl,h⟩);simp_all
 have hex:=hx.Ii;have hey:=hy.Ii;split at h;rename_i ht;exact qQ ho hex hey (qa _ (E.C.ok ht).ptr) (.inl ⟨rfl,h⟩);rename_i ht;exact qQ ho hex hey (qa _ (E.C.ok ht).ptr) (.inr ⟨rfl,h⟩);simp_all;rename_i ob off ob' off';generalize hex:a.eval x=vx at hx;generalize hey:a.eval y=vy at hy;cases hx with
 |ptr _ _ b gb=>
  cases hy with
  |ptr _ _ b' Bk=>split at h;rename_i h1 h2 ht;obtain rfl:=aP h1;obtain rfl:=aP h2;rw[gb]at Bk;obtain rfl:=au Bk;split at h;rename_i he;exact qQ ho hex hey (yB _ (E.C.ok ht).ptr (E.C.ok he)) (.inl ⟨rfl,h⟩);simp_all;rename_i h1 h2 ht;obtain rfl:=aP h1;obtain rfl:=aP h2;rw[gb]at Bk;obtain rfl:=au Bk;split at h;rename_i he;exact qQ ho hex hey (yB _ (E.C.ok ht).ptr (E.C.ok he)) (.inr ⟨rfl,h⟩);simp_all;simp_all
 rename_i b c;have ex:=hx.ny;have ey:=hy.ny;have hg:(eqGuard op t x y (.bool b) (.bool c)).run E.C.P w=.ok () w:=by unfold eqGuard;split<;>simp
 split at h;rename_i ht;have hu:=(E.C.ok ht).bool;have hq:(Op.equal t (.bool b) (.bool c)).run E.C.P w=.ok (b==c) w:=run_equal_bool w t b c hu;cases op<;>simp only at h<;>first|exact h.elim|(exact Yields.same (by simp[execOp,ho,ex,ey,hg,binOp,hq];rfl) (h.out _ rfl) (.p _ _ (.bool _)))|(exact Yields.same (by simp[execOp,ho,ex,ey,hg,binOp,hq]) (h.out _ rfl) (.p _ _ (.bool _)))
 simp_all;exact Qe hs ho hx hy h
theorem Ij (hs:bp E G S a w){t:TypeId}{pv:Value}{vx:FV}(hne:∀o b off,vx≠.ij o b off)(hx:aT G w pv vx)(h:nt E.C S.aN t vx K):∃ad v x,pv=.pointer (some ad)/\(loadVar t ad).run E.C.P w=.ok v w/\K x/\aT G w v x:=by
 unfold nt at h;split at h;simp_all;rename_i i hi;have hok:=E.C.ok hi;split at h;rename_i ob off;obtain⟨b,hv,gb⟩:=hx.oW;split at h;simp_all;rename_i cells hcells;obtain⟨b',hb',hc⟩:=hs.aN _ _ hcells;obtain rfl:b'=b:=by simp_all
 split at h;rename_i hagg;split at h;simp_all;rename_i cs hcs;rw[nw]at hcs;obtain⟨rfl,hle⟩:=xh hcs;rw[bV]at hle;have vP:∀j,j<i.size->∃c x,w.cell? ⟨b',off+j,none⟩=some c/\cells[off+j]?=some x/\aT G w c x:=λj hj=>by grind
 let f:Nat->Value:=λj=>(w.cell? ⟨b',off+j,none⟩).getD undef;have hf:∀j,j<i.size->w.cell? ((⟨b',off,none⟩:Addr).add j)=some (f j):=λj hj=>by obtain⟨c,x,h1,-⟩:=vP j hj;rw[Addr.add_lit];grind
 have hrun:=run_loadCells (P:=E.C.P) w ⟨b',off,none⟩ i.size f hf;refine⟨_,.agg ((List.range i.size).map f).toArray,_,hv,by simp[loadVar,hok.isAgg,hagg,hok.sizeOf,hrun],h,?_⟩;refine .agg _ _ (by simp_all) λj c x hj hx=>?_;grind;rename_i hagg;split at h;simp_all;rename_i y ys hys;have hy:=lY hys;obtain⟨c,h1,h2⟩:=hc off y hy;exact⟨_,_,_,hv,by simp[loadVar,hok.isAgg,hagg,h1],h,h2⟩;rename_i xs;obtain⟨b,off,hv,hc⟩:=hx.plain.CP;split at h;rename_i hagg;split at h;simp_all;rename_i cs hcs;obtain⟨rfl,hle⟩:=BG hcs;have vP:∀j,j<i.size->∃c x,w.cell? ⟨b,off+j,none⟩=some c/\xs[j]?=some x/\x.one=true/\dh G.aZ w c x:=λj hj=>by
  have hl:j<xs.length:=oO
  obtain⟨c,h0,h1,-,h2⟩:=hc j _ (av hl);simp_all
 let f:Nat->Value:=λj=>(w.cell? ⟨b,off+j,none⟩).getD undef;have hf:∀j,j<i.size->w.cell? ((⟨b,off,none⟩:Addr).add j)=some (f j):=λj hj=>by obtain⟨c,x,h1,-⟩:=vP j hj;rw[Addr.add_lit];grind
 have hrun:=run_loadCells (P:=E.C.P) w ⟨b,off,none⟩ i.size f hf;refine⟨_,.agg ((List.range i.size).map f).toArray,_,hv,by simp[loadVar,hok.isAgg,hagg,hok.sizeOf,hrun],h,?_⟩;refine .p _ _ (.agg _ _ (by simp_all) (λx hx=>?_) λj c x hj hx=>?_);obtain⟨j,hj⟩:=List.mem_iff_getElem?.1 hx;grind;grind;rename_i hagg;split at h;simp_all;rename_i y ys;obtain⟨c,h0,h1,-,h2⟩:=hc 0 y rfl;exact⟨_,_,_,hv,by simp at h1;simp[loadVar,hok.isAgg,hagg,h1],h,.p _ _ h2⟩;simp_all;simp_all
theorem aT.zn {v:Value}{o base off:Nat}(h:aT G w v (.ij o base off)):aT G w v (.ptr o (base+off)):=by
 cases h with
 |ij _ _ _ b h=>exact .ptr o (base+off) b h
theorem Qf {A ys B:List FV}{base off:Nat}(hA:A.length=base)(h:off<=ys.length):(A++(ys++B)).drop (base+off)=ys.drop off++B:=by rw[List.drop_append,hA,show base+off-base=off by omega,CQ (show A.length<=base+off by omega),nN,CR h]
theorem ZY {n:Nat}{xs:List FV}(h:n<=xs.length):takeN n xs=some (xs.take n):=by
 induction n generalizing xs with
 |zero=>rfl
 |succ n ih=>
  cases xs with
  |nil=>grind
  |cons x xs=>simp only[takeN,ih (by simpa using h),CT]
theorem Lz (hs:bp E G S a w){t:TypeId}{pv:Value}{vx:FV}(hx:aT G w pv vx)(h:nt E.C S.aN t vx K):∃ad v x,pv=.pointer (some ad)/\(loadVar t ad).run E.C.P w=.ok v w/\K x/\aT G w v x:=by
 by_cases hne:∀o b off,vx≠.ij o b off;exact Ij hs hne hx h;have :∃o b off,vx=.ij o b off:=by cases vx<;>first|exact⟨_,_,_,rfl⟩|exact absurd (λ_ _ _ e=>by cases e) hne
 obtain⟨o,base,off,rfl⟩:=this;refine Ij hs (λ_ _ _ e=>by grind) hx.zn ?_;unfold nt at h⊢;split at h;omega;rename_i i hi;simp only at h⊢;split at h;omega;rename_i cells hc;obtain⟨A,ys,B,hcells,hA,h⟩:=h;split at h;rename_i hagg;split at h;simp_all;rename_i cs hcs;rw[nw]at hcs⊢;obtain⟨rfl,hle⟩:=xh hcs;rw[bV]at hle;have :takeN i.size ((A++(ys++B)).drop (base+off))=some ((ys.drop off).take i.size):=by
  by_cases hl:off<=ys.length;rw[Qf hA hl,ZY (by grind),nO (by simp_all)];have h0:i.size=0:=oO
  rw[h0];rfl
 simp_all;rename_i hagg;split at h;simp_all;rename_i y zs hzs;rw[nw]at hzs⊢;have hl:off<=ys.length:=by have :=aB List.length hzs;simp at this;omega
 rw[hcells,Qf hA hl,hzs];grind
theorem Qg (hs:bp E G S a w){t:TypeId}{x:Operand}(ho:o.op=.load t x)(h:nt E.C S.aN t (S.val x) K):Yields E G a w o K:=by obtain⟨ad,v,y,h1,h2,h3,h4⟩:=Lz hs (aT.val hs x) h;exact Yields.same (by simp[execOp,ho,h1,Instr.loadAt,Instr.sureAddr,h2]) h3 h4
end
end Qv
