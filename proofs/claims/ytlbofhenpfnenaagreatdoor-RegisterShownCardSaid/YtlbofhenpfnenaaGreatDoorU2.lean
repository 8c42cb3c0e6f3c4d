/- Part 2 of the proof: its lemmas. No condition. -/
import Derived.Test.YtlbofhenpfnenaaGreatDoorU1
import Derived.Below
import Derived.Deep.Quiet
set_option maxRecDepth 10000
set_option maxHeartbeats 80000000
set_option linter.all false
namespace Qv
universe u
open Go
inductive Shape where|int (k:IntKind)|bool|str|slice (e:TypeId)|struct (fs:List (Nat×TypeId))|array (n:Nat)(e:TypeId)|map (k e:TypeId)|ptr (e:TypeId)|iface|func|other deriving Inhabited
def Shape.isAgg:Shape->Bool|.struct _=>true|.array _ _=>true|_=>false
structure jX where
 size:Nat
 bytes:Nat
 shape:Shape
 zero:List Value deriving Inhabited
def shapeOf:TypeDesc->Shape|.bool=>.bool|.int k=>.int k|.string=>.str|.pointer e=>.ptr e|.slice e=>.slice e|.array n e=>.array n e|.map k e=>.map k e|.struct fs=>.struct (fs.toList.map λf=>(f.offset,f.type))|.func _ _ _=>.func|.interface _=>.iface|_=>.other
structure fJ (P:Program)(t:TypeId)(i:jX):Prop where
 info:(P.info? t).map (λinf=>(inf.size,inf.bytes,inf.zero.map λv=>v.cells.toList))=some (i.size,i.bytes,some i.zero)
 und:(P.underlying t).map shapeOf=some i.shape
 len:i.zero.length=i.size
structure Extra where
 opens:List Nat
 BB:List Nat
 full:Bool
 inl:List FuncId:=[]
 frm:List Nat:=[]
 fzo:List Nat:=[]
 KF:List (Nat×(TypeId×Nat×Option AV)):=[]
 rmr:List Nat:=[]
 rel:List FuncId:=[]
structure Ctx where
 P:Program
 jG:List (TypeId×jX)
 aii:∀t i,(t,i)∈jG->fJ P t i
 J:World->Prop
 oG:Nat
 mixed:P.follows .mixedOrders=true
 bT:TypeId
 bE:TypeId
 agE:∀w w':World,(∀k,k<oG->w'.heap[k]?=w.heap[k]?)->J w->J w'
 aij:List Nat
 ex:Extra
def Ctx.cut (C:Ctx)(l:List Nat):Ctx:={C with aij:=l}
def Ctx.open (C:Ctx)(e:Extra):Ctx:={C with ex:=e}
def bU:List (TypeId×jX)->TypeId->Option jX|[],_=>none|(u,i)::r,t=>match Nat.beq u t with|true=>some i|false=>bU r t
inductive cQ where|val (x:AV)|fresh (T:TypeId)(bP:Nat)(xs:List (List AV))|vf (x:FV)|own (rest:Option (List AV))(T:TypeId)(bP:Nat)(xss:List (List AV))
def agF (rest:Option (List AV))(s:Value)(us:List Value):Value:=match rest with|none=>s|some _=>.tuple (s::us).toArray
def ZC (aZ:Nat->Nat->Prop)(B b:Nat):Nat->Nat->Prop:=λb' o=>aZ b' o\/(B<=b'/\b'≠b)
def bare (aZ:Nat->Nat->Prop):aV:=⟨aZ,λ_=>none,λ_=>none,λ_=>none,λ_=>none,λ_=>none,λ_=>none⟩
def mF (aZ:Nat->Nat->Prop)(B:Nat):Nat->Nat->Prop:=λb o=>aZ b o\/B<=b
def nk (aZ:Nat->Nat->Prop)(B:Nat)(w':World)(v:Value):cQ->Prop|.val x=>dh (mF aZ B) w' v x|.fresh T bP xs=>∃a c,v=.slice a xs.length c/\((xs=[]/\c=0/\dh (mF aZ B) w' v (.sl xs))\/∃b off cs fr,a=some ⟨b,off,none⟩/\B<=b/\b<w'.heap.size/\(∀ys,ys∈xs->ys.length=bP)/\w'.heap[b]?=some (.cells cs T fr)/\(∀i,off+xs.length*bP<=i->i<off+c*bP->(∃u,w'.cell? ⟨b,i,none⟩=some u)/\w'.frozen? ⟨b,i,none⟩=false)/\dh (λb' o=>aZ b' o\/(B<=b'/\¬(b'=b/\off+xs.length*bP<=o/\o<off+c*bP))) w' v (.sl xs))|.vf x=>aT (bare (mF aZ B)) w' v x|.own rest T bP xss=>∃(b c:Nat) (cs:Array Value) (fr:Nat×Nat) (us:List Value),v=agF rest (.slice (some ⟨b,0,none⟩) xss.length c) us/\B<=b/\b<w'.heap.size/\0<bP/\xss.length<=c/\(∀ys,ys∈xss->ys.length=bP/\∀y,y∈ys->y.one=true)/\w'.heap[b]?=some (.cells cs T fr)/\(∀i,w'.frozen? ⟨b,i,none⟩=false)/\(∀i,i<c*bP->∃u,w'.cell? ⟨b,i,none⟩=some u)/\(∀(i:Nat)(x:AV),xss.flatten[i]?=some x->∃u,w'.cell? ⟨b,i,none⟩=some u/\dh (ZC aZ B b) w' u x)/\∀r,rest=some r->us.length=r.length/\∀(i:Nat)(u:Value)(x:AV),us[i]?=some u->r[i]?=some x->dh (ZC aZ B b) w' u x
def ak (C:Ctx)(f:FuncId)(args:List AV)(R:cQ->Prop):Prop:=(∃fn,C.P.funcs[f]?=some fn/\fn.body.isNone=false/\(fn.name== "runtime.NumGoroutine")=false)/\∀(aZ:Nat->Nat->Prop)(w:World)(vs:List Value),C.J w/\pz aZ w->C.oG<=w.heap.size->(∀b o,aZ b o->b<w.heap.size)->vs.length=args.length->(∀(i:Nat)(v:Value)(x:AV),vs[i]?=some v->args[i]?=some x->dh aZ w v x)->Calls C.P f vs.toArray w λe w'=>∃v r,e=.returned v/\R r/\nk aZ w.heap.size w' v r/\RowKit.Below w.heap.size w w'
def HO (C:Ctx)(f:FuncId)(cells args:List AV)(R:AV->List AV->Prop):Prop:=(∃fn,C.P.funcs[f]?=some fn/\fn.body.isNone=false/\(fn.name== "runtime.NumGoroutine")=false)/\∀(aZ:Nat->Nat->Prop)(w:World)(b:Nat)(vs:List Value),C.J w/\pz aZ w->C.oG<=w.heap.size->(∀b o,aZ b o->b<w.heap.size)->C.oG<=b->b<w.heap.size->(∀i,¬aZ b i/\w.frozen? ⟨b,i,none⟩=false)->(∀(i:Nat)(x:AV),cells[i]?=some x->∃c,w.cell? ⟨b,i,none⟩=some c/\dh aZ w c x)->vs.length=args.length->(∀(i:Nat)(v:Value)(x:AV),vs[i]?=some v->args[i]?=some x->dh aZ w v x)->Calls C.P f (.pointer (some ⟨b,0,none⟩)::vs).toArray w λe w'=>∃v r cells',e=.returned v/\R r cells'/\cells'.length=cells.length/\dh (mF aZ w.heap.size) w' v r/\(∀(i:Nat)(x:AV),cells'[i]?=some x->∃c,w'.cell? ⟨b,i,none⟩=some c/\dh (mF aZ w.heap.size) w' c x)/\w'.os=w.os/\w'.tape=w.tape/\w'.output=w.output/\w.heap.size<=w'.heap.size/\(∀k,k<w.heap.size->k≠b->w'.heap[k]?=w.heap[k]?)/\(∀cs T fr,w.heap[b]?=some (.cells cs T fr)->∃cs',w'.heap[b]?=some (.cells cs' T fr)/\cs'.size=cs.size)
def ZD (C:Ctx)(f:FuncId)(T:TypeId)(bP:Nat)(cells args:List AV)(R:Bool->List AV->Prop):Prop:=(∃fn,C.P.funcs[f]?=some fn/\fn.body.isNone=false/\(fn.name== "runtime.NumGoroutine")=false)/\∀(aZ:Nat->Nat->Prop)(w:World)(b n c:Nat)(vs:List Value),C.J w/\pz aZ w->C.oG<=w.heap.size->(∀b o,aZ b o->b<w.heap.size)->C.oG<=b->b<w.heap.size->(∀i,¬aZ b i/\w.frozen? ⟨b,i,none⟩=false)->(∃cs fr,w.heap[b]?=some (.cells cs T fr))->cells.length=n*bP->n<=c->0<bP->(∀(i:Nat)(x:AV),cells[i]?=some x->∃c,w.cell? ⟨b,i,none⟩=some c/\dh aZ w c x)->vs.length=args.length->(∀(i:Nat)(v:Value)(x:AV),vs[i]?=some v->args[i]?=some x->dh aZ w v x)->Calls C.P f (.slice (some ⟨b,0,none⟩) n c::vs).toArray w λe w'=>∃(v:Value) (r:Bool) (ys full:List AV),e=.returned v/\R r ys/\full.length=cells.length/\(match r with|false=>v=.tuple #[]/\ys=full|true=>∃m:Nat,v=.slice (some ⟨b,0,none⟩) m c/\m<=n/\ys=full.take (m*bP))/\(∀(i:Nat)(x:AV),full[i]?=some x->∃c,w'.cell? ⟨b,i,none⟩=some c/\dh (mF aZ w.heap.size) w' c x)/\w'.os=w.os/\w'.tape=w.tape/\w'.output=w.output/\w.heap.size<=w'.heap.size/\(∀k,k<w.heap.size->k≠b->w'.heap[k]?=w.heap[k]?)/\(∀cs T fr,w.heap[b]?=some (.cells cs T fr)->∃cs',w'.heap[b]?=some (.cells cs' T fr)/\cs'.size=cs.size)
structure Fr where
 n:Nat
 off:Nat
 tmps:Nat->FV
inductive yN where|ready|busy|Nd|HP (id:Nat)
def za (C:Ctx)(w:World)(b:Nat)(row:Option Nat)(bs:List UInt8):Prop:=∃(p:Option Addr) (v:Value),(p=none\/p=some ⟨b,0,none⟩)/\w.heap[b]?=some (.cells #[.pointer p,v] C.bT (0,0))/\match row with|none=>v=.slice none 0 0/\bs=[]|some r=>b≠r/\∃(cap:Nat) (cur:Array Value),v=.slice (some ⟨r,0,none⟩) bs.length cap/\w.heap[r]?=some (.cells cur C.bE (0,0))/\bs.length<=cap/\cap<=9223372036854775807/\cur.size=cap/\cur.toList.take bs.length=bs.map λc=>Value.int .u8 (c.toNat:Int)
def vK (C:Ctx)(f:FuncId)(args:List AV)(bs:List UInt8)(out:Option (List UInt8))(r:AV):Prop:=(∃fn,C.P.funcs[f]?=some fn/\fn.body.isNone=false/\(fn.name== "runtime.NumGoroutine")=false)/\∀(aZ:Nat->Nat->Prop)(w:World)(b:Nat)(row:Option Nat)(vs:List Value),C.J w/\pz aZ w->C.oG<=w.heap.size->(∀b o,aZ b o->b<w.heap.size)->C.oG<=b->(∀r,row=some r->C.oG<=r)->(∀i,¬aZ b i)->(∀r i,row=some r->¬aZ r i)->za C w b row bs->vs.length=args.length->(∀(i:Nat)(v:Value)(x:AV),vs[i]?=some v->args[i]?=some x->dh aZ w v x)->Calls C.P f (.pointer (some ⟨b,0,none⟩)::vs).toArray w λe w'=>∃v,e=.returned v/\dh (λ_ _=>False) w' v r/\(match out with|some bs'=>∃row',za C w' b row' bs'/\(row'=row\/row'=none\/∃x,row'=some x/\w.heap.size<=x)|none=>∃p v,w'.heap[b]?=some (.cells #[p,v] C.bT (0,0)))/\w'.os=w.os/\w'.tape=w.tape/\w'.output=w.output/\w.heap.size<=w'.heap.size/\∀k,k<w.heap.size->k≠b->row≠some k->w'.heap[k]?=w.heap[k]?
structure ai where
 n:Nat
 off:Nat
 tmps:Nat->FV
 aN:List (Nat×List FV)
 bG:List Fr
 bZ:List yN
 cL:List (Nat×List UInt8)
 maps:List (Nat×List (AV×FV)):=[]
 iM:List (Nat×(Option (AV×AV)×List (AV×AV))):=[]
def ai.PD (S:ai)(m:List (Nat×List (AV×FV))):ai:={S with maps:=m}
def ltB (i n:Nat):Bool:=match n with|0=>false|m+1=>Nat.ble i m
@[simp] theorem adJ (i n:Nat):(ltB i n=true)=(i<n):=by
 cases n with
 |zero=>simp[ltB]
 |succ m=>simp[ltB,Nat.lt_succ_iff]
def ai.get (S:ai)(i:Nat):FV:=match ltB i S.n with|true=>S.tmps i|false=>.dF
def ai.put (S:ai)(dst:Option Nat)(v:FV):ai:=match dst with|none=>S|some d=>{S with tmps:=λi=>match Nat.beq i d with|true=>v|false=>S.tmps i}
def getObj:List (Nat×List FV)->Nat->Option (List FV)|[],_=>none|(u,i)::r,t=>match Nat.beq u t with|true=>some i|false=>getObj r t
def Ba (l:List (Nat×List FV))(d:Nat):Option (List FV):=match Nat.beq d 999999 with|true=>none|false=>getObj l d
def setObj:List (Nat×List FV)->Nat->List FV->List (Nat×List FV)|[],_,_=>[]|(u,i)::r,t,c=>match Nat.beq u t with|true=>(u,c)::r|false=>(u,i)::setObj r t c
def en (d:Nat):List (Nat×List FV)->List (Nat×List FV)|[]=>[]|(u,i)::r=>match Nat.beq u d with|true=>en d r|false=>(u,FV.eL d i)::en d r
def lN:List (Nat×List UInt8)->Nat->Option (List UInt8)|[],_=>none|(u,i)::r,t=>match Nat.beq u t with|true=>some i|false=>lN r t
def ZE:List (Nat×List UInt8)->Nat->List UInt8->List (Nat×List UInt8)|[],_,_=>[]|(u,i)::r,t,c=>match Nat.beq u t with|true=>(u,c)::r|false=>(u,i)::ZE r t c
def Ct (d:Nat):List (Nat×List UInt8)->List (Nat×List UInt8)|[]=>[]|(u,i)::r=>match Nat.beq u d with|true=>Ct d r|false=>(u,i)::Ct d r
def Cu (f:FV->FV):List (AV×FV)->List (AV×FV)|[]=>[]|(k,x)::r=>(k,f x)::Cu f r
theorem Nf (f:FV->FV)(l:List (AV×FV)):Cu f l=l.map λp=>(p.1,f p.2):=by
 induction l with
 |nil=>rfl
 |cons p l ih=>obtain⟨k,x⟩:=p;simp[Cu,ih]
def yx (f:FV->FV):List (Nat×List (AV×FV))->List (Nat×List (AV×FV))|[]=>[]|(u,l)::r=>(u,Cu f l)::yx f r
def getM {α:Type}:List (Nat×α)->Nat->Option α|[],_=>none|(u,i)::r,t=>match Nat.beq u t with|true=>some i|false=>getM r t
def vL {α:Type}:List (Nat×α)->Nat->α->List (Nat×α)|[],_,_=>[]|(u,i)::r,t,c=>match Nat.beq u t with|true=>(u,c)::r|false=>(u,i)::vL r t c
def vM {α:Type}(d:Nat):List (Nat×α)->List (Nat×α)|[]=>[]|(u,i)::r=>match Nat.beq u d with|true=>vM d r|false=>(u,i)::vM d r
def Fr.map (f:FV->FV)(r:Fr):Fr:={r with tmps:=λi=>f (r.tmps i)}
def zb (f:FV->FV):List Fr->List Fr|[]=>[]|r::rs=>r.map f::zb f rs
theorem HQ (f:FV->FV)(rs:List Fr):zb f rs=rs.map (Fr.map f):=by
 induction rs with
 |nil=>rfl
 |cons r rs ih=>simp[zb,ih]
def ai.kill (S:ai)(d:Nat):ai:={S with tmps:=λi=>(S.tmps i).kill d,aN:=en d S.aN,bG:=zb (FV.kill d) S.bG,cL:=Ct d S.cL,maps:=yx (FV.kill d) (vM d S.maps),iM:=vM d S.iM}
def FV.one:FV->Bool|.agg _=>false|.eV _=>false|.p x=>x.one|.dF=>false|_=>true
def ji:List FV->Bool|[]=>true|x::xs=>match x.one with|true=>ji xs|false=>false
def aH:List AV->List FV|[]=>[]|x::xs=>.p x::aH xs
def FV.cells:FV->List FV|.agg xs=>xs|.p (.agg xs)=>aH xs|x=>[x]
def takeN:Nat->List FV->Option (List FV)|0,_=>some []|_+1,[]=>none|n+1,x::xs=>match takeN n xs with|some ys=>some (x::ys)|none=>none
def FW:Nat->List AV->Option (List AV)|0,_=>some []|_+1,[]=>none|n+1,x::xs=>match FW n xs with|some ys=>some (x::ys)|none=>none
def fT {α:Type}:Nat->List α->List α|0,xs=>xs|_+1,[]=>[]|n+1,_::xs=>fT n xs
def KG {α:Type}:List α->Nat->α->Option (List α)|[],_,_=>none|_::xs,0,y=>some (y::xs)|x::xs,n+1,y=>match KG xs n y with|some zs=>some (x::zs)|none=>none
def gD {α:Type}:List α->Nat->List α->Option (List α)|xs,_,[]=>some xs|xs,n,y::ys=>match KG xs n y with|some zs=>gD zs (n+1) ys|none=>none
def FV.gP:Value->FV|.bool b=>.p (.bool b)|.int k n=>.p (.int k n)|.string s=>.p (.str s.data.toList)|.pointer none=>.p .wN|.nilFunc=>.p .BA|.nilIface=>.p .sE|.map none=>.p .lu|.slice none 0 0=>.full []|_=>.dF
def FV.PE:Value->FV|.agg cs=>.agg (cs.toList.map FV.gP)|.tuple ⟨[]⟩=>.p (.eV [])|v=>FV.gP v
def ai.val (S:ai):Operand->FV|.tmp t=>S.get t|.const v=>FV.PE v|.func f=>.p (.fn (.func f) [] [])|.global g=>match Lt g with|some xs=>.p (.imp xs)|none=>.dF
structure Al {α:Sort u}(p:α->Prop):Prop where
 out:∀x,p x
def force (v:FV)(K:FV->Prop):Prop:=match v with|.p x=>K (.p x)|.agg xs=>K (.agg xs)|.eV xs=>K (.eV xs)|.ptr o off=>K (.ptr o off)|.eH t T e xs=>K (.eH t T e xs)|.full xs=>K (.full xs)|.fn f a b=>K (.fn f a b)|.ni l=>K (.ni l)|.fe o T e=>K (.fe o T e)|.uH o x T e=>K (.uH o x T e)|.ij o b off=>K (.ij o b off)|.fI o=>K (.fI o)|.Bh o=>K (.Bh o)|.dF=>K .dF
theorem force_eq (v:FV)(K:FV->Prop):force v K=K v:=by cases v<;>rfl
def pX:List FV->(List FV->Prop)->Prop|[],K=>K []|x::xs,K=>force x λy=>pX xs λys=>K (y::ys)
theorem jY (xs:List FV)(K:List FV->Prop):pX xs K=K xs:=by
 induction xs generalizing K with
 |nil=>rfl
 |cons x xs ih=>simp only[pX,force_eq,ih]
def FV.elems:FV->Option (List (List AV))|.p (.sl xs)=>some xs|.eH _ _ _ xs=>some xs|.full xs=>some xs|_=>none
def Hq (a b:List UInt8):Bool:=Op.bytesLess a b
def yO (op:BinOp)(k:IntKind)(x y:Int):Int:=k.wrap (match op with|.and=>BitVec.ofInt k.bits x&&&BitVec.ofInt k.bits y|.or=>BitVec.ofInt k.bits x|||BitVec.ofInt k.bits y|.xor=>BitVec.ofInt k.bits x^^^BitVec.ofInt k.bits y|_=>BitVec.ofInt k.bits x&&&~~~BitVec.ofInt k.bits y).toNat
def adL:BinOp->Bool|.shl=>true|.shr=>true|_=>false
def Cv (op:BinOp)(k:IntKind)(a b:Int)(K:FV->Prop):Prop:=match op with|.shl=>0<=b/\∃c,k.wrap (a*2^(min b.toNat k.bits))=c/\K (.p (.int k c))|.shr=>0<=b/\∃c,a.fdiv (2^(min b.toNat k.bits))=c/\K (.p (.int k c))|_=>False
def PF (op:BinOp)(k:IntKind)(a b:Int)(K:FV->Prop):Prop:=match op with|.add=>∃c,k.wrap (a+b)=c/\K (.p (.int k c))|.sub=>∃c,k.wrap (a-b)=c/\K (.p (.int k c))|.mul=>∃c,k.wrap (a*b)=c/\K (.p (.int k c))|.quo=>b≠0/\∃c,k.wrap (a.tdiv b)=c/\K (.p (.int k c))|.rem=>b≠0/\∃c,a.tmod b=c/\K (.p (.int k c))|.and=>∃c,yO .and k a b=c/\K (.p (.int k c))|.or=>∃c,yO .or k a b=c/\K (.p (.int k c))|.xor=>∃c,yO .xor k a b=c/\K (.p (.int k c))|.andNot=>∃c,yO .andNot k a b=c/\K (.p (.int k c))|.eql=>Al λt:Bool=>t=(a==b)->K (.p (.bool t))|.neq=>Al λt:Bool=>t=(a !=b)->K (.p (.bool t))|.lss=>Al λt:Bool=>t=decide (a<b)->K (.p (.bool t))|.leq=>Al λt:Bool=>t=decide (a<=b)->K (.p (.bool t))|.gtr=>Al λt:Bool=>t=decide (a>b)->K (.p (.bool t))|.geq=>Al λt:Bool=>t=decide (a≥b)->K (.p (.bool t))|_=>False
def PG (op:BinOp)(a b:List UInt8)(K:FV->Prop):Prop:=match op with|.add=>a.length+b.length<2^62/\K (.p (.str (a++b)))|.eql=>Al λt:Bool=>t=(a==b)->K (.p (.bool t))|.neq=>Al λt:Bool=>t=!(a==b)->K (.p (.bool t))|.lss=>Al λt:Bool=>t=Hq a b->K (.p (.bool t))|.leq=>Al λt:Bool=>t=(Hq a b||a==b)->K (.p (.bool t))|.gtr=>Al λt:Bool=>t=!(Hq a b||a==b)->K (.p (.bool t))|.geq=>Al λt:Bool=>t=!Hq a b->K (.p (.bool t))|_=>False
def ZF:IntKind->Nat|.i8=>0|.i16=>1|.i32=>2|.i64=>3|.u8=>4|.u16=>5|.u32=>6|.u64=>7
def Bi (k k':IntKind):Bool:=Nat.beq (ZF k) (ZF k')
theorem rV {k k':IntKind}(h:Bi k k'=true):k=k':=by have :=aP h;cases k<;>cases k'<;>first|rfl|(simp[ZF]at this)
inductive gI where|bool|int (k:IntKind)|str deriving Inhabited
def adM (P:Program)(t:TypeId):Option (List gI)->Option (List gI)|none=>none|some l=>match Nat.beq (P.cellsOf t) l.length with|true=>some l|false=>none
mutual def eM (P:Program):Nat->TypeId->Option (List gI)
 |0,_=>none
 |d+1,t=>match P.underlying t with
  |some .bool=>some [.bool]
  |some (.int k)=>some [.int k]
  |some .string=>some [.str]
  |some (.struct fs)=>match P.stoodInHeld t with|true=>none|false=>adM P t (oH P d 0 fs.toList)
  |some (.array n e)=>match eM P d e with|none=>none|some l=>match Nat.beq (P.cellsOf e) l.length with|true=>adM P t (some (List.replicate n l).flatten)|false=>none
  |_=>none def oH (P:Program):Nat->Nat->List Field->Option (List gI)
 |0,_,_=>none
 |_+1,_,[]=>some []
 |d+1,off,f::fs=>match f.name== "_",Nat.beq f.offset off with
  |false,true=>match eM P d f.type with|none=>none|some l=>match oH P d (off+l.length) fs with|none=>none|some r=>some (l++r)
  |_,_=>none end
def gI.fits:gI->AV->Bool|.bool,.bool _=>true|.int k,.int k' _=>Bi k k'|.str,.str _=>true|_,_=>false
def fu:List gI->List AV->Bool
 |[],[]=>true
 |l::ls,x::xs=>match l.fits x with|true=>fu ls xs|false=>false
 |_,_=>false
def gB (agg:Bool)(L:List gI)(x:AV):Bool:=match agg,x with|true,.agg xs=>fu L xs|true,_=>false|false,.agg _=>false|false,x=>fu L [x]
def sF:AV->AV->Bool|.bool a,.bool b=>a==b|.int k a,.int k' b=>Bi k k'&&a==b|.str a,.str b=>a==b|_,_=>false
def sameAs:List AV->List AV->Bool|[],[]=>true|x::xs,y::ys=>sF x y&&sameAs xs ys|_,_=>false
def kg:AV->AV->Bool|.agg a,.agg b=>sameAs a b|x,y=>sF x y
def EJ (C:Ctx)(t:TypeId)(op:BinOp)(x y:FV)(K:FV->Prop):Prop:=match bU C.jG t with|none=>False|some i=>match i.shape.isAgg,x.fh,y.fh with|true,some (.agg xs),some (.agg ys)=>∃L,eM C.P 40 t=some L/\C.P.eqGuardType C.P.depth t=false/\fu L xs=true/\fu L ys=true/\(match op with|.eql=>Al λb:Bool=>b=sameAs xs ys->K (.p (.bool b))|.neq=>Al λb:Bool=>b=!sameAs xs ys->K (.p (.bool b))|_=>False)|_,_,_=>False
def HR (C:Ctx)(t:TypeId)(op:BinOp)(x y:FV)(K:FV->Prop):Prop:=match x,y with
 |.p (.int k a),.p (.int k' b)=>match adL op with|true=>Cv op k a b K|false=>match Bi k k' with|true=>PF op k a b K|false=>False
 |.p (.str a),.p (.str b)=>PG op a b K
 |.ptr _ _,.p .wN=>match op,bU C.jG t with|.eql,some ⟨_,_,.ptr _,_⟩=>K (.p (.bool false))|.neq,some ⟨_,_,.ptr _,_⟩=>K (.p (.bool true))|_,_=>False
 |.p .wN,.p .wN=>match op,bU C.jG t with|.eql,some ⟨_,_,.ptr _,_⟩=>K (.p (.bool true))|.neq,some ⟨_,_,.ptr _,_⟩=>K (.p (.bool false))|_,_=>False
 |.ptr o f,.ptr o' f'=>match Nat.beq o o',Nat.beq f f',op,bU C.jG t with
  |true,true,.eql,some ⟨_,_,.ptr e,_⟩=>match bU C.jG e with|some _=>K (.p (.bool true))|none=>False
  |true,true,.neq,some ⟨_,_,.ptr e,_⟩=>match bU C.jG e with|some _=>K (.p (.bool false))|none=>False
  |_,_,_,_=>False
 |.p (.bool a),.p (.bool b)=>match bU C.jG t with
  |some ⟨_,_,.bool,_⟩=>match op with|.eql=>Al λt:Bool=>t=(a==b)->K (.p (.bool t))|.neq=>Al λt:Bool=>t=!(a==b)->K (.p (.bool t))|_=>False
  |_=>False
 |x,y=>EJ C t op x y K
def Ng:Operand->Bool|.const .nilIface=>true|_=>false
def BC (C:Ctx)(t:TypeId)(op:BinOp)(x:FV)(K:FV->Prop):Prop:=match bU C.jG t with
 |some ⟨_,_,.iface,_⟩=>match op,x with|.eql,.p .sE=>K (.p (.bool true))|.eql,.p (.iface _ _)=>K (.p (.bool false))|.neq,.p .sE=>K (.p (.bool false))|.neq,.p (.iface _ _)=>K (.p (.bool true))|_,_=>False
 |_=>False
def Nh:Operand->Bool|.const (.slice none 0 0)=>true|_=>false
def Ni (C:Ctx)(t:TypeId)(op:BinOp)(x:FV)(K:FV->Prop):Prop:=match bU C.jG t with
 |some ⟨_,_,.slice _,_⟩=>match x with
  |.fe _ _ _=>match op with|.eql=>K (.p (.bool false))|.neq=>K (.p (.bool true))|_=>False
  |x=>match x.elems with|none=>False|some xs=>match op with|.eql=>Al λb:Bool=>(xs≠[]->b=false)->K (.p (.bool b))|.neq=>Al λb:Bool=>(xs≠[]->b=true)->K (.p (.bool b))|_=>False
 |_=>False
def nt (C:Ctx)(aN:List (Nat×List FV))(t:TypeId)(a:FV)(K:FV->Prop):Prop:=match bU C.jG t with
 |none=>False
 |some i=>match a with
  |.ptr o off=>match getObj aN o with
   |none=>False
   |some cells=>match i.shape.isAgg with
    |true=>match takeN i.size (fT off cells)with|none=>False|some cs=>K (.agg cs)
    |false=>match fT off cells with|[]=>False|x::_=>K x
  |.p (.imp xs)=>match i.shape.isAgg with
   |true=>match FW i.size xs with|none=>False|some cs=>K (.p (.agg cs))
   |false=>match xs with|[]=>False|x::_=>K (.p x)
  |.ij o base off=>match getObj aN o with
   |none=>False
   |some cells=>∃A ys B:List FV,cells=A++(ys++B)/\A.length=base/\(match i.shape.isAgg with
    |true=>match takeN i.size (fT off ys)with|none=>False|some cs=>K (.agg cs)
    |false=>match fT off ys with|[]=>False|x::_=>K x)
  |_=>False
def nu (C:Ctx)(s:TypeId)(x:FV)(f:Nat)(K:FV->Prop):Prop:=match bU C.jG s with
 |some ⟨_,_,.struct fs,_⟩=>match fT f fs with|[]=>False|(o,t)::_=>match bU C.jG t with|none=>False|some j=>match j.size with|0=>False|_+1=>match x with|.ptr b off=>K (.ptr b (off+o))|.p (.imp xs)=>K (.p (.imp (fT o xs)))|.ij b base off=>K (.ij b base (off+o))|_=>False
 |_=>False
def wR (C:Ctx)(s:TypeId)(x:FV)(f:Nat)(K:FV->Prop):Prop:=match bU C.jG s with
 |some ⟨_,_,.struct fs,_⟩=>match fT f fs with
  |[]=>False
  |(o,t)::_=>match bU C.jG t with
   |none=>False
   |some j=>match x with
    |.agg xs=>match j.shape.isAgg with
     |true=>match takeN j.size (fT o xs)with|some cs=>K (.agg cs)|none=>False
     |false=>match fT o xs with|y::_=>K y|[]=>False
    |.p (.agg xs)=>match j.shape.isAgg with
     |true=>match FW j.size (fT o xs)with|some cs=>K (.p (.agg cs))|none=>False
     |false=>match fT o xs with|y::_=>K (.p y)|[]=>False
    |_=>False
 |_=>False
def jB (C:Ctx)(aN:List (Nat×List FV))(t:TypeId)(x i:FV)(K:FV->Prop):Prop:=match i with
 |.p (.int _ n)=>match bU C.jG t with
  |some ⟨_,_,.slice e,_⟩=>match bU C.jG e with
   |none=>False
   |some j=>match x with
    |.fe o _ bP=>match getObj aN o,Nat.beq bP j.size with|some cells,true=>∃m base:Nat,n=m/\m*bP=base/\base+bP<=cells.length/\K (.ij o base 0)|_,_=>False
    |.uH o x _ bP=>match getObj aN o,Nat.beq bP j.size with|some cells,true=>∃m base:Nat,n=m/\(x+m)*bP=base/\base+bP<=cells.length/\K (.ij o base 0)|_,_=>False
    |x=>match x.elems with|none=>False|some xs=>0<=n/\∃ys,xs[n.toNat]?=some ys/\ys.length=j.size/\K (.p (.imp ys))
  |some ⟨_,_,.array len e,_⟩=>match bU C.jG e with|none=>False|some j=>∃m:Nat,n=m/\m<len/\(match x with|.ptr o off=>∃sym:Bool,(match sym with|true=>∃base,off+m*j.size=base/\K (.ij o base 0)|false=>K (.ptr o (off+m*j.size)))|.ij o b off=>∃base,b+(off+m*j.size)=base/\K (.ij o base 0)|.p (.imp xs)=>∃ys,fT (m*j.size) xs=ys/\K (.p (.imp ys))|_=>False)
  |_=>False
 |_=>False
def wT (C:Ctx)(t:TypeId)(x i:FV)(K:FV->Prop):Prop:=match i with
 |.p (.int _ n)=>match bU C.jG t with
  |some ⟨_,_,.str,_⟩=>match x with|.p (.str s)=>0<=n/\∃c,s[n.toNat]?=some c/\K (.p (.int .u8 c.toNat))|_=>False
  |some ⟨_,_,.array len e,_⟩=>match bU C.jG e with
   |none=>False
   |some j=>match j.shape.isAgg with
    |true=>∃m:Nat,n=m/\m<len/\(match x with
     |.agg xs=>match takeN j.size (fT (m*j.size) xs)with|some cs=>K (.agg cs)|none=>False
     |.p (.agg xs)=>match FW j.size (fT (m*j.size) xs)with|some cs=>K (.p (.agg cs))|none=>False
     |_=>False)
    |false=>∃m:Nat,n=m/\m<len/\(match x with
     |.agg xs=>match fT (m*j.size) xs with|y::_=>K y|[]=>False
     |.p (.agg xs)=>match fT (m*j.size) xs with|y::_=>K (.p y)|[]=>False
     |_=>False)
  |_=>False
 |_=>False
def uI (x:Option FV)(dflt:Nat)(K:Nat->Prop):Prop:=match x with|none=>K dflt|some (.p (.int _ n))=>∃m:Nat,n=m/\K m|some _=>False
def Nj (C:Ctx)(t:TypeId)(x:FV)(lo hi:Option FV)(K:FV->Prop):Prop:=match bU C.jG t with
 |some ⟨_,_,.str,_⟩=>match x with|.p (.str s)=>uI hi s.length λh=>uI lo 0 λl=>l<=h/\h<=s.length/\∃s',(s.take h).drop l=s'/\K (.p (.str s'))|_=>False
 |some ⟨_,_,.slice e,_⟩=>match bU C.jG e with|none=>False|some j=>match x.elems with|none=>False|some xs=>uI hi xs.length λh=>uI lo 0 λl=>l<=h/\h<=xs.length/\(∀ys,ys∈xs->ys.length=j.size)/\∃xs',(xs.take h).drop l=xs'/\K (.p (.sl xs'))
 |some ⟨_,_,.array len e,_⟩=>match bU C.jG e with|none=>False|some j=>match x with|.p (.imp xs)=>uI hi len λh=>uI lo 0 λl=>l<=h/\h<=len/\j.size=1/\len<=xs.length/\∃xs',((xs.take h).drop l).map (λx=>[x])=xs'/\K (.p (.sl xs'))|_=>False
 |_=>False
def nv (fs:List (Nat×TypeId))(jG:List (TypeId×jX))(S:ai):List (Nat×Operand)->List FV->Option (List FV)
 |[],cells=>some cells
 |(i,x)::rest,cells=>match fT i fs with
  |[]=>none
  |(o,t)::_=>match bU jG t with
   |none=>none
   |some j=>match Nat.beq j.size 0,Nat.beq (S.val x).cells.length j.size,ji (S.val x).cells with
    |false,true,true=>match gD cells o (S.val x).cells with|none=>none|some cells'=>nv fs jG S rest cells'
    |_,_,_=>none
def fK (size:Nat)(S:ai):List (Nat×Operand)->List FV->Option (List FV)
 |[],cells=>some cells
 |(i,x)::rest,cells=>match Nat.beq size 0,Nat.beq (S.val x).cells.length size,ji (S.val x).cells with
  |false,true,true=>match gD cells (i*size) (S.val x).cells with|none=>none|some cells'=>fK size S rest cells'
  |_,_,_=>none
def placesOf (jG:List (TypeId×jX)):List (Nat×TypeId)->Option (List (Nat×Nat))|[]=>some []|(o,t)::fs=>match bU jG t with|none=>none|some j=>match placesOf jG fs with|none=>none|some ps=>some ((o,j.size)::ps)
def Hr (C:Ctx)(S:ai)(t:TypeId)(parts:List (Nat×Operand))(K:FV->Prop):Prop:=match bU C.jG t with
 |some ⟨_,_,.struct fs,zero⟩=>match placesOf C.jG fs with|none=>False|some _=>match nv fs C.jG S parts (zero.map FV.gP)with|some cs=>pX cs λcs=>K (.agg cs)|none=>False
 |some ⟨_,_,.array _ e,zero⟩=>match bU C.jG e with|none=>False|some j=>match fK j.size S parts (zero.map FV.gP)with|some cs=>pX cs λcs=>K (.agg cs)|none=>False
 |_=>False
def ov {α:Type}:Nat->List α->List α|0,_=>[]|n+1,xs=>xs++ov n xs
def chunk {α:Type}(size:Nat):Nat->List α->List (List α)|0,_=>[]|n+1,xs=>xs.take size::chunk size n (xs.drop size)
def lW (C:Ctx)(S:ai)(t:TypeId)(len:Nat)(parts:List (Nat×Operand))(K:FV->Prop):Prop:=match bU C.jG t with
 |some ⟨_,_,.slice e,_⟩=>match bU C.jG e with
  |none=>False
  |some j=>match Nat.ble (len*j.size) 1000000 with
   |false=>False
   |true=>match fK j.size S parts (ov len (j.zero.map FV.gP))with
    |some cs=>match ji cs with|false=>False|true=>match FV.fD cs with|some ys=>K (.full (chunk j.size len ys))|none=>False
    |none=>False
 |_=>False
def iF:Nat->List Nat->Bool|_,[]=>false|i,d::ds=>match Nat.beq i d with|true=>true|false=>iF i ds
def Shape.FX:Shape->Bool|.slice _=>true|.str=>true|_=>false
def FV.items:FV->Option (List (List AV))|.p (.str s)=>some (s.map λ(b:UInt8)=>[AV.int .u8 (b.toNat:Int)])|y=>y.elems
def wU (S:ai)(d:Nat)(K:Nat->Prop):Prop:=match S.off with|0=>K d|n+1=>K (n+1+d)
theorem mM (S:ai)(d:Nat)(K:Nat->Prop):wU S d K=K (S.off+d):=by unfold wU;split;rename_i h;rw[h,cM];rename_i n h;rw[h]
def sQ (S:ai)(d:Nat)(K:Nat->Prop):Prop:=match S.off with
 |0=>match Nat.beq d 999999 with|true=>False|false=>K d
 |n+1=>match Nat.beq (n+1+d) 999999 with|true=>False|false=>K (n+1+d)
theorem lX (S:ai)(d:Nat)(K:Nat->Prop):sQ S d K=(Nat.beq (S.off+d) 999999=false/\K (S.off+d)):=by unfold sQ;split;rename_i h;rw[h,cM];cases Nat.beq d 999999<;>simp;rename_i n h;rw[h];cases Nat.beq (n+1+d) 999999<;>simp
def HS (n:Nat)(K:Nat->Prop):Prop:=match n with|0=>K 0|m+1=>K (m+1)
theorem PI (n:Nat)(K:Nat->Prop):HS n K=K n:=by cases n<;>rfl
def tX (C:Ctx)(t u d:TypeId)(S:ai)(x y:FV)(K:ai->Prop):Prop:=match bU C.jG t,bU C.jG u with
 |some ⟨_,_,.slice e,_⟩,some ui=>match ui.shape.FX with
  |false=>False
  |true=>match bU C.jG e with
   |none=>False
   |some j=>match y.items with
    |none=>False
    |some ys=>match x with
     |.eH k T bP xs=>match Nat.beq bP j.size,Nat.beq j.bytes 0,Nat.beq T e with|true,false,true=>(∀zs,zs∈xs->zs.length=bP)/\(∀zs,zs∈ys->zs.length=bP)/\(xs.length+ys.length)*j.bytes<=140737488355328/\∃zs,xs++ys=zs/\K ((S.kill k).put (some d) (.eH k T bP zs))|_,_,_=>False
     |.fe k T bP=>match Nat.beq bP j.size,Nat.beq T e,Nat.beq j.bytes 0 with
      |true,true,false=>match Ba S.aN k with|none=>False|some xs=>∃n:Nat,xs.length=n*j.size/\(∀zs,zs∈ys->zs.length=j.size)/\(n+ys.length)*j.bytes<=140737488355328/\∃zs,FV.eL k (xs++aH ys.flatten)=zs/\K ({S.kill k with aN:=(k,zs)::en k S.aN}.put (some d) (.fe k e j.size))
      |_,_,_=>False
     |.full []=>match Nat.beq j.bytes 0 with|false=>(∀zs,zs∈ys->zs.length=j.size)/\ys.length*j.bytes<=140737488355328/\wU S d λnm=>K ((S.kill nm).put (some d) (.eH nm e j.size ys))|true=>False
     |.full (q::r)=>match Nat.beq j.bytes 0 with|false=>ys≠[]/\(∀zs,zs∈q::r->zs.length=j.size)/\(∀zs,zs∈ys->zs.length=j.size)/\((q::r).length+ys.length)*j.bytes<=140737488355328/\wU S d λnm=>∃zs,(q::r)++ys=zs/\K ((S.kill nm).put (some d) (.eH nm e j.size zs))|true=>False
     |_=>False
 |_,_=>False
def SV (C:Ctx)(t u d:TypeId)(S:ai)(x:FV)(o2:Nat)(T2:TypeId)(e2:Nat)(K:ai->Prop):Prop:=match bU C.jG t,bU C.jG u with
 |some ⟨_,_,.slice e,_⟩,some ui=>match ui.shape.FX with
  |false=>False
  |true=>match bU C.jG e with
   |none=>False
   |some j=>match Nat.beq e2 j.size,Nat.beq T2 e,Nat.beq j.bytes 0 with
    |true,true,false=>match getObj S.aN o2 with
     |none=>False
     |some ys=>match x with
      |.fe k T bP=>match Nat.beq bP j.size,Nat.beq T e,Nat.beq k o2 with
       |true,true,false=>match Ba S.aN k with|none=>False|some xs=>∃n m:Nat,xs.length=n*j.size/\ys.length=m*j.size/\ji ys=true/\(n+m)*j.bytes<=140737488355328/\∃zs,FV.eL k (xs++ys)=zs/\K ({S.kill k with aN:=(k,zs)::en k S.aN}.put (some d) (.fe k e j.size))
       |_,_,_=>False
      |.full []=>∃m:Nat,0<m/\ys.length=m*j.size/\ji ys=true/\m*j.bytes<=140737488355328/\sQ S d λnm=>∃zs,FV.eL nm ys=zs/\K ({S.kill nm with aN:=(nm,zs)::en nm S.aN}.put (some d) (.fe nm e j.size))
      |_=>False
    |_,_,_=>False
 |_,_=>False
def jJ (C:Ctx)(aN:List (Nat×List FV))(b:Builtin)(args:List FV)(types:List TypeId)(K:FV->Prop):Prop:=match b with
 |.len=>match args,types with
  |[x],[t]=>match bU C.jG t with
   |none=>False
   |some ⟨_,_,.str,_⟩=>match x with|.p (.str s)=>K (.p (.int .i64 s.length))|_=>False
   |some ⟨_,_,.slice _,_⟩=>match x with
    |.fe o _ bP=>match getObj aN o with|some cells=>∃n:Nat,cells.length=n*bP/\K (.p (.int .i64 n))|none=>False
    |.uH o x _ bP=>match getObj aN o with|some cells=>∃n:Nat,cells.length=(x+n)*bP/\K (.p (.int .i64 n))|none=>False
    |x=>match x.elems with|some xs=>K (.p (.int .i64 xs.length))|none=>False
   |_=>False
  |_,_=>False
 |.min=>match args with
  |[.p (.int k a),.p (.int k' b)]=>match Bi k k' with|true=>∃c,(if b<a then b else a)=c/\K (.p (.int k c))|false=>False
  |_=>False
 |.max=>match args with
  |[.p (.int k a),.p (.int k' b)]=>match Bi k k' with|true=>∃c,(if b>a then b else a)=c/\K (.p (.int k c))|false=>False
  |_=>False
 |_=>False
def agG (rest:Option (List AV))(x:FV):FV:=match rest with|none=>x|some r=>.eV (x::aH r)
def ai.got (S:ai)(dst:Option Nat):cQ->ai
 |.own rest T bP xss=>match dst with|some d=>{S.kill (S.off+d)with aN:=(S.off+d,aH xss.flatten)::en (S.off+d) S.aN}.put (some d) (agG rest (.fe (S.off+d) T bP))|none=>S
 |.val x=>S.put dst (.p x)
 |.fresh T bP xs=>match dst with|some d=>(S.kill (S.off+d)).put (some d) (.eH (S.off+d) T bP xs)|none=>S
 |.vf x=>S.put dst x
def afU (S:ai)(dst:Option Nat):cQ->Prop|.own _ _ _ _=>∀d,dst=some d->S.off+d≠999999|_=>True
def PJ (S:ai)(dst:Option Nat)(r:cQ)(K:ai->Prop):Prop:=match r with
 |.own rest T bP xss=>match dst with|some d=>sQ S d λnm=>∃zs,aH xss.flatten=zs/\K ({S.kill nm with aN:=(nm,zs)::en nm S.aN}.put (some d) (agG rest (.fe nm T bP)))|none=>K S
 |.val x=>K (S.put dst (.p x))
 |.fresh T bP xs=>match dst with|some d=>wU S d λnm=>K ((S.kill nm).put (some d) (.eH nm T bP xs))|none=>K S
 |.vf x=>K (S.put dst x)
theorem Hs {S:ai}{dst:Option Nat}{r:cQ}{K:ai->Prop}(h:PJ S dst r K):afU S dst r/\K (S.got dst r):=by
 unfold PJ at h;cases r with
 |val x=>exact⟨trivial,h⟩
 |fresh T bP xs=>
  cases dst with
  |none=>exact⟨trivial,h⟩
  |some d=>simp only[mM]at h;exact⟨trivial,h⟩
 |vf x=>exact⟨trivial,h⟩
 |own rest T bP xss=>
  cases dst with
  |none=>exact⟨λd hd=>(by cases hd),h⟩
  |some d=>simp only[lX]at h;obtain⟨h1,zs,rfl,h2⟩:=h;exact⟨λd' hd=>by cases hd;exact bt h1,h2⟩
abbrev pE:=Nat->List FV->(FV->ai->Prop)->ai->Prop
abbrev iw:=pE->FuncId->List FV->(FV->ai->Prop)->ai->Prop
def adN (P:Program)(g:FuncId):Prop:=∀(v:Value)(w:World),(callFunc g #[v]).run P w=.ok (.value v) w
def SX (S:ai)(d:Nat):ai:={(S.kill (S.off+d)).put (some d) (.ptr (S.off+d) 0)with cL:=(S.off+d,[])::Ct (S.off+d) S.cL}
def AV.flat:AV->Bool|.bool _=>true|.int _ _=>true|.str _=>true|.wN=>true|.BA=>true|.sE=>true|.lu=>true|_=>false
def Lu:List AV->Bool|[]=>true|x::xs=>match x.flat with|true=>Lu xs|false=>false
theorem EK {xs:List AV}(h:Lu xs=true):∀x,x∈xs->x.flat=true:=by
 induction xs with
 |nil=>simp
 |cons x xs ih=>simp only[Lu]at h;split at h;rename_i h1;intro y hy;rcases aQ.1 hy with rfl|hy;exact h1;exact ih h y hy;cases h
theorem dh.flat {aZ qN:Nat->Nat->Prop}{w:World}{v:Value}{x:AV}(h:dh aZ w v x)(hx:x.flat=true):dh qN w v x:=by
 cases h with
 |bool b=>exact .bool b
 |int k n=>exact .int k n
 |str s=>exact .str s
 |wN=>exact .wN
 |BA=>exact .BA
 |sE=>exact .sE
 |lu=>exact .lu
 |_=>simp[AV.flat]at hx
def ZG (C:Ctx)(S:ai)(dst:Option Nat)(g:FuncId)(o:Nat)(bs:List UInt8)(args:List FV)(K:ai->Prop):Prop:=match FV.fD args with|none=>False|some xs=>∃(out:Option (List UInt8)) (r:AV),vK C g xs bs out r/\(match out with|some bs'=>K ({S with cL:=ZE S.cL o bs'}.put dst (.p r))|none=>K ({S with cL:=Ct o S.cL}.put dst (.p r)))
def ZH (S:ai):List FV->Option (Nat×List UInt8×List FV)
 |.ptr o 0::rest=>match lN S.cL o with|some bs=>some (o,bs,rest)|none=>none
 |_=>none
def ai.Cw (S:ai)(ob:Nat)(cs:List FV):ai:={S with aN:=setObj S.aN ob cs}
def EL (d:Nat)(z:AV):List (Nat×List FV)->List (Nat×List FV)|[]=>[]|(u,i)::r=>(u,FV.Zs d z i)::EL d z r
def ai.PK (S:ai)(d:Nat)(z:AV):ai:={S with tmps:=λi=>(S.tmps i).fm d z,aN:=EL d z S.aN,bG:=zb (FV.fm d z) S.bG,maps:=yx (FV.fm d z) (vM d S.maps)}
def gC {α:Type}:List (AV×α)->List AV|[]=>[]|(k,_)::r=>k::gC r
def tY {α:Type}:List (AV×α)->List α|[]=>[]|(_,x)::r=>x::tY r
structure ZI (S:ai)(d:Nat)(ks vs:List AV):Prop where
 mp:∃l,getM S.maps d=some l/\gC l=ks/\FV.fD (tY l)=some vs
def ZJ (C:Ctx)(S:ai)(dst:Option Nat)(g:FuncId)(args:List FV)(K:ai->Prop):Prop:=∃(d:Nat) (ks vs:List AV),ZI S d ks vs/\match FV.fD (FV.Zs d (.mp ks vs) args)with|some xs=>∃R,ak C g xs R/\∀r,R r->PJ (S.PK d (.mp ks vs)) dst r K|none=>False
def EM (d:Nat)(ys:List AV):List (Nat×List FV)->List (Nat×List FV)|[]=>[]|(u,i)::r=>match Nat.beq u d with|true=>EM d ys r|false=>(u,FV.Pu d ys i)::EM d ys r
def ai.BB (S:ai)(d:Nat)(ys:List AV):ai:={S with tmps:=λi=>(S.tmps i).fz d ys,aN:=EM d ys S.aN,bG:=zb (FV.fz d ys) S.bG,maps:=yx (FV.fz d ys) S.maps}
def uJ:List AV->Bool|[]=>true|x::xs=>match x.one with|true=>uJ xs|false=>false
def adO (C:Ctx)(S:ai)(dst:Option Nat)(g:FuncId)(args:List FV)(K:ai->Prop):Prop:=∃(d:Nat) (ys:List AV),match Ba S.aN d with|none=>False|some cells=>FV.fD cells=some ys/\uJ ys=true/\match FV.fD (FV.Pu d ys args)with|some xs=>∃R,ak C g xs R/\∀r,R r->PJ (S.BB d ys) dst r K|none=>False
def ZK (S:ai)(dst:Option Nat)(o:Nat)(T:TypeId)(bP:Nat)(r:Bool)(ys:List AV)(K:ai->Prop):Prop:=match r with|false=>K ((S.Cw o (aH ys)).put dst (.p (.eV [])))|true=>match dst with|some d=>∃zs,aH ys=zs/\K ({S.kill o with aN:=(o,zs)::en o S.aN}.put (some d) (.fe o T bP))|none=>False
def PL (C:Ctx)(S:ai)(dst:Option Nat)(g:FuncId)(args:List FV)(K:ai->Prop):Prop:=match args with
 |.ptr o 0::rest=>match getObj S.aN o,FV.fD rest with
  |some cells,some xs=>match FV.fD cells with|some (z::zs)=>∃R,HO C g (z::zs) xs R/\∀r ys,R r ys->K ((S.Cw o (aH ys)).put dst (.p r))|_=>False
  |_,_=>False
 |.fe o T bP::rest=>match Ba S.aN o,FV.fD rest with
  |some cells,some xs=>match FV.fD cells with|some zs=>∃R,ZD C g T bP zs xs R/\∀r ys,R r ys->ZK S dst o T bP r ys K|none=>False
  |_,_=>False
 |args=>ZJ C S dst g args K\/adO C S dst g args K
mutual inductive FY (S:ai):FV->AV->Prop|plain {x:FV}{y:AV}:x.fh=some y->FY S x y|fe {o:Nat}{T:TypeId}{bP:Nat}{cells:List FV}{xss:List (List AV)}:Ba S.aN o=some cells->vN S cells xss.flatten->(∀ys,ys∈xss->ys.length=bP/\∀y,y∈ys->y.one=true)->FY S (.fe o T bP) (.sl xss)|ptr {o:Nat}{cells:List FV}{ys:List AV}:Ba S.aN o=some cells->vN S cells ys->(∀y,y∈ys->y.one=true)->FY S (.ptr o 0) (.imp ys)|fI {o:Nat}{l:List (AV×FV)}{ks vs:List AV}:getM S.maps o=some l->gC l=ks->vN S (tY l) vs->FY S (.fI o) (.mp ks vs)|fn {f:Fn}{fs cs:List FV}{a b:List AV}:vN S fs a->vN S cs b->FY S (.fn f fs cs) (.fn f a b)|agg {xs:List FV}{ys:List AV}:vN S xs ys->(∀y,y∈ys->y.one=true)->FY S (.agg xs) (.agg ys) inductive vN (S:ai):List FV->List AV->Prop|plain {xs:List FV}{ys:List AV}:FV.fD xs=some ys->vN S xs ys|nil:vN S [] []|cons {x:FV}{y:AV}{xs:List FV}{ys:List AV}:FY S x y->vN S xs ys->vN S (x::xs) (y::ys) end
def AV.HT:AV->Bool|.eV xs=>Lu xs|x=>x.flat
def ZL (C:Ctx)(S:ai)(dst:Option Nat)(g:FuncId)(args:List FV)(K:ai->Prop):Prop:=∃(xs:List AV) (R:cQ->Prop),vN S args xs/\ak C g xs R/\∀r,R r->(∃x,r=.val x/\x.HT=true)/\PJ S dst r K
def aF (x y:FV):Prop:=∀(G:aV)(w:World)(v:Value),aT G w v x->aT G w v y
structure bM (S S':ai):Prop where
 n:S'.n=S.n
 off:S'.off=S.off
 bZ:S'.bZ=S.bZ
 cL:∀o bs,lN S'.cL o=some bs->lN S.cL o=some bs/\(getObj S.aN o=none->getObj S'.aN o=none)
 bG:S'.bG.length=S.bG.length/\∀(i:Nat)(f f':Fr),S.bG[i]?=some f->S'.bG[i]?=some f'->f'.n=f.n/\f'.off=f.off/\∀j,aF (f.tmps j) (f'.tmps j)
 tmps:∀i,aF (S.tmps i) (S'.tmps i)
 aN:∀o ys,getObj S'.aN o=some ys->∃xs,getObj S.aN o=some xs/\xs.length=ys.length/\∀(i:Nat)(x y:FV),xs[i]?=some x->ys[i]?=some y->aF x y
 maps:∀o l',getM S'.maps o=some l'->∃l,getM S.maps o=some l/\l.length=l'.length/\∀(i:Nat)(p p':AV×FV),l[i]?=some p->l'[i]?=some p'->p'.1=p.1/\aF p.2 p'.2
 iM:∀q x,getM S'.iM q=some x->getM S.iM q=some x
def aik (C:Ctx)(g:FuncId)(K:ai->Prop)(S:ai):Prop:=match iF g C.ex.rel with|true=>∃T,bM S T/\K T|false=>K S
def PM (C:Ctx)(call:iw)(Y:pE)(S:ai)(dst:Option Nat)(g:FuncId)(args:List FV)(K:ai->Prop):Prop:=match ZH S args with|some (o,bs,rest)=>ZG C S dst g o bs rest K|none=>call Y g args (λv S'=>aik C g K (S'.put dst v)) S\/((adN C.P g/\match args with|[x]=>K (S.put dst x)|_=>False)\/ZL C S dst g args K)\/PL C S dst g args K
def aml:List FV->Option Int|[.full [],.p (.int .i64 n)]=>some n|_=>none
def akr (C:Ctx)(f:FuncId)(n:Int)(R:cQ->Prop):Prop:=(∃fn,C.P.funcs[f]?=some fn/\fn.body.isNone=false/\(fn.name== "runtime.NumGoroutine")=false)/\∀(aZ:Nat->Nat->Prop)(w:World)(a:Option Addr),C.J w/\pz aZ w->C.oG<=w.heap.size->(∀b o,aZ b o->b<w.heap.size)->Calls C.P f #[.slice a 0 0,.int .i64 n] w λe w'=>∃v r,e=.returned v/\R r/\nk aZ w.heap.size w' v r/\RowKit.Below w.heap.size w w'
def agH (aZ:Nat->Nat->Prop)(b:Nat):aV:=⟨aZ,λo=>if o=999999 then some b else none,λ_=>none,λ_=>none,λ_=>none,λ_=>none,λ_=>none⟩
mutual def FV.only:FV->Bool
 |.p _=>true
 |.agg xs=>FV.HU xs
 |.eV xs=>FV.HU xs
 |.ptr o _=>Nat.beq o 999999
 |.full _=>true
 |.fn _ a b=>match FV.HU a with|true=>FV.HU b|false=>false
 |.dF=>true
 |_=>false def FV.HU:List FV->Bool|[]=>true|x::xs=>match x.only with|true=>FV.HU xs|false=>false end
def ZM (C:Ctx)(call:iw)(Y:pE)(S:ai)(dst:Option Nat)(f:FV)(args:List FV)(K:ai->Prop):Prop:=match f with
 |.p (.fn (.func g) first captured)=>match iF g C.ex.inl with|true=>PM C call Y S dst g (aH first++args++aH captured) K|false=>match FV.fD args with|some xs=>∃R,ak C g (first++xs++captured) R/\∀r,R r->PJ S dst r K|none=>PM C call Y S dst g (aH first++args++aH captured) K
 |.fn (.func g) first captured=>match FV.fD (first++args++captured)with|some xs=>∃R,ak C g xs R/\∀r,R r->PJ S dst r K|none=>PM C call Y S dst g (first++args++captured) K
 |.ni l=>Y l args (λv S'=>K (S'.put dst v)) S
 |_=>False
def newObj (S:ai)(d:Nat)(cells:List FV):ai:={(S.kill (S.off+d)).put (some d) (.ptr (S.off+d) 0)with aN:=(S.off+d,FV.eL (S.off+d) cells)::en (S.off+d) S.aN}
def Ht (S:ai)(d:Nat)(cells:List FV)(K:ai->Prop):Prop:=sQ S d λnm=>K {(S.kill nm).put (some d) (.ptr nm 0)with aN:=(nm,FV.eL nm cells)::en nm S.aN}
theorem wV (S:ai)(d:Nat)(cells:List FV)(K:ai->Prop):Ht S d cells K=(Nat.beq (S.off+d) 999999=false/\K (newObj S d cells)):=by unfold Ht newObj;rw[lX]
def Nk (S:ai)(d:Nat)(K:ai->Prop):Prop:=sQ S d λnm=>K {(S.kill nm).put (some d) (.ptr nm 0)with cL:=(nm,[])::Ct nm S.cL}
theorem HV (S:ai)(d:Nat)(K:ai->Prop):Nk S d K=(Nat.beq (S.off+d) 999999=false/\K (SX S d)):=by unfold Nk SX;rw[lX]
def rW {α:Type}(k:AV):List (AV×α)->Option α|[]=>none|(k',x)::r=>match kg k k' with|true=>some x|false=>rW k r
def Cy {α:Type}(k:AV)(x:α):List (AV×α)->List (AV×α)|[]=>[(k,x)]|(k',y)::r=>match kg k k' with|true=>(k,x)::r|false=>(k',y)::Cy k x r
def Cz {α:Type}:List AV->List α->List (AV×α)|k::ks,x::xs=>(k,x)::Cz ks xs|_,_=>[]
def FV.entries (maps:List (Nat×List (AV×FV))):FV->Option (List (AV×FV))|.fI o=>getM maps o|.p (.mp ks vs)=>some (Cz ks (aH vs))|.p .lu=>some []|_=>none
def okV (ok:Bool)(x:FV)(b:Bool):FV:=match ok with|true=>.eV [x,.p (.bool b)]|false=>x
def HW (C:Ctx)(maps:List (Nat×List (AV×FV)))(t:TypeId)(x i:FV)(ok:Bool)(K:FV->Prop):Prop:=match bU C.jG t with
 |some ⟨_,_,.map kT eT,_⟩=>match bU C.jG kT,i.fh,x.entries maps with|some ki,some kk,some l=>∃L,eM C.P 40 kT=some L/\gB ki.shape.isAgg L kk=true/\(∀p,p∈l->gB ki.shape.isAgg L p.1=true)/\∃r,rW kk l=r/\(match r with|some v=>K (okV ok v true)|none=>∃z:Value,(C.P.info? eT).map (·.zero)=some (some z)/\K (okV ok (FV.PE z) false))|_,_,_=>False
 |_=>False
def Vy (C:Ctx)(S:ai)(dst:Option Nat)(t:TypeId)(m k:FV)(x:FV)(K:ai->Prop):Prop:=match bU C.jG t with
 |some ⟨_,_,.map kT _,_⟩=>match m with
  |.fI ob=>match bU C.jG kT,k.fh,getM S.maps ob with|some ki,some kk,some l=>∃L,eM C.P 40 kT=some L/\gB ki.shape.isAgg L kk=true/\(∀p,p∈l->gB ki.shape.isAgg L p.1=true)/\∃l',Cy kk x l=l'/\(match getM C.ex.KF ob with|none=>K ((S.PD (vL S.maps ob l')).put dst (.p (.eV [])))|some (_,_,k)=>k=some kk/\K ((S.PD (vL S.maps ob l')).put dst (.p (.eV []))))|_,_,_=>False
  |_=>False
 |_=>False
def Nl (S:ai)(d:Nat)(K:ai->Prop):Prop:=wU S d λnm=>K {(S.kill nm).put (some d) (.fI nm)with maps:=(nm,[])::yx (FV.kill nm) (vM nm S.maps)}
def SY (op:UnOp)(x:FV)(K:FV->Prop):Prop:=match op,x with|.not,.p (.bool b)=>Al λt:Bool=>t=!b->K (.p (.bool t))|.neg,.p (.int k n)=>∃c,k.wrap (0-n)=c/\K (.p (.int k c))|.xor,.p (.int k n)=>∃c,yO .xor k (match k.signed with|true=>-1|false=>k.max) n=c/\K (.p (.int k c))|_,_=>False
def cQ.plain:cQ->FV|.val x=>.p x|.fresh _ _ xs=>.p (.sl xs)|.vf x=>x|.own rest _ _ xss=>match rest with|none=>.p (.sl xss)|some r=>.p (.eV (.sl xss::r))
def Av (C:Ctx)(f:FV)(args:List FV)(K:FV->Prop):Prop:=match f with
 |.p (.fn (.func g) first captured)=>match FV.fD args with|some xs=>∃R,ak C g (first++xs++captured) R/\∀r,R r->K r.plain|none=>False
 |.fn (.func g) first captured=>match FV.fD (first++args++captured)with|some xs=>∃R,ak C g xs R/\∀r,R r->K r.plain|none=>False
 |_=>False
def Vz (C:Ctx)(sh:Shape)(xs:Option (List (List AV)))(K:FV->Prop):Prop:=match sh,xs with
 |.slice e,some xs=>match bU C.jG e with|some ⟨1,_,.int .u8,_⟩=>∃bs:List UInt8,xs=bs.map (λb=>[AV.int .u8 (b.toNat:Int)])/\K (.p (.str bs))|_=>False
 |_,_=>False
def SZ (C:Ctx)(src dst:TypeId)(v:FV)(K:FV->Prop):Prop:=match bU C.jG src with
 |none=>False
 |some ⟨_,_,sh,_⟩=>match bU C.jG dst with
  |some ⟨_,_,.int k,_⟩=>match v with|.p (.int _ n)=>∃c,k.wrap n=c/\K (.p (.int k c))|_=>False
  |some ⟨_,_,.str,_⟩=>match v with|.p (.str s)=>K (.p (.str s))|.p (.int _ n)=>∃c:UInt8,n=(c.toNat:Int)/\c.toNat<128/\K (.p (.str [c]))|v=>Vz C sh v.elems K
  |_=>False
def ew (C:Ctx)(S:ai)(op:Op)(K:FV->Prop):Prop:=match op with
 |.move x=>force (S.val x) K
 |.assign x=>force (S.val x) K
 |.pick c a b=>match S.val c with|.p (.bool true)=>force (S.val a) K|.p (.bool false)=>force (S.val b) K|_=>False
 |.binOp op t x y _=>match Ng y with|true=>BC C t op (S.val x) K|false=>match Nh y with|true=>Ni C t op (S.val x) K|false=>HR C t op (S.val x) (S.val y) K
 |.unOp op _ x=>SY op (S.val x) K
 |.convert src dst x=>SZ C src dst (S.val x) K
 |.makeInterface t x=>match bU C.jG t with
  |some ⟨_,_,.iface,_⟩=>False
  |some _=>match(S.val x).fh with|some y=>K (.p (.iface t y))|none=>False
  |none=>False
 |.makeFunc fn first captured=>pX (first.toList.map S.val) λa=>pX (captured.toList.map S.val) λb=>K (.fn fn a b)
 |.build t parts=>Hr C S t parts.toList K
 |.buildSlice t len parts=>lW C S t len parts.toList K
 |.load t a=>nt C S.aN t (S.val a) K
 |.nilCheck x=>match S.val x with|.ptr b off=>K (.ptr b off)|.p (.imp xs)=>K (.p (.imp xs))|.ij o base off=>K (.ij o base off)|.p (.fn (.func f) a b)=>K (.p (.fn (.func f) a b))|.fn (.func f) a b=>K (.fn (.func f) a b)|_=>False
 |.fieldAddr s x f=>nu C s (S.val x) f K
 |.field s x f=>wR C s (S.val x) f K
 |.indexAddr t x i=>jB C S.aN t (S.val x) (S.val i) K
 |.index t x i=>wT C t (S.val x) (S.val i) K
 |.lookup t x i ok=>HW C S.maps t (S.val x) (S.val i) ok K
 |.slice t x lo hi none=>Nj C t (S.val x) (lo.map S.val) (hi.map S.val) K
 |.extract x i=>match S.val x with
  |.eV xs=>match fT i xs with|y::_=>K y|[]=>False
  |.p (.eV xs)=>match fT i xs with|y::_=>K (.p y)|[]=>False
  |_=>False
 |.call c=>match c.callee with|.builtin b=>jJ C S.aN b (c.args.toList.map S.val) c.argTypes.toList K|.value f=>Av C (S.val f) (c.args.toList.map S.val) K|.invoke _ _=>False
 |_=>False
def FZ:List Nat->(ai->Prop)->ai->Prop|[],K,S=>K S|d::ds,K,S=>match Ba S.aN d with|none=>False|some cells=>match FV.fD cells with|none=>False|some ys=>match uJ ys with|true=>FZ ds K (S.BB d ys)|false=>False
def Ga (C:Ctx)(S:ai)(e:TypeId)(len:Nat)(parts:List (Nat×Operand))(K:List FV->Nat->Prop):Prop:=match bU C.jG e with
 |none=>False
 |some j=>match Nat.ble (len*j.size) 1000000,Nat.beq j.size 0 with
  |true,false=>match fK j.size S parts (ov len (j.zero.map FV.gP))with
   |some cs=>match ji cs with|false=>False|true=>pX cs λcs=>K cs j.size
   |none=>False
  |_,_=>False
def zc (C:Ctx)(S:ai)(e:TypeId)(d len:Nat)(parts:List (Nat×Operand))(K:ai->Prop):Prop:=Ga C S e len parts λcs z=>sQ S d λnm=>K ({S.kill nm with aN:=(nm,FV.eL nm cs)::en nm S.aN}.put (some d) (.fe nm e z))
def Ta (C:Ctx)(S:ai)(t:TypeId)(d:Nat)(len cap:FV)(K:ai->Prop):Prop:=match bU C.jG t with
 |some ⟨_,_,.slice e,_⟩=>match bU C.jG e with
  |some ⟨1,bytes,_,[z]⟩=>match len,cap with|.p (.int _ n),.p (.int _ n')=>∃m:Nat,n=m/\n'=m/\bytes*m<=281474976710656/\m<=9223372036854775807/\sQ S d λnm=>∃cs,FV.eL nm (List.replicate m (FV.gP z))=cs/\K ({S.kill nm with aN:=(nm,cs)::en nm S.aN}.put (some d) (.fe nm e 1))|_,_=>False
  |_=>False
 |_=>False
def Tb (C:Ctx)(t:TypeId)(dst:Option Nat)(S:ai)(k:Nat)(T:TypeId)(bP:Nat)(hi:FV)(K:ai->Prop):Prop:=match dst,bU C.jG t,hi with
 |some d,some ⟨_,_,.slice e,_⟩,.p (.int _ n)=>match bU C.jG e with|none=>False|some j=>match Nat.beq bP j.size,Ba S.aN k with|true,some xs=>∃m N:Nat,n=m/\xs.length=N*bP/\m<=N/\∃zs,FV.eL k (xs.take (m*bP))=zs/\K ({S.kill k with aN:=(k,zs)::en k S.aN}.put (some d) (.fe k T bP))|_,_=>False
 |_,_,_=>False
def EN (C:Ctx)(S:ai)(src dst:TypeId)(d:Nat)(s:List UInt8)(K:ai->Prop):Prop:=match bU C.jG src,bU C.jG dst with
 |some ⟨_,_,.str,_⟩,some ⟨_,_,.slice e,_⟩=>match bU C.jG e with|some ⟨1,_,.int .u8,_⟩=>wU S d λnm=>K ((S.kill nm).put (some d) (.eH nm e 1 (s.map λb=>[AV.int .u8 (b.toNat:Int)])))|_=>False
 |_,_=>False
def VA (C:Ctx)(dst:Option Nat)(S:ai)(src ty:TypeId)(x:Operand)(K:ai->Prop):Prop:=match bU C.jG ty,dst with
 |some ⟨_,_,.slice _,_⟩,some d=>match S.val x with|.p (.str s)=>EN C S src ty d s K|_=>False
 |_,_=>ew C S (.convert src ty x) λv=>K (S.put dst v)
def Nn (C:Ctx)(t u d:TypeId)(S:ai)(y:FV)(K:ai->Prop):Prop:=match bU C.jG t,bU C.jG u with
 |some ⟨_,_,.slice e,_⟩,some ui=>match ui.shape.FX with|false=>False|true=>match bU C.jG e with|none=>False|some j=>match y.items,Nat.beq j.bytes 0,Nat.beq j.size 0 with|some ys,false,false=>ys≠[]/\(∀zs,zs∈ys->zs.length=j.size)/\ys.length*j.bytes<=140737488355328/\sQ S d λnm=>∃zs,aH ys.flatten=zs/\K ({S.kill nm with aN:=(nm,zs)::en nm S.aN}.put (some d) (.fe nm e j.size))|_,_,_=>False
 |_,_=>False
def Tc (C:Ctx)(t u d:TypeId)(S:ai)(x y:FV)(K:ai->Prop):Prop:=match iF d C.ex.opens with
 |true=>match x with|.full []=>Nn C t u d S y K|x=>tX C t u d S x y K
 |false=>tX C t u d S x y K
def Td (C:Ctx)(t:TypeId)(x h m:FV)(K:FV->Prop):Prop:=match bU C.jG t with
 |some ⟨_,_,.slice e,_⟩=>match bU C.jG e with|none=>False|some _=>match x.elems,h,m with|some _,.p (.int _ a),.p (.int _ b)=>a=0/\b=0/\K (.full [])|_,_,_=>False
 |_=>False
def No (C:Ctx)(t:TypeId)(dst:Option Nat)(S:ai)(k:Nat)(T:TypeId)(bP:Nat)(lo:FV)(K:ai->Prop):Prop:=match dst,bU C.jG t,lo with
 |some d,some ⟨_,_,.slice e,_⟩,.p (.int _ n)=>match bU C.jG e with|none=>False|some j=>match Nat.beq bP j.size,Ba S.aN k with|true,some xs=>∃m N:Nat,n=m/\xs.length=N*bP/\m<=N/\K (S.put (some d) (.uH k m T bP))|_,_=>False
 |_,_,_=>False
def Np (C:Ctx)(t:TypeId)(dst:Option Nat)(S:ai)(x:FV)(K:ai->Prop):Prop:=match x with
 |.uH k b T bP=>match bU C.jG t with
  |some ⟨_,_,.slice e,_⟩=>match bU C.jG e with|none=>False|some j=>match Nat.beq bP j.size,Ba S.aN k with|true,some xs=>ji (j.zero.map FV.gP)=true/\∃N:Nat,xs.length=(b+N)*bP/\∃zs,xs.take (b*bP)++ov N (j.zero.map FV.gP)=zs/\K ((S.Cw k zs).put dst (.p (.eV [])))|_,_=>False
  |_=>False
 |_=>False
def PN (C:Ctx)(dst:Option Nat)(S:ai)(t:TypeId)(x:Operand)(lo hi mx:Option Operand)(K:ai->Prop):Prop:=match S.val x with
 |.fe k T bP=>match lo,hi,mx with|none,some h,none=>Tb C t dst S k T bP (S.val h) K|some l,none,none=>No C t dst S k T bP (S.val l) K|_,_,_=>False
 |v=>match lo,hi,mx with|none,some h,some m=>Td C t v (S.val h) (S.val m) λv=>K (S.put dst v)|_,_,_=>ew C S (.slice t x lo hi mx) λv=>K (S.put dst v)
mutual def FV.KH (d E:Nat)(rL:List (List AV)):FV->FV
 |.ptr o off=>match Nat.beq o d with|true=>.dF|false=>.ptr o off
 |.ij o b off=>match Nat.beq o d with|true=>.dF|false=>.ij o b off
 |.fe o T e=>match Nat.beq o d with
  |true=>match Nat.beq e E with|true=>.eH o T e rL|false=>.dF
  |false=>.fe o T e
 |.uH o x T e=>match Nat.beq o d with|true=>.dF|false=>.uH o x T e
 |.eH t T e xs=>match Nat.beq t d with|true=>.p (.sl xs)|false=>.eH t T e xs
 |.agg xs=>.agg (FV.CA d E rL xs)
 |.eV xs=>.eV (FV.CA d E rL xs)
 |.fn f first captured=>.fn f (FV.CA d E rL first) (FV.CA d E rL captured)
 |.p x=>.p x
 |.full xs=>.full xs
 |.ni l=>match Nat.beq l d with|true=>.dF|false=>.ni l
 |.fI o=>match Nat.beq o d with|true=>.dF|false=>.fI o
 |.Bh o=>match Nat.beq o d with|true=>.dF|false=>.Bh o
 |.dF=>.dF def FV.CA (d E:Nat)(rL:List (List AV)):List FV->List FV|[]=>[]|x::xs=>FV.KH d E rL x::FV.CA d E rL xs end
theorem FV.wW (d E:Nat)(rL:List (List AV))(xs:List FV):FV.CA d E rL xs=xs.map (FV.KH d E rL):=by
 induction xs with
 |nil=>simp[FV.CA]
 |cons x xs ih=>simp[FV.CA,ih]
def Aw (d E:Nat)(rL:List (List AV)):List (Nat×List FV)->List (Nat×List FV)|[]=>[]|(u,i)::r=>match Nat.beq u d with|true=>Aw d E rL r|false=>(u,FV.CA d E rL i)::Aw d E rL r
def ai.PO (S:ai)(d E:Nat)(rL:List (List AV)):ai:={S with tmps:=λi=>(S.tmps i).KH d E rL,aN:=Aw d E rL S.aN,bG:=zb (FV.KH d E rL) S.bG,cL:=Ct d S.cL,maps:=yx (FV.KH d E rL) (vM d S.maps),iM:=vM d S.iM}
structure ail (S:ai)(d E:Nat)(rL:List (List AV)):Prop where
 obj:∃cells,Ba S.aN d=some cells/\FV.fD cells=some rL.flatten
 each:∀ys,ys∈rL->ys.length=E/\∀y,y∈ys->y.one=true
def HX (C:Ctx)(call:iw)(Y:pE)(o:Oper)(K:ai->Prop)(S:ai):Prop:=match o.op with
 |.makeFunc fn first captured=>∃fr:List Nat,FZ fr (λS=>pX (first.toList.map S.val) λa=>pX (captured.toList.map S.val) λb=>K (S.put o.dst (.fn fn a b))) S
 |.buildSlice t len parts=>match o.dst,bU C.jG t with
  |some d,some ⟨_,_,.slice e,_⟩=>match iF d C.ex.opens with
   |true=>zc C S e d len parts.toList K
   |false=>lW C S t len parts.toList λv=>match v with
    |.full xs=>match bU C.jG e with|none=>False|some j=>wU S d λnm=>K ((S.kill nm).put (some d) (.eH nm e j.size xs))
    |_=>False
  |_,_=>False
 |.alloc t=>match o.dst,bU C.jG t with
  |some d,some i=>match Nat.beq t C.bT,i.zero with|true,[.pointer none,.slice none 0 0]=>Nk S d K|_,_=>pX (i.zero.map FV.gP) λcs=>Ht S d cs K
  |_,_=>False
 |.box t x=>match o.dst,bU C.jG t with
  |some d,some i=>match Nat.beq (S.val x).cells.length i.size with
   |true=>match ji (S.val x).cells with|true=>pX (S.val x).cells λcs=>Ht S d cs K|false=>False
   |false=>False
  |_,_=>False
 |.store t a x=>match bU C.jG t,S.val a with
  |some i,.ptr ob off=>match getObj S.aN ob with
   |none=>False
   |some cells=>match Nat.beq (S.val x).cells.length i.size with
    |true=>match ji (S.val x).cells with
     |true=>match gD cells off (S.val x).cells with|some cs=>pX cs λcs=>K ((S.Cw ob cs).put o.dst (.p (.eV [])))|none=>False
     |false=>False
    |false=>False
  |some i,.ij ob base off=>match getObj S.aN ob with
   |none=>False
   |some cells=>match Nat.beq (S.val x).cells.length i.size with
    |true=>match ji (S.val x).cells with|true=>∃A ys B:List FV,cells=A++(ys++B)/\A.length=base/\(match gD ys off (S.val x).cells with|some zs=>pX zs λzs=>∃cs,A++(zs++B)=cs/\K ((S.Cw ob cs).put o.dst (.p (.eV [])))|none=>False)|false=>False
    |false=>False
  |_,_=>False
 |.makeMap _ none=>match o.dst with|some d=>Nl S d K|none=>False
 |.makeSlice t len cap=>match o.dst with|some d=>Ta C S t d (S.val len) (S.val cap) K|none=>False
 |.mapUpdate t m k x=>Vy C S o.dst t (S.val m) (S.val k) (S.val x) K
 |.insert t m k x=>Vy C S o.dst t (S.val m) (S.val k) (S.val x) K
 |.slice t x lo hi mx=>PN C o.dst S t x lo hi mx K
 |.convert src ty x=>VA C o.dst S src ty x K
 |.call c=>match c.callee with
  |.builtin .append=>match c.args.toList.map S.val,c.argTypes.toList,o.dst with
   |[x,y],[t,u],some d=>match y with|.fe o2 T2 e2=>SV C t u d S x o2 T2 e2 K|y=>Tc C t u d S x y K
   |_,_,_=>False
  |.builtin .clear=>match c.args.toList.map S.val,c.argTypes.toList with|[x],[t]=>Np C t o.dst S x K|_,_=>False
  |.builtin b=>jJ C S.aN b (c.args.toList.map S.val) c.argTypes.toList λv=>K (S.put o.dst v)
  |.value f=>ZM C call Y S o.dst (S.val f) (c.args.toList.map S.val) K
  |.invoke _ _=>False
 |op=>ew C S op λv=>K (S.put o.dst v)
def HY:Bool->Bool->Bool|true,b=>b|false,true=>false|false,false=>true
theorem oI (a b:Bool):HY a b=(a==b):=by cases a<;>cases b<;>rfl
def pK (C:Ctx)(call:iw)(Y:pE)(ops:Array Oper):List Oper->(ai->Prop)->ai->Prop
 |[],K,S=>K S
 |o::rest,K,S=>match o.guard with
  |none=>HX C call Y o (pK C call Y ops rest K) S
  |some (j,want)=>match(ops[j]?).bind (·.dst)with
   |none=>False
   |some d=>match S.get d with
    |.p (.bool b)=>match HY b want with|true=>HX C call Y o (pK C call Y ops rest K) S|false=>pK C call Y ops rest K (S.put o.dst (.p (.eV [])))
    |.p (.eV [])=>pK C call Y ops rest K (S.put o.dst (.p (.eV [])))
    |_=>False
def Kv (C:Ctx)(ops:Array Oper):List Oper->(ai->Prop)->ai->Prop
 |[],K,S=>K S
 |o::rest,K,S=>match o.guard with
  |none=>∃v,ew C S o.op (λu=>u=v)/\Kv C ops rest K (S.put o.dst v)
  |some (j,want)=>match(ops[j]?).bind (·.dst)with
   |none=>False
   |some d=>match S.get d with
    |.p (.bool b)=>match HY b want with|true=>∃v,ew C S o.op (λu=>u=v)/\Kv C ops rest K (S.put o.dst v)|false=>Kv C ops rest K (S.put o.dst (.p (.eV [])))
    |.p (.eV [])=>Kv C ops rest K (S.put o.dst (.p (.eV [])))
    |_=>False
def dstsOf:List Oper->List Nat|[]=>[]|o::os=>match o.dst with|some d=>d::dstsOf os|none=>dstsOf os
def ai.sG (S:ai)(ds:List Nat):ai:={S with tmps:=λi=>match iF i ds with|true=>.dF|false=>S.tmps i}
def uK (K:ai->Prop)(Q:Exit->ai->Prop):Exit->ai->Prop|.normal,S=>K S|e,S=>Q e S
def HZ (id:Nat)(Q:Exit->ai->Prop):Exit->ai->Prop
 |.exit n,S=>match Nat.beq n id with|true=>Q .normal S|false=>Q (.exit n) S
 |e,S=>Q e S
def guarded:List Oper->Bool|[]=>false|o::os=>match o.guard with|some _=>true|none=>guarded os
def mT:List Oper->List Nat
 |[]=>[]
 |[o]=>match o.dst with|some d=>[d]|none=>[]
 |o::os=>match o.op,o.dst with|.assign _,some d=>d::mT os|_,_=>mT os
def getAll (S:ai):List Nat->List FV|[]=>[]|r::rs=>S.get r::getAll S rs
def BD (K:ai->Prop):ai->List Nat->(List FV->Prop)->Prop|S,[],φ=>Al λ_:φ []=>K S|S,r::rs,φ=>Al λv=>BD K (S.put (some r) v) rs λvs=>φ (v::vs)
def wX (ops:Array Oper):Nat->Nat->Nat->Bool|0,_,_=>false|fuel+1,j,i=>match ops[j]?with|none=>false|some o=>o.after.toList.any λe=>Region.binds .any e&&(e.on==i||wX ops fuel e.on i)
def VB (ops:Array Oper)(q:Nat->Bool)(listed:Array Bool)(k:Nat):Bool:=match ops[k]?with|none=>false|some o=>(List.range ops.size).all λj=>j==k||listed.getD j true||wX ops ops.size j k||(q j&&match ops[j]?with|none=>true|some oj=>o.apart ops oj)
def tZ (ops:Array Oper)(m:Nat):Nat->Nat->Array Bool->Bool|0,_,listed=>(Region.ready .any ops listed).isEmpty|fuel+1,k,listed=>(match decide (k<m)with|true=>(Region.ready .any ops listed).contains k&&VB ops (λj=>decide (j<m)) listed k|false=>Region.ready .any ops listed==[k])&&tZ ops m fuel (k+1) (listed.setIfInBounds k true)
def BE (ops:Array Oper)(m:Nat):Bool:=decide (m<=ops.size)&&Region.noSelect ops&&tZ ops m ops.size 0 (Array.replicate ops.size false)
mutual def FV.safe (pr:List Nat):FV->Bool
 |.p _=>true
 |.agg xs=>FV.uL pr xs
 |.eV xs=>FV.uL pr xs
 |.ptr o _=>iF o pr
 |.eH t _ _ _=>iF t pr
 |.full _=>true
 |.fn _ a b=>match FV.uL pr a with|true=>FV.uL pr b|false=>false
 |.ni l=>iF l pr
 |.fe o _ _=>iF o pr
 |.uH o _ _ _=>iF o pr
 |.ij o _ _=>iF o pr
 |.fI o=>iF o pr
 |.Bh o=>iF o pr
 |.dF=>true def FV.uL (pr:List Nat):List FV->Bool|[]=>true|x::xs=>match FV.safe pr x with|true=>FV.uL pr xs|false=>false end
def opsL:Op->Option (List Operand)|.move x=>some [x]|.assign x=>some [x]|.pick c x y=>some [c,x,y]|.binOp _ _ x y _=>some [x,y]|.unOp _ _ x=>some [x]|.convert _ _ x=>some [x]|.load _ x=>some [x]|.nilCheck x=>some [x]|.fieldAddr _ x _=>some [x]|.field _ x _=>some [x]|.indexAddr _ x i=>some [x,i]|.index _ x i=>some [x,i]|.slice _ x lo hi none=>some (x::(lo.toList++hi.toList))|.extract x _=>some [x]|.call ⟨.value f,args,_⟩=>some (f::args.toList)|.call ⟨.builtin _,args,_⟩=>some args.toList|.build _ parts=>some (parts.toList.map (·.2))|.buildSlice _ _ parts=>some (parts.toList.map (·.2))|_=>none
def ze (pr:List Nat)(S:ai):List Operand->Bool|[]=>true|z::zs=>match(S.val z).safe pr with|true=>ze pr S zs|false=>false
def yy (pr:List Nat)(S:ai)(op:Op)(v:FV):Bool:=match opsL op with|none=>false|some zs=>match ze pr S zs with|true=>v.safe pr|false=>false
def Lv (pr:List Nat)(k:Nat):FV->Bool|.eH t _ _ _=>!iF t pr|.full _=>!iF k pr|_=>false
def oJ (pr:List Nat)(S:ai)(dst:Option Nat):Op->Bool
 |.alloc _=>match dst with|some d=>!iF (S.off+d) pr|none=>false
 |.store _ a _=>match S.val a with|.ptr ob _=>!iF ob pr|_=>false
 |.call ⟨.builtin .append,args,_⟩=>match args.toList.map S.val,dst with
  |[x,y],some d=>match y with|.fe _ _ _=>false|_=>Lv pr (S.off+d) x
  |_,_=>false
 |_=>false
inductive KI where|fin|one (k:Nat)(p:KI)|alt (k:Nat)(p r:KI)|stop
def KI.VC:KI->List Nat|.alt k _ r=>k::r.VC|_=>[]
structure rX where
 calm:List Nat
 akt:List Nat
 aku:List Nat
 pr:List Nat
def rX.of (c:rX)(i:Nat):Nat:=match iF i c.calm with|true=>1|false=>match iF i c.akt with|true=>2|false=>match iF i c.aku with|true=>3|false=>0
def ow (ops:Array Oper)(c:rX):KI->Bool->Nat->Array Bool->Bool
 |.fin,top,_,listed=>top&&(Region.ready .any ops listed).isEmpty
 |.stop,top,_,_=>!top
 |.one k p,top,fuel,listed=>top&&match fuel with|0=>false|fuel+1=>Nat.ble (c.of k) 1&&(Region.ready .any ops listed).contains k&&VB ops (λj=>Nat.ble (c.of j) (c.of k+1)) listed k&&ow ops c p true fuel (listed.setIfInBounds k true)
 |.alt k p r,top,fuel,listed=>(!top||Region.ready .any ops listed==(k::r.VC))&&match fuel with|0=>false|fuel'+1=>ow ops c p true fuel' (listed.setIfInBounds k true)&&ow ops c r false fuel listed
def agI (C:Ctx)(ops:Array Oper)(pr:List Nat)(o:Oper)(K:ai->Prop)(S:ai):Prop:=match o.guard with
 |none=>∃v,ew C S o.op (λu=>u=v)/\yy pr S o.op v=true/\K (S.put o.dst v)
 |some (j,want)=>match(ops[j]?).bind (·.dst)with
  |none=>False
  |some d=>match S.get d with
   |.p (.bool b)=>match HY b want with|true=>∃v,ew C S o.op (λu=>u=v)/\yy pr S o.op v=true/\K (S.put o.dst v)|false=>K (S.put o.dst (.p (.eV [])))
   |.p (.eV [])=>K (S.put o.dst (.p (.eV [])))
   |_=>False
def agJ (C:Ctx)(call:iw)(Y:pE)(ops:Array Oper)(pr:List Nat)(o:Oper)(K:ai->Prop)(S:ai):Prop:=match o.guard with
 |none=>oJ pr S o.dst o.op=true/\HX C call Y o K S
 |some (j,want)=>match(ops[j]?).bind (·.dst)with
  |none=>False
  |some d=>match S.get d with
   |.p (.bool b)=>match HY b want with|true=>oJ pr S o.dst o.op=true/\HX C call Y o K S|false=>K (S.put o.dst (.p (.eV [])))
   |.p (.eV [])=>K (S.put o.dst (.p (.eV [])))
   |_=>False
def zf (C:Ctx)(call:iw)(Y:pE)(ops:Array Oper)(c:rX)(k:Nat)(K:ai->Prop)(S:ai):Prop:=match ops.toList[k]?with|none=>False|some o=>match c.of k with|0=>Kv C ops [o] K S|1=>agI C ops c.pr o K S|2=>agJ C call Y ops c.pr o K S|_=>pK C call Y ops [o] K S
def ox (C:Ctx)(call:iw)(Y:pE)(ops:Array Oper)(c:rX)(K:ai->Prop):KI->ai->Prop|.fin,S=>K S|.stop,_=>True|.one k p,S=>zf C call Y ops c k (ox C call Y ops c K p) S|.alt k p r,S=>match r with|.stop=>zf C call Y ops c k (ox C call Y ops c K p) S|_=>zf C call Y ops c k (ox C call Y ops c K p) S/\ox C call Y ops c K r S
inductive How where|lex (m:Nat)|keep (φ:List FV->Prop)|plan (c:rX)(p:KI)(T:Option ai)|sea (c:rX)(J:Array Bool->ai->Prop)
def lz (C:Ctx)(call:iw)(Y:pE)(ops:Array Oper)(draw:Bool)(K:ai->Prop)(S:ai):Prop:=match draw,guarded ops.toList with
 |false,false=>pK C call Y ops ops.toList K S
 |false,true=>∃φ:Option (List FV->Prop),match φ with|some φ=>Kv C ops ops.toList (λS'=>φ (getAll S' (mT ops.toList))) S/\BD K (S.sG (dstsOf ops.toList)) (mT ops.toList) φ|none=>pK C call Y ops ops.toList K S
 |true,_=>∃how:How,match how with
  |.lex m=>BE ops m=true/\Kv C ops (ops.toList.take m) (pK C call Y ops (ops.toList.drop m) K) S
  |.keep φ=>BE ops ops.size=true/\Kv C ops ops.toList (λS'=>φ (getAll S' (mT ops.toList))) S/\BD K (S.sG (dstsOf ops.toList)) (mT ops.toList) φ
  |.plan c p T=>ow ops c p true ops.size (Array.replicate ops.size false)=true/\match T with|none=>ox C call Y ops c K p S|some T=>ox C call Y ops c (λS'=>bM S' T) p S/\K T
  |.sea c J=>J (Array.replicate ops.size false) S/\(∀(listed:Array Bool)(S':ai)(k:Nat),J listed S'->k∈Region.ready .any ops listed->zf C call Y ops c k (J (listed.setIfInBounds k true)) S')/\∀(listed:Array Bool)(S':ai),J listed S'->Region.ready .any ops listed=[]->K S'
def ZN (m k y d0 d1 d2 d3 n:Nat):Bool:=ltB d0 n&&ltB d1 n&&ltB d2 n&&ltB d3 n&&!iF m [d0,d1,d2,d3]&&!iF k [d0,d1,d2,d3]&&!iF y [d0,d1,d2,d3]&&!iF d0 [d1,d2,d3]&&!iF d1 [d2,d3]&&!Nat.beq d2 d3
def Te (C:Ctx)(l:List Oper)(K:ai->Prop)(S:ai):Prop:=∃(t tx ty m k y d0 d1 d2 d3:Nat),l.map (·.op)=[.mapEntry t (.tmp m) (.tmp k),.extract (.tmp d0) 0,.call ⟨.builtin .append,#[.tmp d1,.tmp y],#[tx,ty]⟩,.extract (.tmp d0) 1,.entryStore t (.tmp m) (.tmp d3) (.tmp d2)]/\l.map (·.dst)=[some d0,some d1,some d2,some d3,none]/\l.map (·.guard)=[none,none,none,none,none]/\ZN m k y d0 d1 d2 d3 S.n=true/\match bU C.jG t,bU C.jG tx,bU C.jG ty with
 |some ⟨_,_,.map kT eT,_⟩,some ⟨_,_,.slice e,_⟩,some ui=>match ui.shape.FX,bU C.jG e,bU C.jG kT,S.get m with
  |true,some j,some ki,.fI ob=>match(S.get k).fh,(S.get y).items,getM S.maps ob,getM C.ex.KF ob with|some kk,some ys,some l,some (T,z,x)=>Nat.beq T e=true/\Nat.beq z j.size=true/\Nat.beq j.bytes 0=false/\x≠some kk/\(C.P.info? eT).map (·.zero)=some (some (.slice none 0 0))/\∃L,eM C.P 40 kT=some L/\gB ki.shape.isAgg L kk=true/\(∀p,p∈l->gB ki.shape.isAgg L p.1=true)/\(∀zs,zs∈ys->zs.length=j.size)/\∃old:List (List AV),(match rW kk l with|some v=>v=.p (.sl old)|none=>old=[])/\(∀zs,zs∈old->zs.length=j.size)/\(old.length+ys.length)*j.bytes<=140737488355328/\∃l',Cy kk (.p (.sl (old++ys))) l=l'/\K ((S.sG [d0,d1,d2,d3]).PD (vL S.maps ob l'))|_,_,_,_=>False
  |_,_,_,_=>False
 |_,_,_=>False
def Nq (C:Ctx)(call:iw)(Y:pE)(ops:Array Oper)(draw:Bool)(K:ai->Prop)(S:ai):Prop:=match draw with|true=>False|false=>pK C call Y ops (ops.toList.take (ops.toList.length-5)) (Te C (ops.toList.drop (ops.toList.length-5)) K) S
def Ia:List yN->Nat->Option yN|[],_=>none|p::_,0=>some p|_::r,n+1=>Ia r n
def Xj:List yN->Nat->yN->List yN|[],_,_=>[]|_::r,0,q=>q::r|p::r,n+1,q=>p::Xj r n q
def adP:List Fr->Nat->Option Fr|[],_=>none|p::_,0=>some p|_::r,n+1=>adP r n
def PR (f:Nat->FV):List Nat->List FV->Nat->FV|p::ps,x::xs=>PR (λi=>match Nat.beq i p with|true=>x|false=>f i) ps xs|_,_=>f
def ai.enter (S:ai)(n:Nat)(tmps:Nat->FV):ai:={n:=n,off:=S.off+1000,tmps:=tmps,aN:=S.aN,bG:=⟨S.n,S.off,S.tmps⟩::S.bG,bZ:=S.bZ,cL:=S.cL,maps:=S.maps,iM:=S.iM}
def ai.leave (S:ai)(K:ai->Prop):Prop:=match S.bG with|[]=>False|f::r=>K {n:=f.n,off:=f.off,tmps:=f.tmps,aN:=S.aN,bG:=r,bZ:=S.bZ,cL:=S.cL,maps:=S.maps,iM:=S.iM}
def wY (args:List FV):Nat->FV:=λi=>match args[i]?with|some x=>x|none=>.p (.eV [])
def zg (lvl:Nat)(st:yN)(K:ai->Prop)(S:ai):Prop:=match Ia S.bZ lvl with|some .busy=>ai.leave {S with bZ:=Xj S.bZ lvl st} K|_=>False
def ZO (lvl:Nat)(K:FV->ai->Prop):Exit->ai->Prop|.normal,S=>zg lvl .ready (K (.p (.bool true))) S|.ret,S=>zg lvl .Nd (K (.p (.bool false))) S|.exit id,S=>zg lvl (.HP id) (K (.p (.bool false))) S|_,_=>False
def VD (lvl:Nat)(K:ai->Prop)(S:ai):Prop:=match Ia S.bZ lvl with|some .ready=>K {S with bZ:=Xj S.bZ lvl .busy}|_=>False
def CB (lvl:Nat)(Q:Exit->ai->Prop)(S:ai):Prop:=match Ia S.bZ lvl with|some .ready=>Q .normal {S with bZ:=S.bZ.take lvl}|some .Nd=>Q .ret {S with bZ:=S.bZ.take lvl}|some (.HP id)=>Q (.exit id) {S with bZ:=S.bZ.take lvl}|_=>False
def ZP (S:ai)(depth:Nat):Option Fr:=adP S.bG (S.bG.length-depth-1)
def sR (Y:pE)(assign body:(Exit->ai->Prop)->ai->Prop)(ps:List Nat)(lvl depth:Nat):pE:=λl args K S1=>match Nat.beq l (1000000+lvl)with|false=>Y l args K S1|true=>match Ia S1.bZ lvl,ZP S1 depth with|some .ready,some fr=>Nat.beq args.length ps.length=true/\assign (uK (VD lvl (body (ZO lvl K))) λ_ _=>False) (S1.enter fr.n (PR fr.tmps ps args))|_,_=>False
def uM (C:Ctx)(call:iw)(Y:pE):Code->(Exit->ai->Prop)->ai->Prop
 |.skip,Q,S=>Q .normal S
 |.region id ops draw,Q,S=>match iF id C.aij with|true=>∃T,bM S T/\lz C call Y ops draw (Q .normal) T|false=>match iF (S.off+id) C.ex.BB with|true=>(∃(d E:Nat) (rL:List (List AV)),ail S d E rL/\lz C call Y ops draw (Q .normal) (S.PO d E rL))\/lz C call Y ops draw (Q .normal) S|false=>match iF (S.off+id) C.ex.frm with|true=>(∃(d:Nat) (ks vs:List AV),ZI S d ks vs/\lz C call Y ops draw (Q .normal) (S.PK d (.mp ks vs)))\/lz C call Y ops draw (Q .normal) S|false=>match iF (S.off+id) C.ex.fzo with|true=>∃fr:List Nat,FZ fr (λS=>lz C call Y ops draw (Q .normal) S) S|false=>match iF (S.off+id) C.ex.rmr with|true=>Nq C call Y ops draw (Q .normal) S|false=>lz C call Y ops draw (Q .normal) S
 |.seq a b,Q,S=>uM C call Y a (uK (uM C call Y b Q) Q) S
 |.cond c x y,Q,S=>match S.val c with|.p (.bool true)=>uM C call Y x Q S|.p (.bool false)=>uM C call Y y Q S|_=>False
 |.block id c,Q,S=>uM C call Y c (HZ id Q) S
 |.loop c,Q,S=>∃(α:Type) (I:α->ai->Prop) (μ:α->Nat),(∃a S',bM S S'/\I a S')/\∀a S,I a S->uM C call Y c (uK (λS'=>∃a' uE,bM S' uE/\I a' uE/\μ a'<μ a) Q) S
 |.rangeFunc g ps assign body,Q,S=>HS S.bZ.length λlvl=>HS S.bG.length λdep=>match S.val g with|.p (.fn (.func f) [] captured)=>call (sR Y (uM C call Y assign) (uM C call Y body) ps.toList lvl dep) f (.ni (1000000+lvl)::aH captured) (λ_ S'=>CB lvl Q S') {S.kill (1000000+lvl)with bZ:=S.bZ++[.ready]}|.fn (.func f) [] captured=>call (sR Y (uM C call Y assign) (uM C call Y body) ps.toList lvl dep) f (.ni (1000000+lvl)::FV.eL (1000000+lvl) captured) (λ_ S'=>CB lvl Q S') {S.kill (1000000+lvl)with bZ:=S.bZ++[.ready]}|_=>False
 |.exit id,Q,S=>Q (.exit id) S
 |.ret,Q,S=>Q .ret S
 |_,_,_=>False
def yz (ntmps:Nat)(args:List AV):ai:={n:=ntmps,tmps:=λi=>match(args)[i]?with|some x=>.p x|none=>.p (.eV []),off:=0,aN:=[],bG:=[],bZ:=[],cL:=[]}
def mN (C:Ctx)(S:ai):List ResultVar->(List AV->Prop)->Prop
 |[],K=>K []
 |.tmp t::rest,K=>match(S.get t).fh with|some x=>mN C S rest λxs=>K (x::xs)|none=>False
 |.cell a t::rest,K=>nt C S.aN t (S.get a) λv=>match v.fh with|some x=>mN C S rest λxs=>K (x::xs)|none=>False
def sH (C:Ctx)(S:ai):List ResultVar->(List FV->Prop)->Prop|[],K=>K []|.tmp t::rest,K=>sH C S rest λxs=>K (S.get t::xs)|.cell a t::rest,K=>nt C S.aN t (S.get a) λv=>sH C S rest λxs=>K (v::xs)
def Nr:List FV->FV|[v]=>v|vs=>.eV vs
def PS (C:Ctx)(rs:List ResultVar)(K:FV->ai->Prop):Exit->ai->Prop|.normal,S=>sH C S rs λvs=>S.leave (K (Nr vs))|.ret,S=>sH C S rs λvs=>S.leave (K (Nr vs))|_,_=>False
def ZQ (C:Ctx):Nat->iw|0=>λ_ _ _ _ _=>False|k+1=>λY g args K S=>∃fn,C.P.funcs[g]?=some fn/\fn.body.isSome=true/\(fn.name== "runtime.NumGoroutine")=false/\Nat.ble args.length fn.ntmps=true/\uM C (ZQ C k) Y (match fn.body with|some c=>c|none=>.skip) (PS C fn.results.toList K) (S.enter fn.ntmps (wY args))
def jC:pE:=λ_ _ _ _=>False
def ev (C:Ctx):Code->(Exit->ai->Prop)->ai->Prop:=uM C (ZQ C 6) jC
def ZR (S:ai)(o bP:Nat)(K:List (List AV)->Prop):Prop:=∃xss:List (List AV),(∀ys,ys∈xss->ys.length=bP/\∀y,y∈ys->y.one=true)/\(match Ba S.aN o with|some cells=>FV.fD cells=some xss.flatten|none=>False)/\K xss
def zh (C:Ctx)(rs:List ResultVar)(R:cQ->Prop)(S:ai):Prop:=match C.ex.full with
 |true=>sH C S rs λvs=>match FV.uL [] vs with|true=>R (.vf (Nr vs))|false=>False
 |false=>match rs with
  |[.tmp t]=>match S.get t with|.eH _ T bP xs=>R (.fresh T bP xs)\/R (.val (.sl xs))|.full []=>(∃T bP,R (.fresh T bP []))\/R (.val (.sl []))|.fI o=>∃ks vs:List AV,ZI S o ks vs/\R (.val (.mp ks vs))|.fe o T bP=>ZR S o bP λxss=>R (.own none T bP xss)|x=>match x.fh with|some y=>R (.val y)|none=>False
  |[.cell a t]=>nt C S.aN t (S.get a) λv=>match v.fh with|some y=>R (.val y)|none=>False
  |.tmp t::r1::rest=>match S.get t with|.fe o T bP=>mN C S (r1::rest) λys=>ZR S o bP λxss=>R (.own (some ys) T bP xss)|_=>mN C S (.tmp t::r1::rest) λxs=>R (.val (.eV xs))
  |rs=>mN C S rs λxs=>R (.val (.eV xs))
def uN (C:Ctx)(rs:List ResultVar)(R:cQ->Prop):Exit->ai->Prop|.normal,S=>zh C rs R S|.ret,S=>zh C rs R S|_,_=>False
def VE (ntmps:Nat)(cells args:List AV):ai:={n:=ntmps,tmps:=wY (.ptr 999999 0::aH args),off:=0,aN:=[(999999,aH cells)],bG:=[],bZ:=[],cL:=[]}
def Ay (C:Ctx)(rs:List ResultVar)(n:Nat)(R:AV->List AV->Prop)(S:ai):Prop:=sH C S rs λvs=>match(Nr vs).fh,getObj S.aN 999999 with
 |some r,some cells=>match FV.fD cells with|some ys=>Nat.beq ys.length n=true/\R r ys|none=>False
 |_,_=>False
def PT (C:Ctx)(rs:List ResultVar)(n:Nat)(R:AV->List AV->Prop):Exit->ai->Prop|.normal,S=>Ay C rs n R S|.ret,S=>Ay C rs n R S|_,_=>False
def VF (ntmps:Nat)(bs:List UInt8)(args:List AV):ai:={n:=ntmps,tmps:=wY (.ptr 999999 0::aH args),off:=0,aN:=[],bG:=[],bZ:=[],cL:=[(999999,bs)]}
end Qv
