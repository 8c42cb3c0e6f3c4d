/- Part 19 of the proof: its lemmas. No condition. -/
import Derived.Test.YtlbofhenpfnenaaGreatDoorU18
import Derived.OpenShut
import Derived.RowKit
import Derived.ChangeBears
set_option maxRecDepth 10000
set_option maxHeartbeats 80000000
set_option linter.all false
namespace Qv
open Go Go.RowKit
theorem ag {C:Ctx}{f:FuncId}{fn:Func}{args:List AV}{R:cQ->Prop}(hf:C.P.funcs[f]?=some fn)(hb:fn.body.isSome=true)(hname:(fn.name== "runtime.NumGoroutine")=false)(hlen:Nat.ble args.length fn.ntmps=true)(h:ev C (match fn.body with|some c=>c|none=>.skip) (uN C fn.results.toList R) (yz fn.ntmps args)):ak C f args R:=by obtain⟨c,hc⟩:=mg.1 hb;rw[hc]at h;exact KU hf hc hname (gT hlen) h
theorem dM {C:Ctx}(l:List Nat){f:FuncId}{fn:Func}{args:List AV}{R:cQ->Prop}(hf:C.P.funcs[f]?=some fn)(hb:fn.body.isSome=true)(hname:(fn.name== "runtime.NumGoroutine")=false)(hlen:Nat.ble args.length fn.ntmps=true)(h:ev (C.cut l) (match fn.body with|some c=>c|none=>.skip) (uN (C.cut l) fn.results.toList R) (yz fn.ntmps args)):ak C f args R:=ag (C:=C.cut l) hf hb hname hlen h
theorem ak.cut {C:Ctx}{l:List Nat}{f:FuncId}{args:List AV}{R:cQ->Prop}(h:ak C f args R):ak (C.cut l) f args R:=h
theorem bn {C:Ctx}(e:Extra)(l:List Nat){f:FuncId}{fn:Func}{args:List AV}{R:cQ->Prop}(hf:C.P.funcs[f]?=some fn)(hb:fn.body.isSome=true)(hname:(fn.name== "runtime.NumGoroutine")=false)(hlen:Nat.ble args.length fn.ntmps=true)(h:ev ((C.cut l).open e) (match fn.body with|some c=>c|none=>.skip) (uN ((C.cut l).open e) fn.results.toList R) (yz fn.ntmps args)):ak C f args R:=ag (C:=(C.cut l).open e) hf hb hname hlen h
theorem ak.dN {C:Ctx}{e:Extra}{l:List Nat}{f:FuncId}{args:List AV}{R:cQ->Prop}(h:ak C f args R):ak ((C.cut l).open e) f args R:=h
theorem Du {C:Ctx}(e:Extra)(l:List Nat){f:FuncId}{fn:Func}{cells args:List AV}{R:AV->List AV->Prop}(hf:C.P.funcs[f]?=some fn)(hb:fn.body.isSome=true)(hname:(fn.name== "runtime.NumGoroutine")=false)(hlen:Nat.ble (args.length+1) fn.ntmps=true)(h:ev ((C.cut l).open e) (match fn.body with|some c=>c|none=>.skip) (PT ((C.cut l).open e) fn.results.toList cells.length R) (VE fn.ntmps cells args)):HO C f cells args R:=by obtain⟨c,hc⟩:=mg.1 hb;rw[hc]at h;exact QV (C:=(C.cut l).open e) hf hc hname (gT hlen) h
theorem HO.dN {C:Ctx}{e:Extra}{l:List Nat}{f:FuncId}{cells args:List AV}{R:AV->List AV->Prop}(h:HO C f cells args R):HO ((C.cut l).open e) f cells args R:=h
theorem dL {S:ai}(n:Nat)(rel:List (Nat×FV))(aN:List (Nat×List FV)){K:ai->Prop}(hn:(n,0,[],[])=(S.n,S.off,S.bZ,S.bG))(h1:yP S.tmps rel)(h2:Bd S.aN aN)(h:K (sg n 0 rel aN [] [])):∃T,bM S T/\K T:=by injection hn with e1 e2;injection e2 with e2 e3;injection e3 with e3 e4;exact⟨_,bw (cL:=[]) (by simp_all) h1 h2 (by rw[<-e4];trivial) trivial,h⟩
theorem wrap64 {n:Int}(h1:-9223372036854775808<=n)(h2:n<=9223372036854775807):IntKind.i64.wrap n=n:=by simp[IntKind.wrap,IntKind.bits,IntKind.signed];omega
theorem aaD {n:Int}(h1:0<=n)(h2:n<=255):IntKind.u8.wrap n=n:=by simp[IntKind.wrap,IntKind.bits,IntKind.signed];omega
abbrev Bytes:=List UInt8
def oA (s:Bytes):List AV:=[.str s]
def Hf (l:List Bytes):AV:=.sl (l.map oA)
theorem ct {α:Type}{f:α->List AV}{l:List α}{n:Int}{k:Nat}(hn:n=k)(hk:k<l.length):(l.map f)[n.toNat]?=some (f l[k]):=by simp_all
theorem aF.eq {x y:FV}(h:x=y):aF x y:=h▸aF.refl x
theorem wS {p:Prop}(h:p:=by(repeat refine⟨aF.eq kK,?_⟩);exact trivial):p:=h
theorem oS {p:Prop}(h:p:=by(repeat refine⟨aC kK,?_⟩);exact trivial):p:=h
theorem cl {C:Ctx}{f:FuncId}{args:List AV}{v:cQ}{K:cQ->Prop}(h:ak C f args λr=>r=v)(k:K v):∃R,ak C f args R/\∀r,R r->K r:=⟨_,h,λ_ hr=>hr▸k⟩
theorem nx (m:Nat){a:Int}{K:Int->Prop}(h:K (m:Int))(e:IntKind.i64.wrap a=(m:Int):=by rw[wrap64 oO oO];omega):∃c,IntKind.i64.wrap a=c/\K c:=⟨_,e,h⟩
theorem ix {α:Type}{f:α->List AV}{l:List α}{k m:Nat}{K:List AV->Prop}(hk:k<l.length)(h:K (f l[k]))(e:(f l[k]).length=m:=by exact rfl):0<=(k:Int)/\∃ys,(l.map f)[(k:Int).toNat]?=some ys/\ys.length=m/\K ys:=⟨oO,_,ct rfl hk,e,h⟩
theorem aF.mI (t:Nat)(T:TypeId)(bP:Nat):aF (.full []) (.eH t T bP []):=λG w v h=>by
 cases h with
 |full _ a h=>exact .eH t T bP [] a 0 h (.inl ⟨rfl,rfl⟩)
theorem aF.Gp (t:Nat)(T:TypeId)(bP:Nat)(xs:List (List AV)):aF (.eH t T bP xs) (.p (.sl xs)):=λG w v h=>.p _ _ (h.fh rfl)
theorem aF.ag1 (xs:List (List AV)):aF (.full xs) (.p (.sl xs)):=λG w v h=>.p _ _ (h.fh rfl)
theorem aaE {α:Type}{f:α->AV}(l:List α):∀zs,zs∈l.map (λx=>[f x])->zs.length=1:=by simp_all
theorem aiX {c d:UInt8}(h:(c.toNat:Int)=(d.toNat:Int)):c=d:=UInt8.toNat.inj oO
theorem az {p:Prop}[Decidable p]{K:Bool->Prop}(h1:p->K true)(h2:¬p->K false):Al λt:Bool=>t=decide p->K t:=⟨λt ht=>by by_cases h:p;simp_all;simp_all⟩
theorem aA {α:Type}[BEq α][LawfulBEq α]{a b:α}{K:Bool->Prop}(h1:a=b->K true)(h2:a≠b->K false):Al λt:Bool=>t=(a==b)->K t:=⟨λt ht=>by cases h:a==b;simp_all;simp_all⟩
theorem cF {α:Type}[BEq α][LawfulBEq α]{a b:α}{K:Bool->Prop}(h1:a≠b->K true)(h2:a=b->K false):Al λt:Bool=>t=(a !=b)->K t:=⟨λt ht=>by cases h:a==b;rw[ht];simp only[bne,h,Bool.not_false];simp_all;simp_all⟩
theorem uo {α:Type}[BEq α][LawfulBEq α]{a b:α}{K:Bool->Prop}(h1:a≠b->K true)(h2:a=b->K false):Al λt:Bool=>t=!(a==b)->K t:=cF h1 h2
theorem bQ {α β:Type}{k:Nat}{l:List α}{f:α->β}{K:Bool->Prop}(h1:k<l.length->K true)(h2:¬k<l.length->K false):Al λt:Bool=>t=decide ((k:Int)<((l.map f).length:Int))->K t:=az (λh=>h1 (by simp_all)) (λh=>h2 (by simp_all))
theorem bl {b:Bool}{K:Bool->Prop}(h:K !b):Al λt:Bool=>t=!b->K t:=⟨λt ht=>ht▸h⟩
end Qv
namespace Qv
open Go
inductive iB {H:Type}(P:Program):TypeId->DataW H->List AV->Prop|bool (t:TypeId)(b:Bool):P.underlying t=some .bool->iB P t (.lit (.bool b)) [.bool b]|int (t:TypeId)(k:IntKind)(n:Int):P.underlying t=some (.int k)->(Lit.int k n).wf=true->iB P t (.lit (.int k n)) [.int k n]|str (t:TypeId)(s:List UInt8):P.underlying t=some .string->iB P t (.lit (.string s)) [.str s]|nil (t e:TypeId):P.underlying t=some (.slice e)->iB P t .nil [.sl []]|slice (t e:TypeId)(ds sp:List (DataW H))(xs:List (List AV)):P.underlying t=some (.slice e)->ds.length=xs.length->(∀(i:Nat)(d:DataW H)(x:List AV),ds[i]?=some d->xs[i]?=some x->iB P e d x)->iB P t (.slice ds sp) [.sl xs]|struct (t:TypeId)(fs:Array Field)(ds:List (DataW H))(pieces:List (List AV)):P.underlying t=some (.struct fs)->fs.toList.length=ds.length->pieces.length=ds.length->(∀(i:Nat)(f:Field)(d:DataW H)(x:List AV),fs.toList[i]?=some f->ds[i]?=some d->pieces[i]?=some x->iB P f.type d x)->iB P t (.agg ds) pieces.flatten|arr (t e:TypeId)(n:Nat)(ds:List (DataW H))(pieces:List (List AV)):P.underlying t=some (.array n e)->ds.length=n->pieces.length=n->(∀(i:Nat)(d:DataW H)(x:List AV),ds[i]?=some d->pieces[i]?=some x->iB P e d x)->iB P t (.agg ds) pieces.flatten
def LK (P:Program)(ts:List TypeId)(t:TypeId):Bool:=match P.underlying t with|some .bool=>true|some (.int _)=>true|some .string=>true|some (.slice e)=>ts.contains e&&!(P.cellsOf e==0)|some (.struct fs)=>fs.toList.all λf=>ts.contains f.type|some (.array _ e)=>ts.contains e|_=>false
def BM (P:Program)(ts:List TypeId):Bool:=ts.all λt=>decide (t<P.types.size)&&LK P ts t
theorem Ra {α β:Type}{f:α->Option β}:∀{l:List α}{ys:List β},l.mapM f=some ys->ys.length=l.length/\∀(i:Nat)(x:α)(y:β),l[i]?=some x->ys[i]?=some y->f x=some y
 |[],ys,h=>by simp at h;subst h;exact⟨rfl,λi x y h=>by simp at h⟩
 |a::l,ys,h=>by
  rw[List.mapM_cons]at h;cases ha:f a with
  |none=>rw[ha]at h;cases h
  |some b=>
   rw[ha]at h;cases hl:l.mapM f with
   |none=>rw[hl]at h;cases h
   |some bs=>
    rw[hl]at h;obtain rfl:=au h;obtain⟨h1,h2⟩:=Ra hl;refine⟨by simp[h1],λi x y hx hy=>?_⟩;cases i with
    |zero=>simp at hx hy;subst hx;subst hy;exact ha
    |succ i=>simp at hx hy;exact h2 i x y hx hy
theorem uT {β:Type}(n:Nat)(R:Nat->β->Prop)(h:∀i,i<n->∃x,R i x):∃l:List β,l.length=n/\∀i x,l[i]?=some x->R i x:=by
 induction n with
 |zero=>exact⟨[],rfl,by simp⟩
 |succ n ih=>
  obtain⟨l,h1,h2⟩:=ih λi hi=>h i oO;obtain⟨x,hx⟩:=h n oO;refine⟨l++[x],by simp[h1],λi y hy=>?_⟩;by_cases hi:i<n;rw[cO oO]at hy;exact h2 i y hy;have hlt:i<(l++[x]).length:=(aG.1 hy).1;simp[h1]at hlt;obtain rfl:i=n:=oO
  rw[dY oO]at hy;simp[h1]at hy;subst hy;exact hx
def yQ (aZ:Nat->Nat->Prop)(w:World)(cs:List Value)(xs:List AV):Prop:=cs.length=xs.length/\(∀x,x∈xs->x.one=true)/\∀(i:Nat)(c:Value)(x:AV),cs[i]?=some c->xs[i]?=some x->dh aZ w c x
theorem yQ.nil (aZ:Nat->Nat->Prop)(w:World):yQ aZ w [] []:=⟨rfl,by simp,by simp⟩
theorem yQ.append {aZ:Nat->Nat->Prop}{w:World}{cs cs':List Value}{xs xs':List AV}(h:yQ aZ w cs xs)(h':yQ aZ w cs' xs'):yQ aZ w (cs++cs') (xs++xs'):=by refine⟨by simp[h.1,h'.1],λx hx=>?_,λi c x hc hx=>?_⟩;rcases bh.1 hx with hx|hx;exact h.2.1 x hx;exact h'.2.1 x hx;by_cases hi:i<cs.length;rw[cO hi]at hc;rw[cO (by rw[<-h.1];exact hi)]at hx;exact h.2.2 i c x hc hx;rw[dY oO]at hc;rw[dY (by rw[<-h.1];omega),<-h.1]at hx;exact h'.2.2 _ c x hc hx
theorem yQ.one {aZ:Nat->Nat->Prop}{w:World}{c:Value}{x:AV}(h:dh aZ w c x)(hx:x.one=true):yQ aZ w [c] [x]:=⟨rfl,by simpa using hx,λi c' x' h1 h2=>by
 cases i with
 |zero=>simp at h1 h2;subst h1;subst h2;exact h
 |succ i=>simp at h1⟩
theorem IJ {aZ:Nat->Nat->Prop}{w:World}(size:Field->Nat)(cs:List Value):∀(fs:List Field)(o:Nat)(pieces:List (List AV)),pieces.length=fs.length->(∀(j:Nat)(f:Field),fs[j]?=some f->f.offset=o+((fs.take j).map size).sum)->(cs.drop o).length=(fs.map size).sum->(∀(j:Nat)(f:Field)(x:List AV),fs[j]?=some f->pieces[j]?=some x->yQ aZ w ((cs.drop f.offset).take (size f)) x)->yQ aZ w (cs.drop o) pieces.flatten
 |[],o,pieces,hp,ho,hl,hr=>by have h1:pieces=[]:=bK.1 (by simpa using hp);have h2:cs.drop o=[]:=bK.1 (by simpa using hl);rw[h1,h2];exact .nil _ _
 |f::fs,o,[],hp,ho,hl,hr=>by simp at hp
 |f::fs,o,x::pieces,hp,ho,hl,hr=>by
  have hf:f.offset=o:=by simpa using ho 0 f rfl
  have h0:=hr 0 f x rfl rfl;rw[hf]at h0;simp only[bV,cS,xH]at hl;have ih:=IJ size cs fs (o+size f) pieces (by simpa using hp) (λj g hg=>by have :=ho (j+1) g hg;simp only[CT,cS,xH]at this;omega) (by simp only[bV];omega) (λj g y hg hy=>hr (j+1) g y hg hy);have :cs.drop o=(cs.drop o).take (size f)++cs.drop (o+size f):=by rw[<-sY,cT]
  rw[this,nM];exact h0.append ih
theorem LL {aZ:Nat->Nat->Prop}{w:World}(z:Nat):∀(l:List (List AV))(cs:List Value),cs.length=l.length*z->(∀(i:Nat)(x:List AV),l[i]?=some x->yQ aZ w ((cs.drop (i*z)).take z) x)->yQ aZ w cs l.flatten
 |[],cs,hl,hr=>by have h1:cs=[]:=bK.1 (by simpa using hl);rw[h1];exact .nil _ _
 |x::l,cs,hl,hr=>by have h0:=hr 0 x rfl;rw[Nat.zero_mul,xI]at h0;simp only[aL,bC,kn]at hl;have ih:=LL z l (cs.drop z) (by simp only[bV];omega) (λi y hy=>by have :=hr (i+1) y (by simpa using hy);rw[sY];rw[bC,kn,pZ]at this;exact this);rw[<-cT z cs,nM];exact h0.append ih
theorem LM {w:World}{base:Nat}{a:Addr}{n:Nat}{cs:List Value}(h:w.cells? base a n=some cs):cs.length=n/\∀(i:Nat)(c:Value),cs[i]?=some c->w.cell? (a.add i)=some c:=by
 unfold World.cells? at h;split at h;obtain⟨h1,h2⟩:=Ra h;simp at h1;refine⟨h1,λi c hc=>?_⟩;have hi:i<n:=by rw[<-h1];exact(aG.1 hc).1
 exact h2 i i c (by simp[hi]) hc;cases h
theorem VZ {w:World}{a:Addr}{c:Value}(h:w.cell? a=some c):a.block<w.heap.size/\a.spot=none:=by
 unfold World.cell? at h;split at h;rename_i hq;refine⟨(bB.1 hq).1,?_⟩;split at h;cases h;rename_i hs;cases hsp:a.spot with
 |none=>rfl
 |some x=>rw[hsp]at hs;simp at hs
 cases h
theorem Dv {P:Program}{ts:List TypeId}(h:BM P ts=true){t:TypeId}(ht:t∈ts):t<P.types.size/\LK P ts t=true:=by have :=bY.1 h t ht;simpa using this
theorem lay_of {P:Program}(hl:laidOutB P=true){t:TypeId}(ht:t<P.types.size):rowFine P t=true:=by simp only[laidOutB,aW]at hl;exact bY.1 hl.1.1 t (by simpa using ht)
theorem aaF {H:Type}{enc:TypeId×Value->H}{P:Program}{w:World}{held:Bool}{spare:Nat->Bool}{ts:List TypeId}(hl:laidOutB P=true)(hf:BM P ts=true):∀(fuel:Nat)(t:TypeId)(cs:List Value)(d:DataW H)(ps:List MemPlace),t∈ts->DataW.trod enc P w 0 spare held fuel t cs=some (d,ps)->∃xs,iB P t d xs/\cs.length=P.cellsOf t/\yQ (λb _=>b<w.heap.size) w cs xs:=by
 intro fuel;induction fuel with
 |zero=>intro t cs d ps ht h;cases h
 |succ fuel ih=>
  intro t cs d ps ht h;obtain⟨hlt,hft⟩:=Dv hf ht;have hrow:=lay_of hl hlt;unfold LK at hft;have hone:∀{u:TypeDesc},P.underlying t=some u->(match u with|.bool|.int _|.string|.slice _=>True|_=>False)->P.cellsOf t=1:=λ{u} hu hm=>by unfold rowFine isVar at hrow;simp only[hu,hlt,decide_true,gQ]at hrow;cases u<;>simp_all[kindOk]
  split at hft;rename_i hu;obtain⟨b,rfl,hx⟩:=DataW.trod_bool hu h;obtain⟨rfl,rfl⟩:=gV hx;exact⟨_,.bool t b hu,(hone hu trivial).symm,.one (.bool b) rfl⟩;rename_i k hu;obtain⟨n,rfl,hx,hwf⟩:=DataW.trod_int hu h;obtain⟨rfl,rfl⟩:=gV hx;exact⟨_,.int t k n hu hwf,(hone hu trivial).symm,.one (.int k n) rfl⟩;rename_i hu;obtain⟨⟨⟨s⟩⟩,rfl,hx,hwf⟩:=DataW.trod_string hu h;obtain⟨rfl,rfl⟩:=gV hx;exact⟨_,.str t s hu,(hone hu trivial).symm,.one (.str s) rfl⟩
  ·rename_i e hu;simp only[aW,eC,xC,ne_eq,Dw]at hft;obtain⟨he,ZZ⟩:=hft;rcases DataW.trod_slice hu h with⟨rfl,hx⟩|⟨a,len,cap,elems,rest,m,hm,rfl,hx,hb,hlc,hcm,hel,vP,_,_⟩;obtain⟨rfl,rfl⟩:=gV hx;exact⟨_,.nil t e hu,(hone hu trivial).symm,.one (.Xi none 0) rfl⟩;obtain⟨rfl,rfl⟩:=gV hx;obtain rfl:fuel=m:=oO
   have aiY:=hone hu trivial;have each:∀i,i<len->∃(x:List Value×List AV) (d:DataW H),(elems.map (·.1))[i]?=some d/\iB P e d x.2/\x.1.length=P.cellsOf e/\yQ (λb _=>b<w.heap.size) w x.1 x.2/\w.cells? 0 (a.add (i*P.cellsOf e)) (P.cellsOf e)=some x.1:=λi hi=>by
    have h1:=vP i hi;have hlt':i<elems.length:=oO
    rw[av hlt']at h1;obtain⟨cs',hcs,htr⟩:=Option.bind_eq_some_iff.1 h1;obtain⟨xs,g1,g2,g3⟩:=ih e cs' elems[i].1 elems[i].2 he htr;exact⟨(cs',xs),elems[i].1,by simp[hlt'],g1,g2,g3,hcs⟩
   obtain⟨l,NI,Ge⟩:=uT len _ each;refine⟨[.sl (l.map (·.2))],.slice t e _ _ _ hu (by simp[hel,NI]) (λi d x hd hx=>?_),aiY.symm,.one ?_ rfl⟩;rw[aR]at hx;cases QN:l[i]?with
   |none=>rw[QN]at hx;cases hx
   |some y=>rw[QN]at hx;obtain rfl:=au hx;obtain⟨d',k1,k2,_⟩:=Ge i y QN;rw[hd]at k1;obtain rfl:=au k1;exact k2
   by_cases h0:len=0;subst h0;obtain rfl:l=[]:=bK.1 NI;exact .Xi _ _;have hpos:0<P.cellsOf e:=xx ZZ;have hsp:a.spot=none:=by
    obtain⟨y,hy⟩:∃y,l[0]?=some y:=⟨l[0]'oO,av _⟩;obtain⟨d',_,_,k3,_,k5⟩:=Ge 0 y hy;obtain⟨c1,c2⟩:=LM k5;have ala:0<y.1.length:=oO
    have :=(VZ (c2 0 y.1[0] (av ala))).2;simpa[Addr.add]using this
   obtain⟨b,off,spot⟩:=a;obtain rfl:spot=none:=hsp;have key:∀(i:Nat)(ys:List AV)(j:Nat)(y:AV),(l.map (·.2))[i]?=some ys->ys[j]?=some y->∃z c,l[i]?=some z/\z.2=ys/\z.1[j]?=some c/\w.cell? ⟨b,off+i*P.cellsOf e+j,none⟩=some c/\dh (λb _=>b<w.heap.size) w c y/\y.one=true/\ys.length=P.cellsOf e:=λi ys j y h1 h2=>by
    rw[aR]at h1;cases QN:l[i]?with
    |none=>rw[QN]at h1;cases h1
    |some z=>
     rw[QN]at h1;obtain rfl:=au h1;simp only at h2;obtain⟨d',_,_,k3,⟨r1,r2,r3⟩,k5⟩:=Ge i z QN;obtain⟨c1,c2⟩:=LM k5;have hjl:j<z.1.length:=by rw[r1];exact(aG.1 h2).1
     refine⟨z,z.1[j],rfl,rfl,av hjl,?_,r3 j _ _ (av hjl) h2,r2 _ (bz h2),by show z.2.length=_;omega⟩;have :=c2 j _ (av hjl);rwa[Go.WideShapes.add_plain,Go.WideShapes.add_plain]at this
   have hlen:(l.map (·.2)).length=len:=by simp[NI]
   rw[<-hlen];refine .sl b off cap (P.cellsOf e) _ (λi j=>match l[i]?with|some z=>z.1.getD j undef|none=>undef) ?_ ?_ ?_ ?_ ?_ oO;intro i ys h1;rw[aR]at h1;cases QN:l[i]?with
   |none=>rw[QN]at h1;cases h1
   |some z=>rw[QN]at h1;obtain rfl:=au h1;obtain⟨d',_,_,k3,⟨r1,_⟩,_⟩:=Ge i z QN;show z.2.length=_;omega
   all_goals intro i ys j y h1 h2;obtain⟨z,c,hz,hzy,Hv,hcell,oz,hy1,_⟩:=key i ys j y h1 h2
   exact hy1;simp only[hz,List.getD,Hv,xw];exact hcell;exact(VZ hcell).1;simp only[hz,List.getD,Hv,xw];exact oz
  rename_i fs hu;obtain⟨xs,m,hm,hx,jH,hxl,vP⟩:=DataW.trod_struct hu h;obtain⟨rfl,rfl⟩:=gV hx;obtain rfl:fuel=m:=oO
  have hall:=bY.1 hft;have hk:isVar P t=true:=by unfold isVar;rw[hu];simp[hlt,kindOk]
  unfold rowFine at hrow;rw[hk,hu]at hrow;simp only[Bool.not_true,iW,aW,beq_iff_eq]at hrow;obtain⟨⟨_,hsum⟩,hoff⟩:=hrow;have each:∀i,i<fs.size->∃(x:List AV),∀f d,fs.toList[i]?=some f->(xs.map (·.1))[i]?=some d->iB P f.type d x/\yQ (λb _=>b<w.heap.size) w ((cs.drop f.offset).take (P.cellsOf f.type)) x:=λi hi=>by
   have h1:=vP i fs[i] (xB hi);have hlt':i<xs.length:=oO
   rw[av hlt']at h1;have hmem:fs[i].type∈ts:=by have :=hall fs[i] (by simp);simpa using this
   obtain⟨x,g1,g2,g3⟩:=ih fs[i].type _ xs[i].1 xs[i].2 hmem h1;refine⟨x,λf d hf hd=>?_⟩;rw[sX,xB hi]at hf;obtain rfl:=au hf;rw[aR,av hlt']at hd;obtain rfl:=au hd;exact⟨g1,g3⟩
  obtain⟨l,NI,Ge⟩:=uT fs.size _ each;refine⟨l.flatten,.struct t fs _ l hu (by simp[hxl]) (by simp[NI,hxl]) (λi f d x hf hd hx=>(Ge i x hx f d hf hd).1),jH,?_⟩;have hp:=IJ (aZ:=λb _=>b<w.heap.size) (w:=w) (λf=>P.cellsOf f.type) cs fs.toList 0 l (by simp[NI]) (λj f hf=>by have hj:j<fs.toList.length:=(aG.1 hf).1;have :=bY.1 hoff j (by simpa using hj);rw[hf]at this;simpa using this) (by simpa[jH]using hsum) (λj f x hf hx=>by
   have hj:j<xs.length:=by rw[hxl];simpa using(aG.1 hf).1
   exact(Ge j x hx f (xs[j].1) hf (by simp[hj])).2);simpa using hp;rename_i n e hu;rw[Dw]at hft;obtain⟨xs,m,hm,hx,jH,hxl,vP⟩:=DataW.trod_array hu h;obtain⟨rfl,rfl⟩:=gV hx;obtain rfl:fuel=m:=oO
  have hk:isVar P t=true:=by unfold isVar;rw[hu];simp[hlt,kindOk]
  unfold rowFine at hrow;rw[hk,hu]at hrow;simp only[Bool.not_true,iW,aW,beq_iff_eq]at hrow;obtain⟨_,hsum⟩:=hrow;have each:∀i,i<n->∃(x:List AV),∀d,(xs.map (·.1))[i]?=some d->iB P e d x/\yQ (λb _=>b<w.heap.size) w ((cs.drop (i*P.cellsOf e)).take (P.cellsOf e)) x:=λi hi=>by
   have h1:=vP i hi;have hlt':i<xs.length:=oO
   rw[av hlt']at h1;obtain⟨x,g1,g2,g3⟩:=ih e _ xs[i].1 xs[i].2 hft h1;refine⟨x,λd hd=>?_⟩;rw[aR,av hlt']at hd;obtain rfl:=au hd;exact⟨g1,g3⟩
  obtain⟨l,NI,Ge⟩:=uT n _ each;refine⟨l.flatten,.arr t e n _ l hu (by simp[hxl]) NI (λi d x hd hx=>(Ge i x hx d hd).1),jH,?_⟩;refine LL (P.cellsOf e) l cs (by rw[jH,hsum,NI]) (λi x hx=>?_);have hj:i<xs.length:=by have :=(aG.1 hx).1;omega
  exact(Ge i x hx (xs[i].1) (by simp[hj])).2;cases hft
theorem Gq {H:Type}{enc:TypeId×Value->H}{P:Program}{w:World}{held:Bool}{spare:Nat->Bool}{ts:List TypeId}(hl:laidOutB P=true)(hf:BM P ts=true):∀(us:List TypeId)(vs:List Value)(ds:List (DataW H))(ps:List MemPlace),(∀u,u∈us->u∈ts)->DataW.TrodAll enc P w 0 spare held us vs ds ps->vs.length=us.length/\ds.length=us.length/\∀(i:Nat)(u:TypeId)(v:Value)(d:DataW H),us[i]?=some u->vs[i]?=some v->ds[i]?=some d->∃xs,iB P u d xs/\yQ (λb _=>b<w.heap.size) w v.cells.toList xs
 |[],[],[],ps,hm,h=>⟨rfl,rfl,λi u v d h=>by simp at h⟩
 |u::us,v::vs,d::ds,ps,hm,h=>by
  obtain⟨p,q,⟨fuel,h1⟩,h2,h3⟩:=h;obtain⟨xs,g1,_,g3⟩:=aaF hl hf fuel u _ d p (hm u (by simp)) h1;obtain⟨k1,k2,k3⟩:=Gq hl hf us vs ds q (λu hu=>hm u (by simp[hu])) h2;refine⟨by simp[k1],by simp[k2],λi u' v' d' h4 h5 h6=>?_⟩;cases i with
  |zero=>simp at h4 h5 h6;subst h4;subst h5;subst h6;exact⟨xs,g1,g3⟩
  |succ i=>exact k3 i u' v' d' (by simpa using h4) (by simpa using h5) (by simpa using h6)
end Qv
