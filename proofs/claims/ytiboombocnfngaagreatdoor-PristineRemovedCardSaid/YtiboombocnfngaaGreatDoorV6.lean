/- Part 12 of the proof: its lemmas. No condition. -/
import Derived.Test.YtiboombocnfngaaGreatDoorV1
import Derived.Test.YtiboombocnfngaaGreatDoorV2
import Derived.Test.YtiboombocnfngaaGreatDoorV4
import Derived.BigQuiet
import Derived.Shelf.SlSortCmp.WholeK
import Derived.Shelf.Slices.Delete
set_option maxRecDepth 100000
set_option maxHeartbeats 80000000
set_option linter.all false
open Go Go.Proofs Go.RowKit Go.Sort
namespace Qv
structure akV (T:Prop):Prop where
 out:T
theorem FW (W:World)(v0 v1:Value)(a b:Bytes)(e0:(Extern.Bytes.bytesOf v0).run Tryz.prog W=.ok ⟨a.toArray⟩ W)(e1:(Extern.Bytes.bytesOf v1).run Tryz.prog W=.ok ⟨b.toArray⟩ W):Calls Tryz.prog 146 #[v0,v1] W λe w'=>e=.returned (.int .i64 (cmpL a b))/\w'=W:=by
 have hrun:(Extern.BytealgCompare.compare #[v0,v1]).run Tryz.prog W=.ok (.int .i64 (cmpL a b)) W:=by change Sem.run Tryz.prog (do pure (goInt (Extern.BytealgCompare.cmp (<-Extern.Bytes.bytesOf v0) (<-Extern.Bytes.bytesOf v1)))) W=_;simp only[Sem.run_bind,e0,e1,Result.andThen_ok,Sem.run_pure];rw[Lib.cmp_eq,cmpL_eq];rfl
 clear e0 e1;go_enter Tryz.func146,Tryz.ntmps146;go_wp2;rw[run_callFunc_extern Tryz.func212 kK kK kK (e:=Extern.BytealgCompare.compare) kK,hrun];simp only[Result.andThen];rw[Oper.upon_value];go_wp2;go_ret;exact⟨rfl,rfl⟩
def vD (d:Dg):List Value:=d.1.map λc=>Value.int .u8 (c.toNat:Int)
theorem EP (d:Dg):(vD d).length=32:=by unfold vD;rw[ah];exact d.2
theorem rK {P:Program}{W:World}{blk:Nat}{d:Dg}(h:∀(j:Nat)(c:UInt8),d.1[j]?=some c->W.cell? ⟨blk,j,none⟩=some (.int .u8 (c.toNat:Int)))(cap:Nat):(Extern.Bytes.bytesOf (.slice (some ⟨blk,0,none⟩) 32 cap)).run P W=.ok ⟨d.1.toArray⟩ W:=by
 have :=Lib.run_loadBytesX (P:=P) (w:=W) (d.1.map λc=>(c.toNat:Int)) ⟨blk,0,none⟩ .empty λj x hx=>by rw[aN]at hx;obtain⟨c',hc',rfl⟩:=sM.1 hx;rw[Addr.add_lit,de];exact h j c' hc'
 rw[ah,d.2]at this;have e:Lib.bytesOf (d.1.map λc=>(c.toNat:Int))=d.1:=by show(d.1.map λc=>(c.toNat:Int)).map (λn=>UInt8.ofNat n.toNat)=d.1;rw[fL];exact(dZ λc _=>by simp).trans (List.map_id _)
 rw[e]at this;simpa[Extern.Bytes.bytesOf]using this
theorem vM (W:World)(A B:Array Value)(T U:TypeId)(n:Nat)(j:Nat)(c:Value):(A[j]?=some c->(((W.alloc (.cells A T)).alloc (.cells B U)).drewN n).cell? ⟨W.heap.size,j,none⟩=some c)/\(B[j]?=some c->(((W.alloc (.cells A T)).alloc (.cells B U)).drewN n).cell? ⟨W.heap.size+1,j,none⟩=some c):=by
 have e1:(((W.alloc (.cells A T)).alloc (.cells B U)).drewN n).heap=(W.heap.push (.cells A T)).push (.cells B U):=rfl;constructor;intro h;unfold World.cell?;rw[e1];simp[Array.getElem?_push,h];intro h;have e2:((W.heap.push (.cells A T)).push (.cells B U))[W.heap.size+1]?=some (.cells B U):=by rw[show W.heap.size+1=(W.heap.push (.cells A T)).size from by simp];exact Array.getElem?_push_size
 unfold World.cell?;rw[e1];simp only[e2];exact h
theorem aa2 (d:Dg)(j:Nat)(c:UInt8)(h:d.1[j]?=some c):(vD d).toArray[j]?=some (.int .u8 (c.toNat:Int)):=by unfold vD;simp[h]
theorem aa3 (a b:Dg)(W:World):Calls Tryz.prog 75 #[.agg (vD a).toArray,.agg (vD b).toArray] W λe w'=>e=.returned (.int .i64 (ee a b))/\∃q os',w'=grow (W.drewN q) os':=by have hc:∀n,Calls Tryz.prog 146 #[.slice (some ⟨W.heap.size,0,none⟩) 32 32,.slice (some ⟨W.heap.size+1,0,none⟩) 32 32] (((W.alloc (.cells (vD a).toArray 33)).alloc (.cells (vD b).toArray 33)).drewN n) λe w'=>e=.returned (.int .i64 (cmpL a.1 b.1))/\w'=(((W.alloc (.cells (vD a).toArray 33)).alloc (.cells (vD b).toArray 33)).drewN n):=λn=>FW _ _ _ a.1 b.1 (rK (λj c h=>(vM W _ _ 33 33 n j _).1 (aa2 a j c h)) 32) (rK (λj c h=>(vM W _ _ 33 33 n j _).2 (aa2 b j c h)) 32);have la:=EP a;have lb:=EP b;go_enter Tryz.func75,Tryz.ntmps75;go_wp2;go_quiet (first|(go_at_call 146;refine Calls.quiet_of_same (hc _)));go_wp2;go_ret;refine⟨rfl,nq,#[.cells (vD a).toArray 33,.cells (vD b).toArray 33],?_⟩;rfl
def vI (x:bV):List Value:=vD x.p++[.int .i64 x.n]
theorem aa4 (x:bV):(vI x).length=33:=by unfold vI;rw[ay,EP];rfl
theorem afp (x:bV)(j:Nat)(c:UInt8)(h:x.p.1[j]?=some c):(vI x).toArray[j]?=some (.int .u8 (c.toNat:Int)):=by
 have h1:=aa2 x.p j c h;have hj:j<(vD x.p).length:=by rw[EP];have :=(aJ.1 h).1;rw[x.p.2]at this;exact this
 unfold vI;simp only[CT]at h1⊢;rw[cG hj];exact h1
theorem ais (x:bV):(vI x).toArray[32]?=some (.int .i64 x.n):=by unfold vI;simp only[CT];rw[dH (by rw[EP];decide),EP];rfl
theorem WW (a b:bV)(W:World):Calls Tryz.prog 96 #[.agg (vI a).toArray,.agg (vI b).toArray] W λe w'=>e=.returned (.int .i64 (gV a b))/\∃q os',w'=grow (W.drewN q) os':=by
 have hc:∀n,Calls Tryz.prog 146 #[.slice (some ⟨W.heap.size,0,none⟩) 32 32,.slice (some ⟨W.heap.size+1,0,none⟩) 32 32] (((W.alloc (.cells (vI a).toArray 54)).alloc (.cells (vI b).toArray 54)).drewN n) λe w'=>e=.returned (.int .i64 (cmpL a.p.1 b.p.1))/\w'=(((W.alloc (.cells (vI a).toArray 54)).alloc (.cells (vI b).toArray 54)).drewN n):=λn=>FW _ _ _ a.p.1 b.p.1 (rK (λj c h=>(vM W _ _ 54 54 n j _).1 (afp a j c h)) 32) (rK (λj c h=>(vM W _ _ 54 54 n j _).2 (afp b j c h)) 32);have n1:∀n,(((W.alloc (.cells (vI a).toArray 54)).alloc (.cells (vI b).toArray 54)).drewN n).cell? ⟨W.heap.size,32,none⟩=some (.int .i64 a.n):=λn=>(vM W _ _ 54 54 n 32 _).1 (ais a);have n2:∀n,(((W.alloc (.cells (vI a).toArray 54)).alloc (.cells (vI b).toArray 54)).drewN n).cell? ⟨W.heap.size+1,32,none⟩=some (.int .i64 b.n):=λn=>(vM W _ _ 54 54 n 32 _).2 (ais b);have la:=aa4 a;have lb:=aa4 b;have hI:∀w,Calls Tryz.prog 170 #[.int .i64 a.n,.int .i64 b.n] w λe w'=>e=.returned (.int .i64 (Lib.compareInt a.n b.n))/\w'=w:=λw=>Tryz.cmp_Compare_int a.n b.n w;have hci:Lib.compareInt a.n b.n=if a.n<b.n then-1 else if b.n<a.n then 1 else 0:=rfl;generalize Lib.compareInt a.n b.n=ci at hI hci;have hcmp:gV a b=if cmpL a.p.1 b.p.1≠0 then cmpL a.p.1 b.p.1 else ci:=by rw[hci];rfl
 generalize cmpL a.p.1 b.p.1=cl at hc hcmp;by_cases h0:cl=0
 ·subst h0;rw[af (λg=>g rfl)]at hcmp;rw[hcmp];clear hcmp hci;go_enter Tryz.func96,Tryz.ntmps96;go_wp2;go_quiet (first|(go_at_call 146;refine Calls.quiet_of_same (hc _)));have m1:=n1 nq;have m2:=n2 nq;generalize hW:(((W.alloc (.cells (vI a).toArray 54)).alloc (.cells (vI b).toArray 54)).drewN nq)=W2 at m1 m2⊢;have hg:W2=grow (W.drewN nq) #[.cells (vI a).toArray 54,.cells (vI b).toArray 54]:=hW.symm;have hG:akV (W2=grow (W.drewN nq) #[.cells (vI a).toArray 54,.cells (vI b).toArray 54]):=⟨hg⟩;clear hW n1 n2 hc hg;go_wp2_with (go_at_call 170;refine(hI _).mono ?_;rintro e w' ⟨rfl,rfl⟩);go_ret;exact⟨rfl,_,_,hG.out⟩
 rw[ag h0]at hcmp;rw[hcmp];clear hcmp hci;have hne:(cl==0)=false:=wP.2 h0;have anN:(cl !=0)=true:=by simpa using h0
 go_enter Tryz.func96,Tryz.ntmps96;go_wp2;go_quiet (first|(go_at_call 146;refine Calls.quiet_of_same (hc _)));go_wp2;go_ret;exact⟨rfl,nq,#[.cells (vI a).toArray 54,.cells (vI b).toArray 54],rfl⟩
def Lx:AV->Value|.int k n=>.int k n|_=>undef
def agA (l:List AV):Prop:=∀y,y∈l->∃k n,y=.int k n
section
variable {α:Type}[Inhabited α](cell:α->List AV)(k:Nat)(hk:∀x,(cell x).length=k)(hi:∀x,agA (cell x))
def yf (cell:α->List AV)(x:α):List Value:=(cell x).map Lx
include hk in theorem xx (l:List α):(l.map cell).flatten.length=l.length*k:=by rw[fR (e:=k) λzs h=>by obtain⟨x,-,rfl⟩:=aC.1 h;exact hk x];simp
include hk in theorem aef (l:List α){j:Nat}(h0:0<k)(h:j<l.length*k):∃hj:j/k<l.length,∃hm:j%k<(cell l[j/k]).length,(l.map cell).flatten[j]?=some ((cell l[j/k])[j%k]):=by
 have h1:j/k<l.length:=(Nat.div_lt_iff_lt_mul h0).2 h;have h2:j%k<(cell l[j/k]).length:=by rw[hk];exact jh _ h0
 refine⟨h1,h2,?_⟩;have :=nD (λzs h=>by obtain⟨x,-,rfl⟩:=aC.1 h;exact hk x) (show(l.map cell)[j/k]?=some (cell l[j/k])by simp[h1]) (av h2);rw[wJ,Nat.div_add_mod]at this;exact this
include hk in theorem aa5 (l:List α){j:Nat}(h0:0<k)(h:j<l.length*k):∃y,(l.map cell).flatten[j]?=some y/\(flatK (yf cell) k l.toArray)[j]! =Lx y/\∃x,x∈l/\y∈cell x:=by
 obtain⟨h1,h2,h3⟩:=aef cell k hk l h0 h;refine⟨_,h3,?_,l[j/k],aO h1,aO h2⟩;rw[get_flatK _ _ _ _ (by simpa using h)];have e1:(l.toArray)[j/k]! =l[j/k]:=by rw[getElem!_pos (l.toArray) (j/k) (by simpa using h1)];simp
 rw[e1];unfold yf;rw[getElem!_pos _ _ (by rw[ah];exact h2),qm]
include hk hi in theorem Ly {ρ:Shelf.Ren}(L:SlLaysF0.n6 Tryz.prog ρ)(h0:0<k)(aE:∀w,(isAgg (ρ.t 24)).run Tryz.prog w=.ok true w)(zE:∀w,(Go.sizeOf (ρ.t 24)).run Tryz.prog w=.ok k w)(cf:α->α->Int)(hO:SWO (ltOf cf))(hT:∀x y,¬cf x y<0->¬cf y x<0->x=y)(g:Nat)(eg:∀args w,(callFunc g args).run Tryz.prog w=.ok (.enter g args) w)(hcmp:∀(x y:α)(W:World),Calls Tryz.prog g #[.agg (yf cell x).toArray,.agg (yf cell y).toArray] W λe w'=>e=.returned (.int .i64 (cf x y))/\∃q os',w'=grow (W.drewN q) os')(Cx:Ctx)(hP:Cx.P=Tryz.prog)(hf:∃fn,Tryz.prog.funcs[ρ.f 6]?=some fn/\fn.body.isNone=false/\(fn.name== "runtime.NumGoroutine")=false)(T:TypeId)(l:List α)(hl:l.length<4611686018427387904):VC Cx (ρ.f 6) T k (l.map cell).flatten [.fn (.func g) [] []] (λr ys=>r=false/\ys=((l.mergeSort λx y=>!decide (cf y x<0)).map cell).flatten):=by
 refine⟨by rw[hP];exact hf,λbk w b n c vs hJ hn Bi hnb hb hown hty lU hnc h1 hcells hvl hvr=>?_⟩;rw[hP];match vs,hvl with
  |[v],_=>
   have hv:=hvr 0 v _ rfl rfl;have hv:v=.func (.func g) #[] #[]:=by
    cases hv with
    |fn _ fs cs _ _ q1 q2=>rw[bQ.1 q1,bQ.1 q2]
   subst hv;rw[xx cell k hk]at lU;obtain rfl:n=l.length:=(ga h0 lU).symm;have hH:HoldsK (yf cell) k w b 0 l.toArray:=by
    intro j hj;rw[size_flatK]at hj;have hj:j<l.length*k:=by simpa using hj
    obtain⟨y,q1,q2,x,-,q3⟩:=aa5 cell k hk l h0 hj;obtain⟨c',q4,q5⟩:=hcells j y q1;refine⟨?_,(hown (0+j)).2⟩;rw[de,q4,q2,show id (Lx y)=Lx y from rfl];obtain⟨kk,m,rfl⟩:=hi x y q3;rw[q5.fo];rfl
   have ait:=AnyQ.slices_SortFunc L k aE zE (yf cell) (λx=>by unfold yf;rw[ah];exact hk x) (λx v hv=>by unfold yf at hv;obtain⟨y,hy,rfl⟩:=aC.1 hv;obtain⟨kk,m,rfl⟩:=hi x y hy;rfl) cf hO g #[] b 0 c l.toArray w eg (λm os dk hs x y=>hcmp x y _) hH hb (by simpa using hl);have hsz:l.toArray.size=l.length:=by simp
   rw[hsz]at ait;show Calls Tryz.prog (ρ.f 6) #[.slice (some ⟨b,0,none⟩) l.length c,.func (.func g) #[] #[]] w _;refine ait.mono ?_;rintro e w' ⟨rfl,d',q,os,hp,hso,rfl⟩;have hd:d'=((l.mergeSort λx y=>!decide (cf y x<0))).toArray:=by have :=sorted_unique_holds (lt:=ltOf cf) hO (λx y q1 q2=>hT x y (by simpa[ltOf]using q1) (by simpa[ltOf]using q2)) l.toArray d' (by rw[hsz];exact hp) (by rw[hsz];exact hso);apply iJ.1;rw[this];rfl
   generalize hm:(l.mergeSort λx y=>!decide (cf y x<0))=m at hd⊢;have hml:m.length=l.length:=by rw[<-hm];exact List.length_mergeSort _
   subst hd;have hH':=holdsK_sortWorldK_c (yf cell) k w b 0 l.toArray m.toArray q os hH hb (by simpa using hml);refine⟨_,false,(m.map cell).flatten,(m.map cell).flatten,rfl,⟨rfl,rfl⟩,by rw[xx cell k hk,xx cell k hk,hml],⟨rfl,rfl⟩,λi x hx=>?_,rfl,rfl,rfl,size_sortWorldK_c (yf cell) k w b 0 q m.toArray os,λkk hkk hne=>?_,λcs T' fr hcs=>?_⟩;have hi':i<m.length*k:=by rw[<-xx cell k hk];exact(aJ.1 hx).1
   obtain⟨y,q1,q2,z,-,q3⟩:=aa5 cell k hk m h0 hi';rw[hx]at q1;obtain rfl:=au q1;have :=(hH' i (by rw[size_flatK];simpa using hi')).1;rw[de,q2]at this;refine⟨_,this,?_⟩;obtain⟨kk,mm,rfl⟩:=hi z x q3;exact dA.int _ _;unfold sortWorldK putRowK putRow mapBlock grow;show((Sort.ahead w q).heap.modify b _++os)[kk]?=w.heap[kk]?;rw[sI (by simpa[Sort.ahead]using hkk),iL,af (eu hne)];rfl;refine⟨putCells id 0 (flatK (yf cell) k m.toArray) cs,?_,by simp[putCells]⟩;unfold sortWorldK putRowK putRow mapBlock grow;show((Sort.ahead w q).heap.modify b _++os)[b]?=_;rw[sI (by simpa[Sort.ahead]using hb),iL,ag rfl];show Option.map _ w.heap[b]?=_;rw[hcs];rfl
end
theorem NG (d:Dg):yf cD d=vD d:=by unfold yf vD;rw[It,fL];rfl
theorem UQ (x:bV):yf cI x=vI x:=by show(cD x.p++[AV.int .i64 x.n]).map Lx=_;rw[aD,show(cD x.p).map Lx=vD x.p from NG x.p];rfl
theorem WX (a b:Dg)(W:World):Calls Tryz.prog 75 #[.agg (yf cD a).toArray,.agg (yf cD b).toArray] W λe w'=>e=.returned (.int .i64 (ee a b))/\∃q os',w'=grow (W.drewN q) os':=by rw[NG,NG];exact aa3 a b W
theorem Td (a b:bV)(W:World):Calls Tryz.prog 96 #[.agg (yf cI a).toArray,.agg (yf cI b).toArray] W λe w'=>e=.returned (.int .i64 (gV a b))/\∃q os',w'=grow (W.drewN q) os':=by rw[UQ,UQ];exact WW a b W
end Qv
open Go Go.Proofs Go.RowKit
namespace Qv
theorem FX:aq C 143 [.int .u64 0] (λr=>r=.val (.int .i64 0)):=by
 refine⟨⟨_,Tryz.func143,rfl,rfl⟩,λbk w vs hJ hn hi hl hr=>?_⟩;match vs,hl with
  |[v0],_=>
   have h:=hr 0 v0 _ rfl rfl;obtain rfl:v0=.int .u64 0:=by cases h;rfl
   refine(Tryz.bits_Len 0 w dD dD).mono ?_;rintro e w' ⟨rfl,rfl⟩;exact⟨_,_,rfl,rfl,.int _ _,Below.refl _ _⟩
theorem Qz (g:FuncId):aq C 315 [.sl [],.int .i64 0,.int .i64 0,.fn (.func g) [] []] (λr=>r=.val (.eW [])):=by refine ai Tryz.func315 rfl rfl rfl ?_;refine⟨1,rfl,?_⟩;refine bJ 53 (λ_:Unit=>[(2,.p (.int .i64 0)),(8,.p (.int .i64 1))]) (λ_=>[]) (λ_=>True) (λ_=>0) () trivial rfl wS trivial ?_;intro _ _;refine aF (λh=>absurd h dD) (λ_=>?_);exact rfl
theorem QA (g:FuncId):aq C 257 [.sl [],.int .i64 0,.int .i64 0,.fn (.func g) [] []] (λr=>r=.val (.eW [])):=by refine ai Tryz.func257 rfl rfl rfl ?_;refine⟨1,rfl,?_⟩;refine bJ 53 (λ_:Unit=>[(2,.p (.int .i64 0)),(8,.p (.int .i64 1))]) (λ_=>[]) (λ_=>True) (λ_=>0) () trivial rfl wS trivial ?_;intro _ _;refine aF (λh=>absurd h dD) (λ_=>?_);exact rfl
theorem QB (g:FuncId):aq C 287 [.sl [],.int .i64 0,.int .i64 0,.int .i64 0,.fn (.func g) [] []] (λr=>r=.val (.eW [])):=by refine ai Tryz.func287 rfl rfl rfl ?_;refine bJ 148 (λ_:Unit=>[(0,.p (.sl [])),(1,.p (.int .i64 0)),(2,.p (.int .i64 0)),(4,.p (.fn (.func g) [] []))]) (λ_=>[]) (λ_=>True) (λ_=>0) () trivial rfl wS trivial ?_;intro _ _;refine⟨0,rfl,?_⟩;refine aF (λ_=>?_) (λh=>absurd (show(0:Int)<=12 by decide) h);refine cl (Qz g) ?_;exact rfl
theorem QC (g:FuncId):aq C 188 [.sl [],.int .i64 0,.int .i64 0,.int .i64 0,.fn (.func g) [] []] (λr=>r=.val (.eW [])):=by refine ai Tryz.func188 rfl rfl rfl ?_;refine bJ 148 (λ_:Unit=>[(0,.p (.sl [])),(1,.p (.int .i64 0)),(2,.p (.int .i64 0)),(4,.p (.fn (.func g) [] []))]) (λ_=>[]) (λ_=>True) (λ_=>0) () trivial rfl wS trivial ?_;intro _ _;refine⟨0,rfl,?_⟩;refine aF (λ_=>?_) (λh=>absurd (show(0:Int)<=12 by decide) h);refine cl (QA g) ?_;exact rfl
theorem NH (g:FuncId):aq C 236 [.sl [],.fn (.func g) [] []] (λr=>r=.val (.eW [])):=by refine ai Tryz.func236 rfl rfl rfl ?_;refine⟨0,rfl,?_⟩;refine cl FX ?_;refine cl (QB g) ?_;exact rfl
theorem NI (g:FuncId):aq C 114 [.sl [],.fn (.func g) [] []] (λr=>r=.val (.eW [])):=by refine ai Tryz.func114 rfl rfl rfl ?_;refine⟨0,rfl,?_⟩;refine cl FX ?_;refine cl (QC g) ?_;exact rfl
theorem oy.NJ {bk:Nat->Nat->Prop}{B:Nat}{w':World}{v:Value}{T:TypeId}{bM:Nat}{xss:List (List AV)}(h:oy bk B w' v (.own none T bM xss)):oy bk B w' v (.val (.sl xss)):=by
 obtain⟨b,c,cs,fr,us,rfl,hB,hbs,h0,hlen,AL,hheap,hfr,hroom,hcells,-⟩:=h;show dA (kW bk B) w' (.slice (some ⟨b,0,none⟩) xss.length c) (.sl xss);have get:∀(i:Nat)(ys:List AV)(j:Nat)(y:AV),xss[i]?=some ys->ys[j]?=some y->∃u,w'.cell? ⟨b,i*bM+j,none⟩=some u/\dA (kW bk B) w' u y:=λi ys j y q1 q2=>by obtain⟨u,k1,k2⟩:=hcells _ _ (nD (λzs hz=>(AL zs hz).1) q1 q2);exact⟨u,k1,k2.keep (λb' o h=>h.imp id λq=>q.1) (λ_ _ _ _ h=>h) (.refl _ _)⟩
 refine .sl b 0 c bM xss (λi j=>(w'.cell? ⟨b,i*bM+j,none⟩).getD undef) (λi ys q=>(AL ys (bU q)).1) (λi ys j y q1 q2=>(AL ys (bU q1)).2 y (bU q2)) (λi ys j y q1 q2=>?_) (λi ys j y q1 q2=>.inr hB) (λi ys j y q1 q2=>?_) hlen;obtain⟨u,k1,k2⟩:=get i ys j y q1 q2;rw[de,k1];rfl;obtain⟨u,k1,k2⟩:=get i ys j y q1 q2;rw[k1];exact k2
theorem aq.NJ {C:Ctx}{f:FuncId}{args:List AV}{T:TypeId}{bM:Nat}{xss:List (List AV)}(h:aq C f args λr=>r=.own none T bM xss\/r=.val (.sl xss)):aq C f args λr=>r=.val (.sl xss):=⟨h.1,λbk w vs h1 h2 h3 h4 h5=>(h.2 bk w vs h1 h2 h3 h4 h5).mono λe w' ⟨v,r,q1,q2,q3,q4⟩=>by rcases q2 with rfl|rfl;exact⟨v,_,q1,rfl,oy.NJ q3,q4⟩;exact⟨v,_,q1,rfl,q3,q4⟩⟩
end Qv
namespace Qv
open Go Go.Proofs Go.Shelf Go.RowKit Go.Lib Go.Sort
theorem vg {w:World}{b off:Nat}{vs:List Value}(hin:∀j,j<vs.length->(w.cell? ⟨b,off+j,none⟩).isSome=true)(k:Nat):(w.setCells b off vs).cell? ⟨b,k,none⟩=if off<=k/\k<off+vs.length then vs[k-off]?else w.cell? ⟨b,k,none⟩:=by by_cases h:off<=k/\k<off+vs.length;rw[ag h];have :=World.cell?_setCells_in b vs off w hin (k-off) oO;rw[show off+(k-off)=k by omega]at this;rw[this];exact(av oO).symm;rw[af h];exact World.cell?_setCells_out b vs off w ⟨b,k,none⟩ (λ_ _=>by simp only at*;omega)
def tB:List Value:=match bO iZ 39 with|some j=>j.zero|none=>[]
theorem ab5:∀v,v∈tB->v.oneCell'=true:=λv hv=>bA.1 (show tB.all (λv=>v.oneCell')=true by kernel_rfl) v hv
theorem Ry {α:Type}{x:α}{l:List α}:∀{n:Nat},x∈kZ n l->x∈l|0,h=>nomatch h|n+1,h=>(aZ.1 h).elim id Ry
theorem JJ (b n c i j:Nat)(w:World)(cs:List Value)(hcs:cs.length=n*37)(hone:∀u,u∈cs->u.oneCell'=true)(hcell:∀(k:Nat)(u:Value),cs[k]?=some u->w.cell? ⟨b,k,none⟩=some u)(hfr:∀k,k<n*37->w.frozen? ⟨b,k,none⟩=false)(hij:i<j)(hj:j<=n)(hnc:n<=c):Calls Tryz.prog 14 #[.slice (some ⟨b,0,none⟩) n c,.int .i64 i,.int .i64 j] w λe w'=>e=.returned (.slice (some ⟨b,0,none⟩) (i+(n-j)) c)/\w'=(w.drew.setCells b (i*37) (cs.drop (j*37))).setCells b ((i+(n-j))*37) (kZ (n-(i+(n-j))) tB):=by
 have hT:=C.ok (show bO C.iZ 39=some ⟨37,120,.struct [(0,33),(32,37)],tB⟩from rfl);obtain⟨inf,-,hi0,hz1,-⟩:=hT.info';replace hi0:Tryz.prog.info? 39=some inf:=hi0;replace hz1:inf.size=37:=hz1;obtain⟨news,hnews⟩:∃news,news=cs.drop (j*37):=⟨_,rfl⟩;have hlen:news.length=(n-j)*37:=by rw[hnews,cQ,hcs,Nat.sub_mul]
 have tN:∀(t:Nat)(u:Value),news[t]?=some u->w.cell? ⟨b,j*37+t,none⟩=some u:=λt u h=>by rw[hnews,gY]at h;exact hcell _ u h
 obtain⟨A,hA,hsrc⟩:∃A:Addr,(if c=j then some (⟨b,0,none⟩:Addr)else some ⟨b,j*37,none⟩)=some A/\Hid (∀t u,news[t]?=some u->w.drew.cell? (A.add t)=some u):=by
  by_cases h:c=j;refine⟨⟨b,0,none⟩,by simp[h],λt u hu=>?_⟩;have h0:news.length=0:=by rw[hlen,show n-j=0 by omega,Nat.zero_mul]
  rw[bQ.1 h0]at hu;simp at hu;refine⟨⟨b,j*37,none⟩,by simp[h],λt u hu=>?_⟩;rw[Addr.add_lit];exact tN t u hu
 have s1:Hid (news.length=(n-j)*37):=hlen;have s2:Hid (∀u∈news,u.oneCell'=true):=λu hu=>hone u (CH (by rw[<-hnews];exact hu));have hle:(i+(n-j))*37<=n*37:=ew _ oO;have s3:Hid (∀t,t<news.length->(w.drew.cell? ⟨b,0+i*37+t,none⟩).isSome=true/\w.drew.frozen? ⟨b,0+i*37+t,none⟩=false):=λt ht=>by
  rw[hlen]at ht;have hlt:0+i*37+t<cs.length:=by rw[hcs];rw[bw]at hle;omega
  refine⟨?_,hfr _ (by rw[<-hcs];exact hlt)⟩;show(w.cell? _).isSome=true;rw[hcell _ _ (av hlt)];rfl
 have hu:Tryz.prog.underlying 23=some (.slice 39):=kK
 obtain⟨W1,hW1⟩:∃W1,W1=w.drew.setCells b (0+i*37) news:=⟨_,rfl⟩;obtain⟨m,hm⟩:∃m,m=i+(n-j):=⟨_,rfl⟩;have hrl:(kZ (n-m) tB).length=(n-m)*tB.length:=(lF tB (n-m)).1;have lU:∀ty,(Builtin.clear_ #[23] ty #[.slice (some ⟨b,m*37,none⟩) (n-m) (c-m)]).run Tryz.prog W1=.ok (.tuple #[]) (W1.setCells b (m*37) (kZ (n-m) tB)):=by
  intro ty;have hcW:∀k,k<n*37->(W1.cell? ⟨b,k,none⟩).isSome=true:=λk hk=>by rw[hW1,vg (λj hj=>(s3.out j hj).1)];split;rw[av oO];rfl;show(w.cell? _).isSome=true;rw[hcell _ _ (av (by rw[hcs];exact hk))];rfl
  have hfz:∀k,k<n*37->W1.frozen? ⟨b,k,none⟩=false:=λk hk=>by rw[hW1,World.frozen?_setCells];exact hfr k hk
  have hmn:m*37+(n-m)*37=n*37:=by rw[<-bw];congr 1;omega
  have hzl:tB.length=37:=rfl;rw[hzl]at hrl;obtain⟨z,hz,Cf⟩:=hT.zeroV W1;have Cf:z.cells.toList=tB:=Cf;have hst:=run_storeCells_cells (P:=Tryz.prog) b (m*37) (kZ (n-m) tB) 0 W1 (λk hk=>hcW _ oO) (λk hk=>hfz _ oO) (λv hv=>ab5 v (Ry hv));have :=HP (P:=Tryz.prog) W1 23 39 ty z hu hz b (m*37) (n-m) (c-m) (by rw[Cf];exact hst);rw[Cf]at this;exact this
 have hW:Hid (W1=w.drew.setCells b (0+i*37) news):=hW1;have hE:Hid ((w.drew.setCells b (i*37) news).setCells b (m*37) (kZ (n-m) tB)=W1.setCells b (m*37) (kZ (n-m) tB)):=by rw[hW1,de];exact rfl
 rw[<-hnews,<-hm];have mixed:Tryz.prog.follows Departure.mixedOrders=true:=kK
 have hic:i<=c:=oO
 have hjc:j<=c:=oO
 clear hW1 tN hlen hnews hcell hone hfr hcs hle hT;subst hm;go_enter Tryz.func14,Tryz.ntmps14;go_wp2_with fail;go_region_law_o (refine step_append_room rfl (.tmp 22) (.tmp 25) 23 rfl 39 inf 37 hu hi0 hz1 b 0 i c (by simp[Act.eval,Act.put]) A (n-j) (c-j) news (by simp[Act.eval,Act.put]) s1.out hsrc.out s2.out oO s3.out ?_;rw[<-hW.out]);go_wp2;go_ret;exact⟨rfl,hE.out.symm⟩
def XQ:List AV:=cD aV++[.str [],.str [],.int .i64 0,.sl [],.sl []]
theorem ab6 {bk:Nat->Nat->Prop}{w:World}(k:Nat)(v:Value)(x:AV)(hv:tB[k]?=some v)(hx:XQ[k]?=some x):dA bk w v x:=by
 have h1:FV.fe (tB.map FV.gv)=some XQ:=kK
 have h2:(tB.map FV.gv)[k]?=some (FV.gv v):=by rw[aN,hv];rfl
 obtain⟨y,e1,e2⟩:=(FV.iC h1).2 k x hx;rw[h2]at e1;obtain rfl:=au e1;exact((pL (G:=bare bk) (w:=w) tB).2 k v _ hv h2).eG e2
theorem Rz (Cx:Ctx)(hP:Cx.P=Tryz.prog)(cells:List AV)(n i j:Nat)(lU:cells.length=n*37)(h1:∀y,y∈cells->y.one=true)(hij:i<j)(hj:j<=n):VC Cx 14 39 37 cells [.int .i64 (i:Int),.int .i64 (j:Int)] (λr ys=>r=true/\ys=cells.take (i*37)++cells.drop (j*37)):=by
 refine⟨by rw[hP];exact⟨_,Tryz.func14,rfl,rfl⟩,λbk w b n' c vs hJ hn Bi hnb hb hown hty alk hnc h0 hcells hvl hvr=>?_⟩;rw[hP];obtain rfl:n=n':=ga dD (lU.symm.trans alk);match vs,hvl with
  |[v1,v2],_=>
   obtain rfl:=(hvr 0 v1 _ rfl rfl).fo;obtain rfl:=(hvr 1 v2 _ rfl rfl).fo;obtain⟨cs,hcs⟩:∃cs:List Value,cs=(List.range (n*37)).map λk=>(w.cell? ⟨b,k,none⟩).getD undef:=⟨_,rfl⟩;have hlen:cs.length=n*37:=by rw[hcs];simp
   have hce:∀(k:Nat)(u:Value),cs[k]?=some u->w.cell? ⟨b,k,none⟩=some u/\∃x,cells[k]?=some x/\dA bk w u x:=λk u h=>by
    have hk:k<n*37:=by rw[<-hlen];exact(aJ.1 h).1
    have hx:cells[k]?=some cells[k]:=av oO;obtain⟨c',q1,q2⟩:=hcells k _ hx;rw[hcs,aN,sZ hk]at h;have h:(w.cell? ⟨b,k,none⟩).getD undef=u:=au h;rw[q1]at h;obtain rfl:c'=u:=h;exact⟨q1,_,hx,q2⟩
   have hone:∀u,u∈cs->u.oneCell'=true:=λu hu=>by obtain⟨k,hk,rfl⟩:=ig hu;obtain⟨-,x,hx,hr⟩:=hce k _ (av hk);exact hr.VH (h1 x (bU hx))
   refine(JJ b n c i j w cs hlen hone (λk u h=>(hce k u h).1) (λk _=>(hown k).2) hij hj hnc).mono ?_;rintro e w' ⟨rfl,hw'⟩;obtain⟨m,hm⟩:∃m,m=i+(n-j):=⟨_,rfl⟩;rw[<-hm]at hw'⊢;have hmn:m*37+(n-m)*37=n*37:=by rw[<-bw];congr 1;omega
   have amf:i*37+(n-j)*37=m*37:=by rw[<-bw,hm]
   have an7:j*37+(n-j)*37=n*37:=by rw[<-bw];congr 1;omega
   have hzl:(kZ (n-m) tB).length=(n-m)*37:=(lF tB (n-m)).1;have hzA:(kZ (n-m) XQ).length=(n-m)*37:=(lF XQ (n-m)).1;have hdl:(cs.drop (j*37)).length=(n-j)*37:=by rw[cQ,hlen];omega
   have GH:(cells.take (i*37)++cells.drop (j*37)).length=m*37:=by rw[ay,aL,cQ,lU];omega
   have c1:∀k,k<n*37->(w.drew.cell? ⟨b,k,none⟩).isSome=true:=λk hk=>by show(w.cell? _).isSome=true;rw[(hce k _ (av (by rw[hlen];exact hk))).1];rfl
   have hW1:=λk=>vg (w:=w.drew) (b:=b) (off:=i*37) (vs:=cs.drop (j*37)) (λq hq=>c1 _ oO) k;have hW2:=λk=>vg (w:=w.drew.setCells b (i*37) (cs.drop (j*37))) (b:=b) (off:=m*37) (vs:=kZ (n-m) tB) (λq hq=>by rw[hW1];split;rw[av oO];rfl;exact c1 _ oO) k;rw[<-hw']at hW2;have Bo:∀k,k≠b->w'.heap[k]?=w.heap[k]?:=λk hk=>by rw[hw',fT _ _ _ _ _ hk,fT _ _ _ _ _ hk];rfl
   have keep:∀u x,dA bk w u x->dA (kW bk w.heap.size) w' u x:=λu x h=>by refine h.uu (λb2 o cv hi hc=>⟨.inl hi,?_⟩) (λb2 es k hi hc=>⟨.inl hi,?_⟩);have hne:b2≠b:=λe=>(hown o).1 (e▸hi);unfold World.cell? at hc⊢;rw[Bo b2 hne];exact hc;have hne:b2≠b:=λe=>(hown 0).1 (e▸hi);rw[Bo b2 hne];exact hc
   refine⟨_,true,cells.take (i*37)++cells.drop (j*37),(cells.take (i*37)++cells.drop (j*37))++kZ (n-m) XQ,rfl,⟨rfl,rfl⟩,by rw[ay,GH,hzA,lU];omega,⟨m,rfl,oO,by rw[List.take_left' GH]⟩,λk x hx=>?_,?_,?_,?_,?_,λk hk hne=>Bo k hne,λcs0 T fr aln=>?_⟩;by_cases hk:k<m*37;rw[cG (by rw[GH];exact hk)]at hx;rw[hW2,af oO,hW1];by_cases hk2:k<i*37;rw[af oO];rw[cG (by rw[aL,lU];omega),sW,ag hk2]at hx;obtain⟨cv,q1,q2⟩:=hcells k x hx;exact⟨cv,q1,keep _ _ q2⟩;rw[ag oO];have hlt:j*37+(k-i*37)<cs.length:=oO
   rw[dH (by rw[aL,lU];omega),aL,ou oO,gY]at hx;obtain⟨q1,y,q2,q3⟩:=hce _ _ (av hlt);rw[hx]at q2;obtain rfl:=au q2;exact⟨_,by rw[gY];exact av hlt,keep _ _ q3⟩;rw[dH (by rw[GH];omega),GH]at hx;have hk3:k-m*37<(n-m)*37:=by rw[<-hzA];exact(aJ.1 hx).1
   rw[hW2,ag oO];rw[(lF XQ (n-m)).2 _ hk3]at hx;have hv:=(lF tB (n-m)).2 _ hk3;have hlt:(k-m*37)%tB.length<tB.length:=jh _ dD;rw[av hlt]at hv;exact⟨_,hv,ab6 _ _ x (av hlt) hx⟩;rw[hw',(jt _ _ _ _).1,(jt _ _ _ _).1];rfl;rw[hw',(jt _ _ _ _).2.1,(jt _ _ _ _).2.1];rfl;rw[hw',(jt _ _ _ _).2.2,(jt _ _ _ _).2.2];rfl;rw[hw',gW,gW];exact aA _;obtain⟨c1,q1,q2⟩:=nC b (cs.drop (j*37)) (i*37) w.drew b cs0 T fr aln;obtain⟨c2,q3,q4⟩:=nC b (kZ (n-m) tB) (m*37) _ b c1 T fr q1;exact⟨c2,by rw[hw'];exact q3,q4.trans q2⟩
end Qv
