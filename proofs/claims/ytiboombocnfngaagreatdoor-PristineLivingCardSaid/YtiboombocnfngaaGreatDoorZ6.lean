/- Part 12 of the proof: its lemmas. No condition. -/
import Derived.Test.YtiboombocnfngaaGreatDoorZ1
import Derived.Test.YtiboombocnfngaaGreatDoorZ2
import Derived.Test.YtiboombocnfngaaGreatDoorZ4
import Derived.BigQuiet
import Derived.Shelf.SlSortCmp.WholeK
import Derived.Shelf.Slices.Delete
set_option maxRecDepth 100000
set_option maxHeartbeats 80000000
set_option linter.all false
open Go Go.Proofs Go.RowKit Go.Sort
namespace Qv
structure akU (T:Prop):Prop where
 out:T
theorem FK (W:World)(v0 v1:Value)(a b:Bytes)(e0:(Extern.Bytes.bytesOf v0).run Tryz.prog W=.ok ⟨a.toArray⟩ W)(e1:(Extern.Bytes.bytesOf v1).run Tryz.prog W=.ok ⟨b.toArray⟩ W):Calls Tryz.prog 146 #[v0,v1] W λe w'=>e=.returned (.int .i64 (cmpL a b))/\w'=W:=by
 have hrun:(Extern.BytealgCompare.compare #[v0,v1]).run Tryz.prog W=.ok (.int .i64 (cmpL a b)) W:=by change Sem.run Tryz.prog (do pure (goInt (Extern.BytealgCompare.cmp (<-Extern.Bytes.bytesOf v0) (<-Extern.Bytes.bytesOf v1)))) W=_;simp only[Sem.run_bind,e0,e1,Result.andThen_ok,Sem.run_pure];rw[Lib.cmp_eq,cmpL_eq];rfl
 clear e0 e1;go_enter Tryz.func146,Tryz.ntmps146;go_wp2;rw[run_callFunc_extern Tryz.func212 kK kK kK (e:=Extern.BytealgCompare.compare) kK,hrun];simp only[Result.andThen];rw[Oper.upon_value];go_wp2;go_ret;exact⟨rfl,rfl⟩
def vD (d:Dg):List Value:=d.1.map λc=>Value.int .u8 (c.toNat:Int)
theorem EE (d:Dg):(vD d).length=32:=by unfold vD;rw[aj];exact d.2
theorem qN {P:Program}{W:World}{blk:Nat}{d:Dg}(h:∀(j:Nat)(c:UInt8),d.1[j]?=some c->W.cell? ⟨blk,j,none⟩=some (.int .u8 (c.toNat:Int)))(cap:Nat):(Extern.Bytes.bytesOf (.slice (some ⟨blk,0,none⟩) 32 cap)).run P W=.ok ⟨d.1.toArray⟩ W:=by
 have :=Lib.run_loadBytesX (P:=P) (w:=W) (d.1.map λc=>(c.toNat:Int)) ⟨blk,0,none⟩ .empty λj x hx=>by rw[aJ]at hx;obtain⟨c',hc',rfl⟩:=wg.1 hx;rw[Addr.add_lit,dn];exact h j c' hc'
 rw[aj,d.2]at this;have e:Lib.bytesOf (d.1.map λc=>(c.toNat:Int))=d.1:=by show(d.1.map λc=>(c.toNat:Int)).map (λn=>UInt8.ofNat n.toNat)=d.1;rw[dV];exact(dF λc _=>by simp).trans (List.map_id _)
 rw[e]at this;simpa[Extern.Bytes.bytesOf]using this
theorem uZ (W:World)(A B:Array Value)(T U:TypeId)(n:Nat)(j:Nat)(c:Value):(A[j]?=some c->(((W.alloc (.cells A T)).alloc (.cells B U)).drewN n).cell? ⟨W.heap.size,j,none⟩=some c)/\(B[j]?=some c->(((W.alloc (.cells A T)).alloc (.cells B U)).drewN n).cell? ⟨W.heap.size+1,j,none⟩=some c):=by
 have e1:(((W.alloc (.cells A T)).alloc (.cells B U)).drewN n).heap=(W.heap.push (.cells A T)).push (.cells B U):=rfl;constructor;intro h;unfold World.cell?;rw[e1];simp[Array.getElem?_push,h];intro h;have e2:((W.heap.push (.cells A T)).push (.cells B U))[W.heap.size+1]?=some (.cells B U):=by rw[show W.heap.size+1=(W.heap.push (.cells A T)).size from by simp];exact Array.getElem?_push_size
 unfold World.cell?;rw[e1];simp only[e2];exact h
theorem aax (d:Dg)(j:Nat)(c:UInt8)(h:d.1[j]?=some c):(vD d).toArray[j]?=some (.int .u8 (c.toNat:Int)):=by unfold vD;simp[h]
theorem aay (a b:Dg)(W:World):Calls Tryz.prog 75 #[.agg (vD a).toArray,.agg (vD b).toArray] W λe w'=>e=.returned (.int .i64 (dA a b))/\∃q os',w'=grow (W.drewN q) os':=by have hc:∀n,Calls Tryz.prog 146 #[.slice (some ⟨W.heap.size,0,none⟩) 32 32,.slice (some ⟨W.heap.size+1,0,none⟩) 32 32] (((W.alloc (.cells (vD a).toArray 33)).alloc (.cells (vD b).toArray 33)).drewN n) λe w'=>e=.returned (.int .i64 (cmpL a.1 b.1))/\w'=(((W.alloc (.cells (vD a).toArray 33)).alloc (.cells (vD b).toArray 33)).drewN n):=λn=>FK _ _ _ a.1 b.1 (qN (λj c h=>(uZ W _ _ 33 33 n j _).1 (aax a j c h)) 32) (qN (λj c h=>(uZ W _ _ 33 33 n j _).2 (aax b j c h)) 32);have la:=EE a;have lb:=EE b;go_enter Tryz.func75,Tryz.ntmps75;go_wp2;go_quiet (first|(go_at_call 146;refine Calls.quiet_of_same (hc _)));go_wp2;go_ret;refine⟨rfl,nq,#[.cells (vD a).toArray 33,.cells (vD b).toArray 33],?_⟩;rfl
def vI (x:bB):List Value:=vD x.p++[.int .i64 x.n]
theorem aaz (x:bB):(vI x).length=33:=by unfold vI;rw[ay,EE];rfl
theorem aeT (x:bB)(j:Nat)(c:UInt8)(h:x.p.1[j]?=some c):(vI x).toArray[j]?=some (.int .u8 (c.toNat:Int)):=by
 have h1:=aax x.p j c h;have hj:j<(vD x.p).length:=by rw[EE];have :=(aG.1 h).1;rw[x.p.2]at this;exact this
 unfold vI;simp only[Cw]at h1⊢;rw[cV hj];exact h1
theorem aih (x:bB):(vI x).toArray[32]?=some (.int .i64 x.n):=by unfold vI;simp only[Cw];rw[eu (by rw[EE];decide),EE];rfl
theorem WW (a b:bB)(W:World):Calls Tryz.prog 96 #[.agg (vI a).toArray,.agg (vI b).toArray] W λe w'=>e=.returned (.int .i64 (gq a b))/\∃q os',w'=grow (W.drewN q) os':=by
 have hc:∀n,Calls Tryz.prog 146 #[.slice (some ⟨W.heap.size,0,none⟩) 32 32,.slice (some ⟨W.heap.size+1,0,none⟩) 32 32] (((W.alloc (.cells (vI a).toArray 54)).alloc (.cells (vI b).toArray 54)).drewN n) λe w'=>e=.returned (.int .i64 (cmpL a.p.1 b.p.1))/\w'=(((W.alloc (.cells (vI a).toArray 54)).alloc (.cells (vI b).toArray 54)).drewN n):=λn=>FK _ _ _ a.p.1 b.p.1 (qN (λj c h=>(uZ W _ _ 54 54 n j _).1 (aeT a j c h)) 32) (qN (λj c h=>(uZ W _ _ 54 54 n j _).2 (aeT b j c h)) 32);have n1:∀n,(((W.alloc (.cells (vI a).toArray 54)).alloc (.cells (vI b).toArray 54)).drewN n).cell? ⟨W.heap.size,32,none⟩=some (.int .i64 a.n):=λn=>(uZ W _ _ 54 54 n 32 _).1 (aih a);have n2:∀n,(((W.alloc (.cells (vI a).toArray 54)).alloc (.cells (vI b).toArray 54)).drewN n).cell? ⟨W.heap.size+1,32,none⟩=some (.int .i64 b.n):=λn=>(uZ W _ _ 54 54 n 32 _).2 (aih b);have la:=aaz a;have lb:=aaz b;have hI:∀w,Calls Tryz.prog 170 #[.int .i64 a.n,.int .i64 b.n] w λe w'=>e=.returned (.int .i64 (Lib.compareInt a.n b.n))/\w'=w:=λw=>Tryz.cmp_Compare_int a.n b.n w;have hci:Lib.compareInt a.n b.n=if a.n<b.n then-1 else if b.n<a.n then 1 else 0:=rfl;generalize Lib.compareInt a.n b.n=ci at hI hci;have hcmp:gq a b=if cmpL a.p.1 b.p.1≠0 then cmpL a.p.1 b.p.1 else ci:=by rw[hci];rfl
 generalize cmpL a.p.1 b.p.1=cl at hc hcmp;by_cases h0:cl=0
 ·subst h0;rw[aa (λg=>g rfl)]at hcmp;rw[hcmp];clear hcmp hci;go_enter Tryz.func96,Tryz.ntmps96;go_wp2;go_quiet (first|(go_at_call 146;refine Calls.quiet_of_same (hc _)));have m1:=n1 nq;have m2:=n2 nq;generalize hW:(((W.alloc (.cells (vI a).toArray 54)).alloc (.cells (vI b).toArray 54)).drewN nq)=W2 at m1 m2⊢;have hg:W2=grow (W.drewN nq) #[.cells (vI a).toArray 54,.cells (vI b).toArray 54]:=hW.symm;have hG:akU (W2=grow (W.drewN nq) #[.cells (vI a).toArray 54,.cells (vI b).toArray 54]):=⟨hg⟩;clear hW n1 n2 hc hg;go_wp2_with (go_at_call 170;refine(hI _).mono ?_;rintro e w' ⟨rfl,rfl⟩);go_ret;exact⟨rfl,_,_,hG.out⟩
 rw[af h0]at hcmp;rw[hcmp];clear hcmp hci;have hne:(cl==0)=false:=CL.2 h0;have akV:(cl !=0)=true:=by simpa using h0
 go_enter Tryz.func96,Tryz.ntmps96;go_wp2;go_quiet (first|(go_at_call 146;refine Calls.quiet_of_same (hc _)));go_wp2;go_ret;exact⟨rfl,nq,#[.cells (vI a).toArray 54,.cells (vI b).toArray 54],rfl⟩
def Lo:AV->Value|.int k n=>.int k n|_=>undef
def ady (l:List AV):Prop:=∀y,y∈l->∃k n,y=.int k n
section
variable {α:Type}[Inhabited α](cell:α->List AV)(k:Nat)(hk:∀x,(cell x).length=k)(hi:∀x,ady (cell x))
def va (cell:α->List AV)(x:α):List Value:=(cell x).map Lo
include hk in theorem wK (l:List α):(l.map cell).flatten.length=l.length*k:=by rw[gG (e:=k) λzs h=>by obtain⟨x,-,rfl⟩:=aB.1 h;exact hk x];simp
include hk in theorem adz (l:List α){j:Nat}(h0:0<k)(h:j<l.length*k):∃hj:j/k<l.length,∃hm:j%k<(cell l[j/k]).length,(l.map cell).flatten[j]?=some ((cell l[j/k])[j%k]):=by
 have h1:j/k<l.length:=(Nat.div_lt_iff_lt_mul h0).2 h;have h2:j%k<(cell l[j/k]).length:=by rw[hk];exact pn _ h0
 refine⟨h1,h2,?_⟩;have :=mO (λzs h=>by obtain⟨x,-,rfl⟩:=aB.1 h;exact hk x) (show(l.map cell)[j/k]?=some (cell l[j/k])by simp[h1]) (an h2);rw[vW,Nat.div_add_mod]at this;exact this
include hk in theorem aaA (l:List α){j:Nat}(h0:0<k)(h:j<l.length*k):∃y,(l.map cell).flatten[j]?=some y/\(flatK (va cell) k l.toArray)[j]! =Lo y/\∃x,x∈l/\y∈cell x:=by
 obtain⟨h1,h2,h3⟩:=adz cell k hk l h0 h;refine⟨_,h3,?_,l[j/k],aT h1,aT h2⟩;rw[get_flatK _ _ _ _ (by simpa using h)];have e1:(l.toArray)[j/k]! =l[j/k]:=by rw[getElem!_pos (l.toArray) (j/k) (by simpa using h1)];simp
 rw[e1];unfold va;rw[getElem!_pos _ _ (by rw[aj];exact h2),mg]
include hk hi in theorem EF {ρ:Shelf.Ren}(L:SlLaysF0.n6 Tryz.prog ρ)(h0:0<k)(aE:∀w,(isAgg (ρ.t 24)).run Tryz.prog w=.ok true w)(zE:∀w,(Go.sizeOf (ρ.t 24)).run Tryz.prog w=.ok k w)(cf:α->α->Int)(hO:SWO (ltOf cf))(hT:∀x y,¬cf x y<0->¬cf y x<0->x=y)(g:Nat)(eg:∀args w,(callFunc g args).run Tryz.prog w=.ok (.enter g args) w)(hcmp:∀(x y:α)(W:World),Calls Tryz.prog g #[.agg (va cell x).toArray,.agg (va cell y).toArray] W λe w'=>e=.returned (.int .i64 (cf x y))/\∃q os',w'=grow (W.drewN q) os')(Cx:Ctx)(hP:Cx.P=Tryz.prog)(hf:∃fn,Tryz.prog.funcs[ρ.f 6]?=some fn/\fn.body.isNone=false/\(fn.name== "runtime.NumGoroutine")=false)(T:TypeId)(l:List α)(hl:l.length<4611686018427387904):VI Cx (ρ.f 6) T k (l.map cell).flatten [.fn (.func g) [] []] (λr ys=>r=false/\ys=((l.mergeSort λx y=>!decide (cf y x<0)).map cell).flatten):=by
 refine⟨by rw[hP];exact hf,λbh w b n c vs hJ hn BX hnb hb hown hty mG hnc h1 hcells hvl hvr=>?_⟩;rw[hP];match vs,hvl with
  |[v],_=>
   have hv:=hvr 0 v _ rfl rfl;have hv:v=.func (.func g) #[] #[]:=by
    cases hv with
    |fn _ fs cs _ _ q1 q2=>rw[cO.1 q1,cO.1 q2]
   subst hv;rw[wK cell k hk]at mG;obtain rfl:n=l.length:=(gx h0 mG).symm;have hH:HoldsK (va cell) k w b 0 l.toArray:=by
    intro j hj;rw[size_flatK]at hj;have hj:j<l.length*k:=by simpa using hj
    obtain⟨y,q1,q2,x,-,q3⟩:=aaA cell k hk l h0 hj;obtain⟨c',q4,q5⟩:=hcells j y q1;refine⟨?_,(hown (0+j)).2⟩;rw[dn,q4,q2,show id (Lo y)=Lo y from rfl];obtain⟨kk,m,rfl⟩:=hi x y q3;rw[q5.fL];rfl
   have aii:=AnyQ.slices_SortFunc L k aE zE (va cell) (λx=>by unfold va;rw[aj];exact hk x) (λx v hv=>by unfold va at hv;obtain⟨y,hy,rfl⟩:=aB.1 hv;obtain⟨kk,m,rfl⟩:=hi x y hy;rfl) cf hO g #[] b 0 c l.toArray w eg (λm os dk hs x y=>hcmp x y _) hH hb (by simpa using hl);have hsz:l.toArray.size=l.length:=by simp
   rw[hsz]at aii;show Calls Tryz.prog (ρ.f 6) #[.slice (some ⟨b,0,none⟩) l.length c,.func (.func g) #[] #[]] w _;refine aii.mono ?_;rintro e w' ⟨rfl,d',q,os,hp,hso,rfl⟩;have hd:d'=((l.mergeSort λx y=>!decide (cf y x<0))).toArray:=by have :=sorted_unique_holds (lt:=ltOf cf) hO (λx y q1 q2=>hT x y (by simpa[ltOf]using q1) (by simpa[ltOf]using q2)) l.toArray d' (by rw[hsz];exact hp) (by rw[hsz];exact hso);apply kf.1;rw[this];rfl
   generalize hm:(l.mergeSort λx y=>!decide (cf y x<0))=m at hd⊢;have hml:m.length=l.length:=by rw[<-hm];exact Dp _
   subst hd;have hH':=holdsK_sortWorldK_c (va cell) k w b 0 l.toArray m.toArray q os hH hb (by simpa using hml);refine⟨_,false,(m.map cell).flatten,(m.map cell).flatten,rfl,⟨rfl,rfl⟩,by rw[wK cell k hk,wK cell k hk,hml],⟨rfl,rfl⟩,λi x hx=>?_,rfl,rfl,rfl,size_sortWorldK_c (va cell) k w b 0 q m.toArray os,λkk hkk hne=>?_,λcs T' fr hcs=>?_⟩;have hi':i<m.length*k:=by rw[<-wK cell k hk];exact(aG.1 hx).1
   obtain⟨y,q1,q2,z,-,q3⟩:=aaA cell k hk m h0 hi';rw[hx]at q1;obtain rfl:=ak q1;have :=(hH' i (by rw[size_flatK];simpa using hi')).1;rw[dn,q2]at this;refine⟨_,this,?_⟩;obtain⟨kk,mm,rfl⟩:=hi z x q3;exact dh.int _ _;unfold sortWorldK putRowK putRow mapBlock grow;show((Sort.ahead w q).heap.modify b _++os)[kk]?=w.heap[kk]?;rw[rW (by simpa[Sort.ahead]using hkk),jk,aa (cU hne)];rfl;refine⟨putCells id 0 (flatK (va cell) k m.toArray) cs,?_,by simp[putCells]⟩;unfold sortWorldK putRowK putRow mapBlock grow;show((Sort.ahead w q).heap.modify b _++os)[b]?=_;rw[rW (by simpa[Sort.ahead]using hb),jk,af rfl];show Option.map _ w.heap[b]?=_;rw[hcs];rfl
end
theorem Nz (d:Dg):va cD d=vD d:=by unfold va vD;rw[Il,dV];rfl
theorem UZ (x:bB):va cI x=vI x:=by show(cD x.p++[AV.int .i64 x.n]).map Lo=_;rw[aF,show(cD x.p).map Lo=vD x.p from Nz x.p];rfl
theorem WX (a b:Dg)(W:World):Calls Tryz.prog 75 #[.agg (va cD a).toArray,.agg (va cD b).toArray] W λe w'=>e=.returned (.int .i64 (dA a b))/\∃q os',w'=grow (W.drewN q) os':=by rw[Nz,Nz];exact aay a b W
theorem SY (a b:bB)(W:World):Calls Tryz.prog 96 #[.agg (va cI a).toArray,.agg (va cI b).toArray] W λe w'=>e=.returned (.int .i64 (gq a b))/\∃q os',w'=grow (W.drewN q) os':=by rw[UZ,UZ];exact WW a b W
end Qv
open Go Go.Proofs Go.RowKit
namespace Qv
theorem yV:au C 143 [.int .u64 0] (λr=>r=.val (.int .i64 0)):=by
 refine⟨⟨_,Tryz.func143,rfl,rfl⟩,λbh w vs hJ hn hi hl hr=>?_⟩;match vs,hl with
  |[v0],_=>
   have h:=hr 0 v0 _ rfl rfl;obtain rfl:v0=.int .u64 0:=by cases h;rfl
   refine(Tryz.bits_Len 0 w dD dD).mono ?_;rintro e w' ⟨rfl,rfl⟩;exact⟨_,_,rfl,rfl,.int _ _,Below.refl _ _⟩
theorem Qo (g:FuncId):au C 315 [.sl [],.int .i64 0,.int .i64 0,.fn (.func g) [] []] (λr=>r=.val (.eS [])):=by refine aq Tryz.func315 rfl rfl rfl ⟨1,rfl,bW 53 (λ_:Unit=>[(2,.p (.int .i64 0)),(8,.p (.int .i64 1))]) (λ_=>[]) (λ_=>True) (λ_=>0) () trivial rfl wS trivial ?_⟩;intro _ _;refine aQ (λh=>absurd h dD) (λ_=>?_);exact rfl
theorem Qp (g:FuncId):au C 257 [.sl [],.int .i64 0,.int .i64 0,.fn (.func g) [] []] (λr=>r=.val (.eS [])):=by refine aq Tryz.func257 rfl rfl rfl ⟨1,rfl,bW 53 (λ_:Unit=>[(2,.p (.int .i64 0)),(8,.p (.int .i64 1))]) (λ_=>[]) (λ_=>True) (λ_=>0) () trivial rfl wS trivial ?_⟩;intro _ _;refine aQ (λh=>absurd h dD) (λ_=>?_);exact rfl
theorem Qq (g:FuncId):au C 287 [.sl [],.int .i64 0,.int .i64 0,.int .i64 0,.fn (.func g) [] []] (λr=>r=.val (.eS [])):=by refine aq Tryz.func287 rfl rfl rfl (bW 148 (λ_:Unit=>[(0,.p (.sl [])),(1,.p (.int .i64 0)),(2,.p (.int .i64 0)),(4,.p (.fn (.func g) [] []))]) (λ_=>[]) (λ_=>True) (λ_=>0) () trivial rfl wS trivial ?_);intro _ _;refine⟨0,rfl,aQ (λ_=>?_) (λh=>absurd (show(0:Int)<=12 by decide) h)⟩;exact cl (Qo g) rfl
theorem Qr (g:FuncId):au C 188 [.sl [],.int .i64 0,.int .i64 0,.int .i64 0,.fn (.func g) [] []] (λr=>r=.val (.eS [])):=by refine aq Tryz.func188 rfl rfl rfl (bW 148 (λ_:Unit=>[(0,.p (.sl [])),(1,.p (.int .i64 0)),(2,.p (.int .i64 0)),(4,.p (.fn (.func g) [] []))]) (λ_=>[]) (λ_=>True) (λ_=>0) () trivial rfl wS trivial ?_);intro _ _;refine⟨0,rfl,aQ (λ_=>?_) (λh=>absurd (show(0:Int)<=12 by decide) h)⟩;exact cl (Qp g) rfl
theorem NA (g:FuncId):au C 236 [.sl [],.fn (.func g) [] []] (λr=>r=.val (.eS [])):=by exact aq Tryz.func236 rfl rfl rfl ⟨0,rfl,cl yV (cl (Qq g) rfl)⟩
theorem NB (g:FuncId):au C 114 [.sl [],.fn (.func g) [] []] (λr=>r=.val (.eS [])):=by exact aq Tryz.func114 rfl rfl rfl ⟨0,rfl,cl yV (cl (Qr g) rfl)⟩
theorem nH.NC {bh:Nat->Nat->Prop}{B:Nat}{w':World}{v:Value}{T:TypeId}{bI:Nat}{xss:List (List AV)}(h:nH bh B w' v (.own none T bI xss)):nH bh B w' v (.val (.sl xss)):=by
 obtain⟨b,c,cs,fr,us,rfl,hB,hbs,h0,hlen,Av,hheap,hfr,hroom,hcells,-⟩:=h;show dh (lq bh B) w' (.slice (some ⟨b,0,none⟩) xss.length c) (.sl xss);have get:∀(i:Nat)(ys:List AV)(j:Nat)(y:AV),xss[i]?=some ys->ys[j]?=some y->∃u,w'.cell? ⟨b,i*bI+j,none⟩=some u/\dh (lq bh B) w' u y:=λi ys j y q1 q2=>by obtain⟨u,k1,k2⟩:=hcells _ _ (mO (λzs hz=>(Av zs hz).1) q1 q2);exact⟨u,k1,k2.keep (λb' o h=>h.imp id λq=>q.1) (λ_ _ _ _ h=>h) (.refl _ _)⟩
 refine .sl b 0 c bI xss (λi j=>(w'.cell? ⟨b,i*bI+j,none⟩).getD undef) (λi ys q=>(Av ys (bP q)).1) (λi ys j y q1 q2=>(Av ys (bP q1)).2 y (bP q2)) (λi ys j y q1 q2=>?_) (λi ys j y q1 q2=>.inr hB) (λi ys j y q1 q2=>?_) hlen;obtain⟨u,k1,k2⟩:=get i ys j y q1 q2;rw[dn,k1];rfl;obtain⟨u,k1,k2⟩:=get i ys j y q1 q2;rw[k1];exact k2
theorem au.NC {C:Ctx}{f:FuncId}{args:List AV}{T:TypeId}{bI:Nat}{xss:List (List AV)}(h:au C f args λr=>r=.own none T bI xss\/r=.val (.sl xss)):au C f args λr=>r=.val (.sl xss):=⟨h.1,λbh w vs h1 h2 h3 h4 h5=>(h.2 bh w vs h1 h2 h3 h4 h5).mono λe w' ⟨v,r,q1,q2,q3,q4⟩=>by rcases q2 with rfl|rfl;exact⟨v,_,q1,rfl,nH.NC q3,q4⟩;exact⟨v,_,q1,rfl,q3,q4⟩⟩
end Qv
namespace Qv
open Go Go.Proofs Go.Shelf Go.RowKit Go.Lib Go.Sort
end Qv
