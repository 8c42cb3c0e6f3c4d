/- Part 12 of the proof: its lemmas. No condition. -/
import Derived.Test.YtiboombocnfngaaGreatDoorX1
import Derived.Test.YtiboombocnfngaaGreatDoorX2
import Derived.Test.YtiboombocnfngaaGreatDoorX4
import Derived.BigQuiet
import Derived.Shelf.SlSortCmp.WholeK
set_option maxRecDepth 100000
set_option maxHeartbeats 80000000
set_option linter.all false
open Go Go.Proofs Go.RowKit Go.Sort
namespace Qv
structure alQ (T:Prop):Prop where
 out:T
theorem Gs (W:World)(v0 v1:Value)(a b:Bytes)(e0:(Extern.Bytes.bytesOf v0).run Tryz.prog W=.ok ⟨a.toArray⟩ W)(e1:(Extern.Bytes.bytesOf v1).run Tryz.prog W=.ok ⟨b.toArray⟩ W):Calls Tryz.prog 146 #[v0,v1] W λe w'=>e=.returned (.int .i64 (cmpL a b))/\w'=W:=by
 have hrun:(Extern.BytealgCompare.compare #[v0,v1]).run Tryz.prog W=.ok (.int .i64 (cmpL a b)) W:=by change Sem.run Tryz.prog (do pure (goInt (Extern.BytealgCompare.cmp (<-Extern.Bytes.bytesOf v0) (<-Extern.Bytes.bytesOf v1)))) W=_;simp only[Sem.run_bind,e0,e1,Result.andThen_ok,Sem.run_pure];rw[Lib.cmp_eq,cmpL_eq];rfl
 clear e0 e1;go_enter Tryz.func146,Tryz.ntmps146;go_wp2;rw[run_callFunc_extern Tryz.func212 kK kK kK (e:=Extern.BytealgCompare.compare) kK,hrun];simp only[Result.andThen];rw[Oper.upon_value];go_wp2;go_ret;exact⟨rfl,rfl⟩
def vD (d:Dg):List Value:=d.1.map λc=>Value.int .u8 (c.toNat:Int)
theorem Fp (d:Dg):(vD d).length=32:=by unfold vD;rw[aj];exact d.2
theorem rU {P:Program}{W:World}{blk:Nat}{d:Dg}(h:∀(j:Nat)(c:UInt8),d.1[j]?=some c->W.cell? ⟨blk,j,none⟩=some (.int .u8 (c.toNat:Int)))(cap:Nat):(Extern.Bytes.bytesOf (.slice (some ⟨blk,0,none⟩) 32 cap)).run P W=.ok ⟨d.1.toArray⟩ W:=by
 have :=Lib.run_loadBytesX (P:=P) (w:=W) (d.1.map λc=>(c.toNat:Int)) ⟨blk,0,none⟩ .empty λj x hx=>by rw[aM]at hx;obtain⟨c',hc',rfl⟩:=tB.1 hx;rw[Addr.add_lit,dF];exact h j c' hc'
 rw[aj,d.2]at this;have e:Lib.bytesOf (d.1.map λc=>(c.toNat:Int))=d.1:=by show(d.1.map λc=>(c.toNat:Int)).map (λn=>UInt8.ofNat n.toNat)=d.1;rw[fP];exact(en λc _=>by simp).trans (List.map_id _)
 rw[e]at this;simpa[Extern.Bytes.bytesOf]using this
theorem wF (W:World)(A B:Array Value)(T U:TypeId)(n:Nat)(j:Nat)(c:Value):(A[j]?=some c->(((W.alloc (.cells A T)).alloc (.cells B U)).drewN n).cell? ⟨W.heap.size,j,none⟩=some c)/\(B[j]?=some c->(((W.alloc (.cells A T)).alloc (.cells B U)).drewN n).cell? ⟨W.heap.size+1,j,none⟩=some c):=by
 have e1:(((W.alloc (.cells A T)).alloc (.cells B U)).drewN n).heap=(W.heap.push (.cells A T)).push (.cells B U):=rfl;constructor;intro h;unfold World.cell?;rw[e1];simp[Array.getElem?_push,h];intro h;have e2:((W.heap.push (.cells A T)).push (.cells B U))[W.heap.size+1]?=some (.cells B U):=by rw[show W.heap.size+1=(W.heap.push (.cells A T)).size from by simp];exact Array.getElem?_push_size
 unfold World.cell?;rw[e1];simp only[e2];exact h
theorem abQ (d:Dg)(j:Nat)(c:UInt8)(h:d.1[j]?=some c):(vD d).toArray[j]?=some (.int .u8 (c.toNat:Int)):=by unfold vD;simp[h]
theorem abR (a b:Dg)(W:World):Calls Tryz.prog 75 #[.agg (vD a).toArray,.agg (vD b).toArray] W λe w'=>e=.returned (.int .i64 (dy a b))/\∃q os',w'=grow (W.drewN q) os':=by have hc:∀n,Calls Tryz.prog 146 #[.slice (some ⟨W.heap.size,0,none⟩) 32 32,.slice (some ⟨W.heap.size+1,0,none⟩) 32 32] (((W.alloc (.cells (vD a).toArray 33)).alloc (.cells (vD b).toArray 33)).drewN n) λe w'=>e=.returned (.int .i64 (cmpL a.1 b.1))/\w'=(((W.alloc (.cells (vD a).toArray 33)).alloc (.cells (vD b).toArray 33)).drewN n):=λn=>Gs _ _ _ a.1 b.1 (rU (λj c h=>(wF W _ _ 33 33 n j _).1 (abQ a j c h)) 32) (rU (λj c h=>(wF W _ _ 33 33 n j _).2 (abQ b j c h)) 32);have la:=Fp a;have lb:=Fp b;go_enter Tryz.func75,Tryz.ntmps75;go_wp2;go_quiet (first|(go_at_call 146;refine Calls.quiet_of_same (hc _)));go_wp2;go_ret;refine⟨rfl,nq,#[.cells (vD a).toArray 33,.cells (vD b).toArray 33],?_⟩;rfl
def vI (x:bQ):List Value:=vD x.p++[.int .i64 x.n]
theorem abS (x:bQ):(vI x).length=33:=by unfold vI;rw[aA,Fp];rfl
theorem af8 (x:bQ)(j:Nat)(c:UInt8)(h:x.p.1[j]?=some c):(vI x).toArray[j]?=some (.int .u8 (c.toNat:Int)):=by
 have h1:=abQ x.p j c h;have hj:j<(vD x.p).length:=by rw[Fp];have :=(aI.1 h).1;rw[x.p.2]at this;exact this
 unfold vI;simp only[Dv]at h1⊢;rw[cF hj];exact h1
theorem ajj (x:bQ):(vI x).toArray[32]?=some (.int .i64 x.n):=by unfold vI;simp only[Dv];rw[dN (by rw[Fp];decide),Fp];rfl
theorem XM (a b:bQ)(W:World):Calls Tryz.prog 96 #[.agg (vI a).toArray,.agg (vI b).toArray] W λe w'=>e=.returned (.int .i64 (gb a b))/\∃q os',w'=grow (W.drewN q) os':=by
 have hc:∀n,Calls Tryz.prog 146 #[.slice (some ⟨W.heap.size,0,none⟩) 32 32,.slice (some ⟨W.heap.size+1,0,none⟩) 32 32] (((W.alloc (.cells (vI a).toArray 54)).alloc (.cells (vI b).toArray 54)).drewN n) λe w'=>e=.returned (.int .i64 (cmpL a.p.1 b.p.1))/\w'=(((W.alloc (.cells (vI a).toArray 54)).alloc (.cells (vI b).toArray 54)).drewN n):=λn=>Gs _ _ _ a.p.1 b.p.1 (rU (λj c h=>(wF W _ _ 54 54 n j _).1 (af8 a j c h)) 32) (rU (λj c h=>(wF W _ _ 54 54 n j _).2 (af8 b j c h)) 32);have n1:∀n,(((W.alloc (.cells (vI a).toArray 54)).alloc (.cells (vI b).toArray 54)).drewN n).cell? ⟨W.heap.size,32,none⟩=some (.int .i64 a.n):=λn=>(wF W _ _ 54 54 n 32 _).1 (ajj a);have n2:∀n,(((W.alloc (.cells (vI a).toArray 54)).alloc (.cells (vI b).toArray 54)).drewN n).cell? ⟨W.heap.size+1,32,none⟩=some (.int .i64 b.n):=λn=>(wF W _ _ 54 54 n 32 _).2 (ajj b);have la:=abS a;have lb:=abS b;have hI:∀w,Calls Tryz.prog 170 #[.int .i64 a.n,.int .i64 b.n] w λe w'=>e=.returned (.int .i64 (Lib.compareInt a.n b.n))/\w'=w:=λw=>Tryz.cmp_Compare_int a.n b.n w;have hci:Lib.compareInt a.n b.n=if a.n<b.n then-1 else if b.n<a.n then 1 else 0:=rfl;generalize Lib.compareInt a.n b.n=ci at hI hci;have hcmp:gb a b=if cmpL a.p.1 b.p.1≠0 then cmpL a.p.1 b.p.1 else ci:=by rw[hci];rfl
 generalize cmpL a.p.1 b.p.1=cl at hc hcmp;by_cases h0:cl=0
 ·subst h0;rw[af (λg=>g rfl)]at hcmp;rw[hcmp];clear hcmp hci;go_enter Tryz.func96,Tryz.ntmps96;go_wp2;go_quiet (first|(go_at_call 146;refine Calls.quiet_of_same (hc _)));have m1:=n1 nq;have m2:=n2 nq;generalize hW:(((W.alloc (.cells (vI a).toArray 54)).alloc (.cells (vI b).toArray 54)).drewN nq)=W2 at m1 m2⊢;have hg:W2=grow (W.drewN nq) #[.cells (vI a).toArray 54,.cells (vI b).toArray 54]:=hW.symm;have hG:alQ (W2=grow (W.drewN nq) #[.cells (vI a).toArray 54,.cells (vI b).toArray 54]):=⟨hg⟩;clear hW n1 n2 hc hg;go_wp2_with (go_at_call 170;refine(hI _).mono ?_;rintro e w' ⟨rfl,rfl⟩);go_ret;exact⟨rfl,_,_,hG.out⟩
 rw[ag h0]at hcmp;rw[hcmp];clear hcmp hci;have hne:(cl==0)=false:=xA.2 h0;have aoG:(cl !=0)=true:=by simpa using h0
 go_enter Tryz.func96,Tryz.ntmps96;go_wp2;go_quiet (first|(go_at_call 146;refine Calls.quiet_of_same (hc _)));go_wp2;go_ret;exact⟨rfl,nq,#[.cells (vI a).toArray 54,.cells (vI b).toArray 54],rfl⟩
def Mn:AV->Value|.int k n=>.int k n|_=>undef
def ahh (l:List AV):Prop:=∀y,y∈l->∃k n,y=.int k n
section
variable {α:Type}[Inhabited α](cell:α->List AV)(k:Nat)(hk:∀x,(cell x).length=k)(hi:∀x,ahh (cell x))
def yS (cell:α->List AV)(x:α):List Value:=(cell x).map Mn
include hk in theorem xU (l:List α):(l.map cell).flatten.length=l.length*k:=by rw[ic (e:=k) λzs h=>by obtain⟨x,-,rfl⟩:=aJ.1 h;exact hk x];simp
include hk in theorem ae0 (l:List α){j:Nat}(h0:0<k)(h:j<l.length*k):∃hj:j/k<l.length,∃hm:j%k<(cell l[j/k]).length,(l.map cell).flatten[j]?=some ((cell l[j/k])[j%k]):=by
 have h1:j/k<l.length:=(Nat.div_lt_iff_lt_mul h0).2 h;have h2:j%k<(cell l[j/k]).length:=by rw[hk];exact oc _ h0
 refine⟨h1,h2,?_⟩;have :=nG (λzs h=>by obtain⟨x,-,rfl⟩:=aJ.1 h;exact hk x) (show(l.map cell)[j/k]?=some (cell l[j/k])by simp[h1]) (ay h2);rw[xu,Nat.div_add_mod]at this;exact this
include hk in theorem abT (l:List α){j:Nat}(h0:0<k)(h:j<l.length*k):∃y,(l.map cell).flatten[j]?=some y/\(flatK (yS cell) k l.toArray)[j]! =Mn y/\∃x,x∈l/\y∈cell x:=by
 obtain⟨h1,h2,h3⟩:=ae0 cell k hk l h0 h;refine⟨_,h3,?_,l[j/k],aQ h1,aQ h2⟩;rw[get_flatK _ _ _ _ (by simpa using h)];have e1:(l.toArray)[j/k]! =l[j/k]:=by rw[getElem!_pos (l.toArray) (j/k) (by simpa using h1)];simp
 rw[e1];unfold yS;rw[getElem!_pos _ _ (by rw[aj];exact h2),qA]
include hk hi in theorem Mo {ρ:Shelf.Ren}(L:SlLaysF0.n6 Tryz.prog ρ)(h0:0<k)(aE:∀w,(isAgg (ρ.t 24)).run Tryz.prog w=.ok true w)(zE:∀w,(Go.sizeOf (ρ.t 24)).run Tryz.prog w=.ok k w)(cf:α->α->Int)(hO:SWO (ltOf cf))(hT:∀x y,¬cf x y<0->¬cf y x<0->x=y)(g:Nat)(eg:∀args w,(callFunc g args).run Tryz.prog w=.ok (.enter g args) w)(hcmp:∀(x y:α)(W:World),Calls Tryz.prog g #[.agg (yS cell x).toArray,.agg (yS cell y).toArray] W λe w'=>e=.returned (.int .i64 (cf x y))/\∃q os',w'=grow (W.drewN q) os')(Cx:Ctx)(hP:Cx.P=Tryz.prog)(hf:∃fn,Tryz.prog.funcs[ρ.f 6]?=some fn/\fn.body.isNone=false/\(fn.name== "runtime.NumGoroutine")=false)(T:TypeId)(l:List α)(hl:l.length<4611686018427387904):Zg Cx (ρ.f 6) T k (l.map cell).flatten [.fn (.func g) [] []] (λr ys=>r=false/\ys=((l.mergeSort λx y=>!decide (cf y x<0)).map cell).flatten):=by
 refine⟨by rw[hP];exact hf,λbr w b n c vs hJ hn CU hnb hb hown hty mF hnc h1 hcells hvl hvr=>?_⟩;rw[hP];match vs,hvl with
  |[v],_=>
   have hv:=hvr 0 v _ rfl rfl;have hv:v=.func (.func g) #[] #[]:=by
    cases hv with
    |fn _ fs cs _ _ q1 q2=>rw[ck.1 q1,ck.1 q2]
   subst hv;rw[xU cell k hk]at mF;obtain rfl:n=l.length:=(gP h0 mF).symm;have hH:HoldsK (yS cell) k w b 0 l.toArray:=by
    intro j hj;rw[size_flatK]at hj;have hj:j<l.length*k:=by simpa using hj
    obtain⟨y,q1,q2,x,-,q3⟩:=abT cell k hk l h0 hj;obtain⟨c',q4,q5⟩:=hcells j y q1;refine⟨?_,(hown (0+j)).2⟩;rw[dF,q4,q2,show id (Mn y)=Mn y from rfl];obtain⟨kk,m,rfl⟩:=hi x y q3;rw[q5.gh];rfl
   have ajk:=AnyQ.slices_SortFunc L k aE zE (yS cell) (λx=>by unfold yS;rw[aj];exact hk x) (λx v hv=>by unfold yS at hv;obtain⟨y,hy,rfl⟩:=aJ.1 hv;obtain⟨kk,m,rfl⟩:=hi x y hy;rfl) cf hO g #[] b 0 c l.toArray w eg (λm os dk hs x y=>hcmp x y _) hH hb (by simpa using hl);have hsz:l.toArray.size=l.length:=by simp
   rw[hsz]at ajk;show Calls Tryz.prog (ρ.f 6) #[.slice (some ⟨b,0,none⟩) l.length c,.func (.func g) #[] #[]] w _;refine ajk.mono ?_;rintro e w' ⟨rfl,d',q,os,hp,hso,rfl⟩;have hd:d'=((l.mergeSort λx y=>!decide (cf y x<0))).toArray:=by have :=sorted_unique_holds (lt:=ltOf cf) hO (λx y q1 q2=>hT x y (by simpa[ltOf]using q1) (by simpa[ltOf]using q2)) l.toArray d' (by rw[hsz];exact hp) (by rw[hsz];exact hso);apply iW.1;rw[this];rfl
   generalize hm:(l.mergeSort λx y=>!decide (cf y x<0))=m at hd⊢;have hml:m.length=l.length:=by rw[<-hm];exact List.length_mergeSort _
   subst hd;have hH':=holdsK_sortWorldK_c (yS cell) k w b 0 l.toArray m.toArray q os hH hb (by simpa using hml);refine⟨_,false,(m.map cell).flatten,(m.map cell).flatten,rfl,⟨rfl,rfl⟩,by rw[xU cell k hk,xU cell k hk,hml],⟨rfl,rfl⟩,λi x hx=>?_,rfl,rfl,rfl,size_sortWorldK_c (yS cell) k w b 0 q m.toArray os,λkk hkk hne=>?_,λcs T' fr hcs=>?_⟩;have hi':i<m.length*k:=by rw[<-xU cell k hk];exact(aI.1 hx).1
   obtain⟨y,q1,q2,z,-,q3⟩:=abT cell k hk m h0 hi';rw[hx]at q1;obtain rfl:=aq q1;have :=(hH' i (by rw[size_flatK];simpa using hi')).1;rw[dF,q2]at this;refine⟨_,this,?_⟩;obtain⟨kk,mm,rfl⟩:=hi z x q3;exact dH.int _ _;unfold sortWorldK putRowK putRow mapBlock grow;show((Sort.ahead w q).heap.modify b _++os)[kk]?=w.heap[kk]?;rw[tn (by simpa[Sort.ahead]using hkk),iY,af (eY hne)];rfl;refine⟨putCells id 0 (flatK (yS cell) k m.toArray) cs,?_,by simp[putCells]⟩;unfold sortWorldK putRowK putRow mapBlock grow;show((Sort.ahead w q).heap.modify b _++os)[b]?=_;rw[tn (by simpa[Sort.ahead]using hb),iY,ag rfl];show Option.map _ w.heap[b]?=_;rw[hcs];rfl
end
theorem OH (d:Dg):yS cD d=vD d:=by unfold yS vD;rw[IQ,fP];rfl
theorem VX (x:bQ):yS cI x=vI x:=by show(cD x.p++[AV.int .i64 x.n]).map Mn=_;rw[aD,show(cD x.p).map Mn=vD x.p from OH x.p];rfl
theorem XN (a b:Dg)(W:World):Calls Tryz.prog 75 #[.agg (yS cD a).toArray,.agg (yS cD b).toArray] W λe w'=>e=.returned (.int .i64 (dy a b))/\∃q os',w'=grow (W.drewN q) os':=by rw[OH,OH];exact abR a b W
theorem TZ (a b:bQ)(W:World):Calls Tryz.prog 96 #[.agg (yS cI a).toArray,.agg (yS cI b).toArray] W λe w'=>e=.returned (.int .i64 (gb a b))/\∃q os',w'=grow (W.drewN q) os':=by rw[VX,VX];exact XM a b W
end Qv
open Go Go.Proofs Go.RowKit
namespace Qv
theorem Gt:av C 143 [.int .u64 0] (λr=>r=.val (.int .i64 0)):=by
 refine⟨⟨_,Tryz.func143,rfl,rfl⟩,λbr w vs hJ hn hi hl hr=>?_⟩;match vs,hl with
  |[v0],_=>
   have h:=hr 0 v0 _ rfl rfl;obtain rfl:v0=.int .u64 0:=by cases h;rfl
   refine(Tryz.bits_Len 0 w dD dD).mono ?_;rintro e w' ⟨rfl,rfl⟩;exact⟨_,_,rfl,rfl,.int _ _,Below.refl _ _⟩
theorem RD (g:FuncId):av C 315 [.sl [],.int .i64 0,.int .i64 0,.fn (.func g) [] []] (λr=>r=.val (.eN [])):=by refine ak Tryz.func315 rfl rfl rfl ⟨1,rfl,bJ 53 (λ_:Unit=>[(2,.p (.int .i64 0)),(8,.p (.int .i64 1))]) (λ_=>[]) (λ_=>True) (λ_=>0) () trivial rfl wS trivial ?_⟩;intro _ _;refine aF (λh=>absurd h dD) (λ_=>?_);exact rfl
theorem RE (g:FuncId):av C 257 [.sl [],.int .i64 0,.int .i64 0,.fn (.func g) [] []] (λr=>r=.val (.eN [])):=by refine ak Tryz.func257 rfl rfl rfl ⟨1,rfl,bJ 53 (λ_:Unit=>[(2,.p (.int .i64 0)),(8,.p (.int .i64 1))]) (λ_=>[]) (λ_=>True) (λ_=>0) () trivial rfl wS trivial ?_⟩;intro _ _;refine aF (λh=>absurd h dD) (λ_=>?_);exact rfl
theorem RG (g:FuncId):av C 287 [.sl [],.int .i64 0,.int .i64 0,.int .i64 0,.fn (.func g) [] []] (λr=>r=.val (.eN [])):=by refine ak Tryz.func287 rfl rfl rfl (bJ 148 (λ_:Unit=>[(0,.p (.sl [])),(1,.p (.int .i64 0)),(2,.p (.int .i64 0)),(4,.p (.fn (.func g) [] []))]) (λ_=>[]) (λ_=>True) (λ_=>0) () trivial rfl wS trivial ?_);intro _ _;refine⟨0,rfl,aF (λ_=>?_) (λh=>absurd (show(0:Int)<=12 by decide) h)⟩;exact cl (RD g) rfl
theorem RH (g:FuncId):av C 188 [.sl [],.int .i64 0,.int .i64 0,.int .i64 0,.fn (.func g) [] []] (λr=>r=.val (.eN [])):=by refine ak Tryz.func188 rfl rfl rfl (bJ 148 (λ_:Unit=>[(0,.p (.sl [])),(1,.p (.int .i64 0)),(2,.p (.int .i64 0)),(4,.p (.fn (.func g) [] []))]) (λ_=>[]) (λ_=>True) (λ_=>0) () trivial rfl wS trivial ?_);intro _ _;refine⟨0,rfl,aF (λ_=>?_) (λh=>absurd (show(0:Int)<=12 by decide) h)⟩;exact cl (RE g) rfl
theorem OI (g:FuncId):av C 236 [.sl [],.fn (.func g) [] []] (λr=>r=.val (.eN [])):=by exact ak Tryz.func236 rfl rfl rfl ⟨0,rfl,cl Gt (cl (RG g) rfl)⟩
theorem OJ (g:FuncId):av C 114 [.sl [],.fn (.func g) [] []] (λr=>r=.val (.eN [])):=by exact ak Tryz.func114 rfl rfl rfl ⟨0,rfl,cl Gt (cl (RH g) rfl)⟩
theorem oz.OL {br:Nat->Nat->Prop}{B:Nat}{w':World}{v:Value}{T:TypeId}{bP:Nat}{xss:List (List AV)}(h:oz br B w' v (.own none T bP xss)):oz br B w' v (.val (.sl xss)):=by
 obtain⟨b,c,cs,fr,us,rfl,hB,hbs,h0,hlen,Bs,hheap,hfr,hroom,hcells,-⟩:=h;show dH (lT br B) w' (.slice (some ⟨b,0,none⟩) xss.length c) (.sl xss);have get:∀(i:Nat)(ys:List AV)(j:Nat)(y:AV),xss[i]?=some ys->ys[j]?=some y->∃u,w'.cell? ⟨b,i*bP+j,none⟩=some u/\dH (lT br B) w' u y:=λi ys j y q1 q2=>by obtain⟨u,k1,k2⟩:=hcells _ _ (nG (λzs hz=>(Bs zs hz).1) q1 q2);exact⟨u,k1,k2.keep (λb' o h=>h.imp id λq=>q.1) (λ_ _ _ _ h=>h) (.refl _ _)⟩
 refine .sl b 0 c bP xss (λi j=>(w'.cell? ⟨b,i*bP+j,none⟩).getD undef) (λi ys q=>(Bs ys (bW q)).1) (λi ys j y q1 q2=>(Bs ys (bW q1)).2 y (bW q2)) (λi ys j y q1 q2=>?_) (λi ys j y q1 q2=>.inr hB) (λi ys j y q1 q2=>?_) hlen;obtain⟨u,k1,k2⟩:=get i ys j y q1 q2;rw[dF,k1];rfl;obtain⟨u,k1,k2⟩:=get i ys j y q1 q2;rw[k1];exact k2
theorem av.OL {C:Ctx}{f:FuncId}{args:List AV}{T:TypeId}{bP:Nat}{xss:List (List AV)}(h:av C f args λr=>r=.own none T bP xss\/r=.val (.sl xss)):av C f args λr=>r=.val (.sl xss):=⟨h.1,λbr w vs h1 h2 h3 h4 h5=>(h.2 br w vs h1 h2 h3 h4 h5).mono λe w' ⟨v,r,q1,q2,q3,q4⟩=>by rcases q2 with rfl|rfl;exact⟨v,_,q1,rfl,oz.OL q3,q4⟩;exact⟨v,_,q1,rfl,q3,q4⟩⟩
end Qv
