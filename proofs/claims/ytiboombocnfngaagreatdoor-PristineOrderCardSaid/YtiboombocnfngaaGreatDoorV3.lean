/- Part 9 of the proof: its lemmas. No condition. -/
import Derived.Test.YtiboombocnfngaaGreatDoorU6
import Derived.Shelf.Strings.Builder1
import Derived.Laws.AppendOwn
set_option maxRecDepth 100000
set_option maxHeartbeats 80000000
set_option linter.all false
open Go Go.Proofs Go.RowKit
namespace Qv
theorem nJ {S:aj}(n off:Nat)(rel:List (Nat×FV))(aI:List (Nat×List FV))(bK:List (Nat×Nat×List (Nat×FV)))(cF:List zS){K:aj->Prop}(hn:(n,off,cF)=(S.n,S.off,S.cF))(h1:yX S.tmps rel)(h2:Az S.aI aI)(h3:MT S.bK bK)(h:K (MS n off rel aI bK cF [])):∃T,cK S T/\K T:=⟨_,bL (cT:=[]) hn h1 h2 h3 trivial,h⟩
def gO (own:List cq):List FV:=aG (iu own).flatten
theorem agn (x:cq)(y:AV)(h:y∈cA x):y.one=true:=bA.1 (show(cA x).all AV.one=true from rfl) y h
theorem DA (own:List cq):∀ys,ys∈iu own->ys.length=172/\∀y,y∈ys->y.one=true:=by intro ys h;obtain⟨x,-,rfl⟩:=aC.1 h;exact⟨rfl,λy hy=>agn x y hy⟩
theorem NA (own:List cq):(gO own).length=own.length*172:=by unfold gO;rw[iR,fR (e:=172) λzs h=>(DA own zs h).1];simp[iu]
theorem Kr (own:List cq)(o:Nat):FV.eD o (gO own)=gO own:=iY o _
theorem tf {aI:List (Nat×List FV)}{o:Nat}{own:List cq}(k:Nat)(h:Qv.getObj aI o=some (FV.eD k (gO own))):∃ys,Qv.getObj aI o=some ys/\ys.length=(gO own).length/\∀(i:Nat)(x y:FV),ys[i]?=some x->(gO own)[i]?=some y->bh x y:=by rw[Kr]at h;exact aH h
theorem ad0 {aI:List (Nat×List FV)}{o:Nat}{own:List cq}(k j:Nat)(h:Qv.getObj aI o=some (FV.eD k (FV.eD j (gO own)))):∃ys,Qv.getObj aI o=some ys/\ys.length=(gO own).length/\∀(i:Nat)(x y:FV),ys[i]?=some x->(gO own)[i]?=some y->bh x y:=by rw[Kr,Kr]at h;exact aH h
theorem DB (own:List cq)(o:Nat):(FV.eD o (gO own)).length=own.length*172:=by rw[Kr];exact NA own
theorem ago (own:List cq)(x:cq)(o:Nat):FV.eD o (gO own++aG [cA x].flatten)=gO (own++[x]):=by
 have :gO own++aG [cA x].flatten=gO (own++[x]):=by unfold gO iu;rw[aD,ot,eN,eN,eN,aD];rfl
 rw[this];exact iY o _
theorem GO (own:List cq)(x:cq)(o o2:Nat):FV.eD o (FV.eD o2 (gO own)++aG [cA x].flatten)=gO (own++[x]):=by rw[Kr];exact ago own x o
theorem DC (a b:List cq):gO (a++b)=gO a++gO b:=by unfold gO iu;rw[aD,ot,eN,eN,eN,aD]
theorem Qn (a:cq):gO [a]=aG (cA a):=by unfold gO iu;simp
end Qv
namespace Qv
open Go Go.Proofs Go.Shelf Go.RowKit
variable {P:Program}{ρ:Ren}
theorem row_of_bld {C:Ctx}{w:World}{b:Nat}{row:Option Nat}{bs:List UInt8}(h:yh C w b row bs):∃(p:Option Addr) (v:Value),(p=none\/p=some ⟨b,0,none⟩)/\w.heap[b]?=some (.cells #[.pointer p,v] C.bT (0,0))/\w.ownsRow 0 C.bE 1 v (Lib.byteCells bs).length (Lib.byteCells bs)/\v.ownBlock=row/\row≠some b:=by
 obtain⟨p,v,h1,h2,h3⟩:=h;refine⟨p,v,h1,h2,?_⟩;cases row with
 |none=>obtain⟨rfl,rfl⟩:=h3;exact⟨⟨by simp[Lib.byteCells],.inl ⟨rfl,by simp[Lib.byteCells]⟩⟩,rfl,by simp⟩
 |some r=>obtain⟨hne,cap,cur,rfl,h4,h5,h6,h7,h8⟩:=h3;have hl:(Lib.byteCells bs).length=bs.length:=Lib.byteCells_length bs;refine⟨⟨by simp,.inr ⟨r,cap,cur,by rw[hl],zL,h4,by rw[hl];exact h5,h6,oO,?_⟩⟩,rfl,λe=>hne (au e).symm⟩;rw[hl,sK,h8];rfl
theorem Jc {e:TypeId}{i0:TypeInfo}(hi:P.info? e=some i0)(hz:i0.zero=some (.int .u8 0))(hs:i0.size=1)(hb:i0.bytes=1)(hu:P.underlying e=some (.int .u8)):fN P e ⟨1,1,.int .u8,[.int .u8 0]⟩:=⟨by rw[hi];simp[hz,hs,hb,Value.cells],by rw[hu];rfl,rfl⟩
theorem NB {w:World}{t u e ty:TypeId}{i:jF}(ht:P.underlying t=some (.slice e))(hu:P.underlying u=some .string)(hi:fN P e i)(hs1:i.size=1)(JM:i.bytes=1){v:Value}{n:Nat}{xs:List Value}(hown:w.ownsRow 0 e 1 v n xs){s:ByteArray}(hlen:n+s.size<=140737488355328){v':Value}{w':World}(hr:(Builtin.append_ #[t,u] ty #[v,.string s]).run P w=.ok v' w'):v'.ownBlock=v.ownBlock\/∃x,v'.ownBlock=some x/\w.heap.size<=x:=by
 obtain⟨l,rfl⟩:∃l:List UInt8,s=⟨l.toArray⟩:=⟨s.data.toList,by simp⟩;have hsz:(⟨l.toArray⟩:ByteArray).size=l.length:=by simp[ByteArray.size]
 rw[hsz]at hlen;obtain⟨news,VP,hn2,Of⟩:=Fq (P:=P) (w:=w) (bk:=λ_ _=>True) (s:=l) (e:=1) (Zn _);have hll:(l.map λ(b:UInt8)=>[AV.int .u8 (b.toNat:Int)]).length=l.length:=by simp
 rw[hll]at hn2 Of;have hnl:news.length=l.length:=by have :=VP.len;rw[hll]at this;omega
 have hd:∀k,TypeDesc.string≠.int k:=λk h=>by cases h
 have inj:∀{v2:Value}{w2:World},(Builtin.append_ #[t,u] ty #[v,.string ⟨l.toArray⟩]).run P w=.ok v2 w2->v'=v2:=λh=>by rw[h]at hr;injection hr with e1 _;exact e1.symm
 rcases hown.2 with⟨rfl,rfl⟩|⟨g,cap,cur,rfl,-,hg,hnc,hcm,hcs,-⟩;by_cases h0:l.length=0;have hnn:news=[]:=bQ.1 oO;rw[h0]at hn2 Of;left;rw[inj (mP (n:=0) (c:=0) (base:=none) ht hu hd hi hn2 (by rw[hs1,Of w,hnn]) (aA _))];obtain⟨rest,z,-,-,hrun⟩:=iM (P:=P) (w:=w) (ty:=ty) (n:=0) (c:=0) (m:=l.length) (base:=none) (olds:=[]) (news:=news) ht hu hd hi hn2 (λw' _=>by rw[hs1];exact Of w') (λw' _=>by rw[hs1];simp[Builtin.firstCells,loadCells,loadCellsFrom]) oO (by rw[JM];omega) oO;right;rw[inj hrun];exact⟨_,rfl,aA _⟩;by_cases h0:l.length=0;have hnn:news=[]:=bQ.1 oO;rw[h0]at hn2 Of;left;rw[inj (mP ht hu hd hi hn2 (by rw[hs1,Of w,hnn]) hnc)];have hcell:∀q,q<cap->w.cell? ⟨g,q,none⟩=cur[q]?:=λq _=>by rw[Lib.cell_of_heap hg]
 by_cases hroom:n+l.length<=cap;left;rw[inj (nZ (n:=n) (c:=cap) (m:=l.length) (b:=g) (off:=0) (news:=news) ht hu hd hi hn2 (by rw[hs1];exact Of w) hroom (λj hj=>by rw[hcell _ (by rw[hs1];omega)];simp[hs1];omega) (λj hj=>Lib.frozen_of_heap hg _) VP.one)];rfl;right;obtain⟨rest,z,-,-,hrun⟩:=iM (P:=P) (w:=w) (ty:=ty) (n:=n) (c:=cap) (m:=l.length) (base:=some ⟨g,0,none⟩) (olds:=cur.toList.take n) (news:=news) ht hu hd hi hn2 (λw' _=>by rw[hs1];exact Of w') (λw' hw=>by
  rw[hs1];have :=run_loadCells (P:=P) w' ⟨g,0,none⟩ (n*1) (λq=>(cur[q]?).getD undef) (λq MF=>by
   rw[Addr.add_lit,hw,hcell _ oO];have :q<cur.size:=oO
   simp[this]);simp only[Builtin.firstCells,this];congr 1;apply iJ.1;apply fZ;intro q;by_cases hq:q<n;have :q<cur.size:=oO
  simp[hq,this];simp[hq];omega) oO (by rw[JM];omega) oO;rw[inj hrun];exact⟨_,rfl,aA _⟩
theorem DE {w:World}{ops:Array Oper}{rest:List Oper}{o:Oper}{a:Act}{Q:Exit->Act->World->Prop}(hgd:o.guard=none)(sl x:Operand)(t u:TypeId)(ho:o.op=.call {callee:=.builtin .append,args:=#[sl,x],argTypes:=#[t,u]})(e:TypeId)(i:TypeInfo)(ht:P.underlying t=some (.slice e))(hu:P.underlying u=some .string)(he:P.underlying e=some (.int .u8))(hi:P.info? e=some i)(hz:i.zero=some (.int .u8 0))(hsize:i.size=1)(hby:i.bytes=1)(v:Value)(n:Nat)(xs:List Value)(hs:a.eval sl=v)(hown:w.ownsRow 0 e 1 v n xs)(s:ByteArray)(hx:a.eval x=.string s)(hbytes:n+s.size<=140737488355328)(h:∀v' w',w'.ownsRow 0 e 1 v' (n+s.size) (xs++Lib.strCells s)->w.grownBy w' v.ownBlock->(v'.ownBlock=v.ownBlock\/∃y,v'.ownBlock=some y/\w.heap.size<=y)->wpList P ops Q rest (a.put o.dst v') w'):wpList P ops Q (o::rest) a w:=by refine wpList_plain hgd λK hK=>?_;obtain⟨v',w',hr,h2,h3,h4⟩:=Lib.run_append_own_string (P:=P) w 0 t u o.type e i ht hu hi hz hsize hby v n xs hown s (by unfold maxLen;omega) hbytes (zL);have h5:=NB ht hu (Jc hi hz hsize hby he) rfl rfl hown hbytes hr;unfold Oper.wp execOp;simp only[ho,resolve,invoke,builtin,Sem.run_bind,Sem.run_pure,Result.andThen_ok,CD,bR,fW,hs,hx,hr];exact hK _ _ (h v' w' h2 h3 h5)
structure zy (b:Nat)(row:Option Nat)(w w':World):Prop where
 os:w'.os=w.os
 tape:w'.tape=w.tape
 output:w'.output=w.output
 size:w.heap.size<=w'.heap.size
 block:∀k,k<w.heap.size->k≠b->row≠some k->w'.heap[k]?=w.heap[k]?
theorem zy.refl (b:Nat)(row:Option Nat)(w:World):zy b row w w:=⟨rfl,rfl,rfl,aA _,λ_ _ _ _=>rfl⟩
theorem zy.trans {b:Nat}{row:Option Nat}{A B D:World}(h:zy b row A B)(k:zy b row B D):zy b row A D:=⟨k.os.trans h.os,k.tape.trans h.tape,k.output.trans h.output,ck h.size k.size,λi hi h1 h2=>(k.block i (dW hi h.size) h1 h2).trans (h.block i hi h1 h2)⟩
theorem zy.setCell {b:Nat}{row:Option Nat}{A B:World}(h:zy b row A B)(i:Nat)(v:Value):zy b row A (B.setCell ⟨b,i,none⟩ v):=h.trans ⟨rfl,rfl,rfl,by simp,λk _ h1 _=>Below.heap_setCell _ _ _ _ h1⟩
theorem zy.drew {b:Nat}{row:Option Nat}{A B:World}(h:zy b row A B):zy b row A B.drew:=⟨h.os,h.tape,h.output,h.size,h.block⟩
theorem zy.below {b:Nat}{row:Option Nat}{A B:World}(h:Below A.heap.size A B):zy b row A B:=⟨h.os,h.tape,h.output,h.size,λk hk _ _=>h.block k hk⟩
theorem AX (L:Lays.n240 P ρ)(X:Builder.X72 P ρ){b:Nat}{p:Option Addr}{v:Value}{w:World}(hp:p=none\/p=some ⟨b,0,none⟩)(h:w.heap[b]?=some (.cells #[.pointer p,v] (ρ.t 72) (0,0)))(row:Option Nat):Calls P (ρ.f 240) #[.pointer (some ⟨b,0,none⟩)] w λe w'=>e=.returned (.tuple #[])/\w'.heap[b]?=some (.cells #[.pointer (some ⟨b,0,none⟩),v] (ρ.t 72) (0,0))/\zy b none w w':=by rcases hp with rfl|rfl;refine(Any.Builder_copyCheck_fresh L X b w (by rw[Lib.cell_of_heap h];rfl) (by simp[World.shape?,h]) (Lib.frozen_of_heap h 0)).mono ?_;rintro e w' ⟨rfl,rfl⟩;refine⟨rfl,?_,(zy.refl _ _ w).setCell 0 _⟩;simp[World.setCell,iL,h];refine(Any.Builder_copyCheck_used L X b w (by rw[Lib.cell_of_heap h];rfl)).mono ?_;rintro e w' ⟨rfl,rfl⟩;exact⟨rfl,h,zy.refl _ _ _⟩
theorem WR (L:Lays.n166 P ρ)(X:Builder.Extra P ρ){b:Nat}{p:Option Addr}{v:Value}{bs:List Value}{s:ByteArray}{w:World}(hp:p=none\/p=some ⟨b,0,none⟩)(h:w.heap[b]?=some (.cells #[.pointer p,v] (ρ.t 72) (0,0)))(Qq:w.ownsRow 0 (ρ.t 5) 1 v bs.length bs)(hne:v.ownBlock≠some b)(hlen:bs.length+s.size<=140737488355328):Calls P (ρ.f 166) #[.pointer (some ⟨b,0,none⟩),.string s] w λe w'=>e=.returned (.tuple #[.int .i64 s.size,.nilIface])/\∃v',w'.heap[b]?=some (.cells #[.pointer (some ⟨b,0,none⟩),v'] (ρ.t 72) (0,0))/\w'.ownsRow 0 (ρ.t 5) 1 v' (bs.length+s.size) (bs++Lib.strCells s)/\v'.ownBlock≠some b/\(v'.ownBlock=v.ownBlock\/∃x,v'.ownBlock=some x/\w.heap.size<=x)/\zy b v.ownBlock w w':=by
 obtain⟨i0,hi,hz0,hz1,hz2⟩:=info_parts X.infoByte;have mixed:=L.mixed;have t72:=L.t72;have a72:=L.a72;have z72:=L.z72;have v72:=L.v72;have u72:=run_underlying L.t72;have t70:=L.t70;have a70:=L.a70;have z70:=L.z70;have v70:=L.v70;have u70:=run_underlying L.t70;have t37:=L.t37;have a37:=L.a37;have z37:=L.z37;have v37:=L.v37;have u37:=run_underlying L.t37;have t3:=L.t3;have a3:=L.a3;have z3:=L.z3;have v3:=L.v3;have u3:=run_underlying L.t3;have t9:=L.t9;have a9:=L.a9;have z9:=L.z9;have v9:=L.v9;have u9:=run_underlying L.t9;have t4:=L.t4;have a4:=L.a4;have z4:=L.z4;have v4:=L.v4;have u4:=run_underlying L.t4;have t164:=L.t164;have a164:=L.a164;have z164:=L.z164;have v164:=L.v164;have u164:=run_underlying L.t164;have t5:=X.t5;have a5:=X.a5;have z5:=X.z5;have v5:=X.v5;have u5:=run_underlying X.t5;have akP:∀args w,(callFunc (ρ.f 240) args).run P w=.ok (.enter (ρ.f 240) args) w:=enters_of L.f240 kK rfl;go_enter L.f166,Body.n166_ntmps ρ;go_wp2_with (go_at_fn (ρ.f 240);refine(AX {L with} X.toX72 hp h none).mono ?_);rintro e w1 ⟨rfl,hbk,JM⟩;have hown:w1.ownsRow 0 (ρ.t 5) 1 v bs.length bs:=by refine⟨Qq.1,Qq.2.imp id ?_⟩;rintro⟨g,cap,cur,rfl,q1,q2,q3⟩;refine⟨g,cap,cur,rfl,q1,?_,q3⟩;rw[JM.block g (bq.1 q2).1 (λe=>hne (by rw[e];rfl)) (by simp)];exact q2
 have c0:w1.cell? ⟨b,0,none⟩=some (.pointer (some ⟨b,0,none⟩)):=by rw[Lib.cell_of_heap hbk];rfl
 have c1:w1.cell? ⟨b,1,none⟩=some v:=by rw[Lib.cell_of_heap hbk];rfl
 go_wp2_with (at_builtin;refine DE rfl _ _ (ρ.t 37) (ρ.t 9) rfl (ρ.t 5) i0 L.t37 L.t9 X.t5 hi hz0 hz1 hz2 _ _ _ rfl hown s rfl ?c4 ?_);case c4=>omega
 intro v' w2 hown' hgrow Jd;have hlt:b<w1.heap.size:=(bq.1 hbk).1;have Cg:w2.heap[b]?=some (.cells #[.pointer (some ⟨b,0,none⟩),v] (ρ.t 72) (0,0)):=by rw[hgrow.block b hlt (λe=>hne e.symm)];exact hbk
 have d0:w2.cell? ⟨b,0,none⟩=some (.pointer (some ⟨b,0,none⟩)):=by rw[Lib.cell_of_heap Cg];rfl
 have d1:w2.cell? ⟨b,1,none⟩=some v:=by rw[Lib.cell_of_heap Cg];rfl
 have f1:w2.frozen? ⟨b,1,none⟩=false:=Lib.frozen_of_heap Cg 1;obtain⟨ao,n',cap,rfl⟩:∃ao n' cap,v'=.slice ao n' cap:=by rcases hown'.2 with⟨hv,_⟩|⟨g,cap,cur,hv,_⟩;exact⟨_,_,_,hv⟩;exact⟨_,_,_,hv⟩
 go_wp2;go_ret2;have aaZ:(Value.slice ao n' cap).ownBlock≠some b:=by rcases Jd with e|⟨y,e,hy⟩;rw[e];exact hne;rw[e];intro e2;have :=au e2;omega
 have agy:zy b v.ownBlock w (w2.setCell ⟨b,1,none⟩ (.slice ao n' cap)):=zy.setCell (zy.trans ⟨JM.os,JM.tape,JM.output,JM.size,λk hk h1 _=>JM.block k hk h1 (by simp)⟩ ⟨hgrow.os,hgrow.tape,hgrow.output,hgrow.size,λk hk _ h2=>hgrow.block k hk (λe=>h2 e.symm)⟩) 1 _;refine⟨rfl,.slice ao n' cap,?_,?_,aaZ,?_,agy⟩;simp[World.setCell,iL,Cg];refine⟨hown'.1,hown'.2.imp id ?_⟩;rintro⟨g,cap',cur,e1,q1,q2,q3⟩;refine⟨g,cap',cur,e1,q1,?_,q3⟩;rw[Below.heap_setCell _ _ _ _ (λe=>aaZ (by rw[e1];show some g=some b;exact bg some e))];exact q2;rcases Jd with e|⟨y,e,hy⟩;exact .inl e;exact .inr ⟨y,e,ck JM.size hy⟩
theorem zy.freeze {b g:Nat}{A B:World}(h:zy b (some g) A B)(n:Nat):zy b (some g) A (B.freeze ⟨g,0,none⟩ n):=by refine h.trans ?_;unfold World.freeze;split;exact zy.refl _ _ _;refine⟨rfl,rfl,rfl,by simp,λk _ _ h2=>?_⟩;simp only[iL];rw[af (λe=>h2 (bg some e))]
theorem Qr (L:Lays.n169 P ρ)(X:Builder.Extra P ρ){b g cap:Nat}{p:Value}{cur:Array Value}{l:List UInt8}{w:World}(h0:l≠[])(hbk:w.heap[b]?=some (.cells #[p,.slice (some ⟨g,0,none⟩) l.length cap] (ρ.t 72) (0,0)))(hown:w.ownsRow 0 (ρ.t 5) 1 (.slice (some ⟨g,0,none⟩) l.length cap) l.length (Lib.byteCells l))(hg:w.heap[g]?=some (.cells cur (ρ.t 5) (0,0)))(hnc:l.length<=cap)(hcm:cap<=maxLen)(hcs:cur.size=cap*1):Calls P (ρ.f 169) #[.pointer (some ⟨b,0,none⟩)] w λe w'=>e=.returned (.string ⟨l.toArray⟩)/\zy b (some g) w w'/\(b≠g->w'.heap[b]?=w.heap[b]?):=by
 have hl0:l.length≠0:=by simpa using h0
 have c1:w.drew.cell? ⟨b,1,none⟩=some (.slice (some ⟨g,0,none⟩) l.length cap):=by have :w.drew.heap[b]?=some (.cells #[p,.slice (some ⟨g,0,none⟩) l.length cap] (ρ.t 72) (0,0)):=hbk;rw[Lib.cell_of_heap this];rfl
 have hSD:(Builtin.unsafeSliceData_ #[(ρ.t 37)] (ρ.t 127) #[.slice (some ⟨g,0,none⟩) l.length cap]).run P w.drew=.ok (.pointer (some ⟨g,0,none⟩)) w.drew:=Lib.run_unsafeSliceData_row _ _ _ _ _ _ oO;have hUS:(Builtin.unsafeString_ #[(ρ.t 127),(ρ.t 3)] (ρ.t 9) #[.pointer (some ⟨g,0,none⟩),.int .i64 l.length]).run P w.drew=.ok (.string ⟨l.toArray⟩) (w.drew.freeze ⟨g,0,none⟩ l.length):=by refine Lib.run_unsafeString_row w.drew (ρ.t 127) (ρ.t 3) (ρ.t 9) (ρ.t 5) L.t127 X.cellsByte g cur.size (by have hg':w.drew.heap[g]?=some (.cells cur (ρ.t 5) (0,0)):=hg;simp[World.shape?,hg']) l h0 oO (by unfold maxLen at hcm;omega) ?_;intro j x hx;have :=hown.cells (g:=g) rfl j (.int .u8 x.toNat) (by simp[Lib.byteCells,hx]);exact this
 have mixed:=L.mixed;have t72:=L.t72;have a72:=L.a72;have z72:=L.z72;have v72:=L.v72;have u72:=run_underlying L.t72;have t70:=L.t70;have a70:=L.a70;have z70:=L.z70;have v70:=L.v70;have u70:=run_underlying L.t70;have t37:=L.t37;have a37:=L.a37;have z37:=L.z37;have v37:=L.v37;have u37:=run_underlying L.t37;have t127:=L.t127;have a127:=L.a127;have z127:=L.z127;have v127:=L.v127;have u127:=run_underlying L.t127;have t3:=L.t3;have a3:=L.a3;have z3:=L.z3;have v3:=L.v3;have u3:=run_underlying L.t3;have t9:=L.t9;have a9:=L.a9;have z9:=L.z9;have v9:=L.v9;have u9:=run_underlying L.t9;have t5:=X.t5;have a5:=X.a5;have z5:=X.z5;have v5:=X.v5;have u5:=run_underlying X.t5;have fin:zy b (some g) w (w.drew.freeze ⟨g,0,none⟩ l.length)/\(b≠g->(w.drew.freeze ⟨g,0,none⟩ l.length).heap[b]?=w.heap[b]?):=by refine⟨((zy.refl b (some g) w).drew).freeze _,λhne=>?_⟩;unfold World.freeze;rw[af hl0];simp only[iL];rw[af (λe=>hne e.symm)];rfl
 go_enter L.f169,Body.n169_ntmps ρ;go_wp2;go_region_o;all_goals (go_wp2;go_ret;exact⟨rfl,fin⟩)
theorem SX (L:Lays.n169 P ρ)(X:Builder.Extra P ρ){b:Nat}{p v:Value}{l:List UInt8}{w:World}(hbk:w.heap[b]?=some (.cells #[p,v] (ρ.t 72) (0,0)))(hown:w.ownsRow 0 (ρ.t 5) 1 v l.length (Lib.byteCells l))(hne:v.ownBlock≠some b):Calls P (ρ.f 169) #[.pointer (some ⟨b,0,none⟩)] w λe w'=>e=.returned (.string ⟨l.toArray⟩)/\zy b v.ownBlock w w'/\w'.heap[b]?=some (.cells #[p,v] (ρ.t 72) (0,0)):=by
 have hlt:=(bq.1 hbk).1;have ofB:∀{row:Option Nat}{w':World},Below w.heap.size w w'->zy b row w w'/\w'.heap[b]?=some (.cells #[p,v] (ρ.t 72) (0,0)):=λh=>⟨zy.below h,(h.block b hlt).trans hbk⟩;cases l with
 |nil=>rcases hown.2 with⟨rfl,_⟩|⟨g,cap,cur,rfl,hbg,hg,_,_,_,_⟩;exact(Any.Builder_String_nil L X w.heap.size b p w hbk).mono λe w' ⟨h1,h2⟩=>⟨h1,ofB h2⟩;by_cases hc0:cap=0;subst hc0;exact(Any.Builder_String_noroom L X w.heap.size b g p cur w (aA _) hbk hg).mono λe w' ⟨h1,h2⟩=>⟨h1,ofB h2⟩;exact(Any.Builder_String_room L X w.heap.size b g cap p w hc0 hbk).mono λe w' ⟨h1,h2⟩=>⟨h1,ofB h2⟩
 |cons x r=>rcases hown.2 with⟨_,hz⟩|⟨g,cap,cur,rfl,hbg,hg,hnc,hcm,hcs,alY⟩;simp at hz;refine(Qr L X (by simp) hbk hown hg hnc hcm hcs).mono λe w' ⟨h1,h2,h3⟩=>⟨h1,h2,?_⟩;exact(h3 (λe=>hne (by rw[e];rfl))).trans hbk
theorem Qs {C:Ctx}{w:World}{b:Nat}{v:Value}{l:List UInt8}(h:w.heap[b]?=some (.cells #[.pointer (some ⟨b,0,none⟩),v] C.bT (0,0)))(hown:w.ownsRow 0 C.bE 1 v l.length (Lib.byteCells l))(hne:v.ownBlock≠some b):yh C w b v.ownBlock l:=by refine⟨_,v,.inr rfl,h,?_⟩;rcases hown.2 with⟨rfl,h0⟩|⟨g,cap,cur,rfl,-,h1,h2,h3,h4,h5⟩;exact⟨rfl,bQ.1 h0⟩;refine⟨λe=>hne (by rw[e];rfl),cap,cur,rfl,h1,h2,h3,oO,?_⟩;rw[sK]at h5;exact h5
theorem Qt (L:Lays.n166 P ρ)(X:Builder.Extra P ρ){C:Ctx}(hP:C.P=P)(hT:C.bT=ρ.t 72)(hE:C.bE=ρ.t 5){fn:Func}(hf:P.funcs[ρ.f 166]?=some fn)(hb:fn.body.isNone=false)(hname:(fn.name== "runtime.NumGoroutine")=false){bs s:List UInt8}(hlen:bs.length+s.length<=140737488355328):vn C (ρ.f 166) [.str s] bs (some (bs++s)) (.eW [.int .i64 s.length,.tH]):=by
 subst hP;refine⟨⟨fn,hf,hb,hname⟩,λbk w b row vs hJ _ _ _ _ _ _ rQ hl hr=>?_⟩;match vs,hl with
  |[v0],_=>
   have h0:=hr 0 v0 _ rfl rfl;obtain rfl:v0=.string ⟨s.toArray⟩:=by cases h0;rfl
   obtain⟨p,v,hp,hbk,hown,hrow,hne⟩:=row_of_bld rQ;rw[hT]at hbk;rw[hE]at hown;have hsz:(⟨s.toArray⟩:ByteArray).size=s.length:=by simp[ByteArray.size]
   have hbl:(Lib.byteCells bs).length=bs.length:=Lib.byteCells_length bs;refine(WR L X hp hbk hown (by rw[hrow];exact hne) (by rw[hbl,hsz];exact hlen)).mono ?_;rintro e w' ⟨rfl,v',h1,h2,h3,h4,h5⟩;rw[hsz]at*;refine⟨_,rfl,?_,⟨v'.ownBlock,Qs (by rw[hT];exact h1) ?_ h3,by rw[hrow]at h4;exact h4.imp id .inr⟩,h5.os,h5.tape,h5.output,h5.size,λk hk k1 k2=>h5.block k hk k1 (by rw[hrow];exact k2)⟩;have :=dA.eW (bk:=λ_ _=>False) (w:=w') [.int .i64 s.length,.nilIface] [.int .i64 s.length,.tH] rfl (λi c x hc hx=>by
    match i with
     |0=>simp at hc hx;subst hc;subst hx;exact .int _ _
     |1=>simp at hc hx;subst hc;subst hx;exact .tH
     |n+2=>simp at hc);exact this;rw[hE];have e1:Lib.byteCells bs++Lib.strCells ⟨s.toArray⟩=Lib.byteCells (bs++s):=by simp[Lib.byteCells,Lib.strCells]
   rw[e1,hbl]at h2;rw[ay];exact h2
theorem NC (L:Lays.n169 P ρ)(X:Builder.Extra P ρ){C:Ctx}(hP:C.P=P)(hT:C.bT=ρ.t 72)(hE:C.bE=ρ.t 5){fn:Func}(hf:P.funcs[ρ.f 169]?=some fn)(hb:fn.body.isNone=false)(hname:(fn.name== "runtime.NumGoroutine")=false){bs:List UInt8}:vn C (ρ.f 169) [] bs none (.str bs):=by subst hP;refine⟨⟨fn,hf,hb,hname⟩,λbk w b row vs hJ _ _ _ _ _ _ rQ hl hr=>?_⟩;obtain rfl:vs=[]:=bQ.1 hl;obtain⟨p,v,hp,hbk,hown,hrow,hne⟩:=row_of_bld rQ;rw[hT]at hbk;rw[hE,Lib.byteCells_length]at hown;refine(SX L X hbk hown (by rw[hrow];exact hne)).mono ?_;rintro e w' ⟨rfl,h5,h1⟩;exact⟨_,rfl,.str bs,⟨_,_,by rw[hT];exact h1⟩,h5.os,h5.tape,h5.output,h5.size,λk hk k1 k2=>h5.block k hk k1 (by rw[hrow];exact k2)⟩
end Qv
namespace Qv
open Go Go.Proofs Go.Shelf Go.RowKit
variable {P:Program}{ρ:Ren}
theorem Ku {w:World}{t u e ty:TypeId}{i:jF}(ht:P.underlying t=some (.slice e)){d:TypeDesc}(hu:P.underlying u=some d)(hd:∀k,d≠.int k)(hi:fN P e i)(hs1:i.size=1)(JM:i.bytes=1){v:Value}{n:Nat}{xs:List Value}(hown:w.ownsRow 0 e 1 v n xs){yv:Value}{m:Nat}{news:List Value}(hn2:(Builtin.lenOf yv).run P w=.ok m w)(Of:∀w',(∀b o,w'.cell? ⟨b,o,none⟩=w.cell? ⟨b,o,none⟩)->(Builtin.firstCells 1 m yv).run P w'=.ok news.toArray w')(hnl:news.length=m)(hone:∀u,u∈news->u.oneCell'=true)(hlen:n+m<=140737488355328){v':Value}{w':World}(hr:(Builtin.append_ #[t,u] ty #[v,yv]).run P w=.ok v' w'):v'.ownBlock=v.ownBlock\/∃x,v'.ownBlock=some x/\w.heap.size<=x:=by
 have inj:∀{v2:Value}{w2:World},(Builtin.append_ #[t,u] ty #[v,yv]).run P w=.ok v2 w2->v'=v2:=λh=>by rw[h]at hr;injection hr with e1 _;exact e1.symm
 rcases hown.2 with⟨rfl,rfl⟩|⟨g,cap,cur,rfl,-,hg,hnc,hcm,hcs,-⟩;by_cases h0:m=0;have hnn:news=[]:=bQ.1 oO;rw[h0]at hn2 Of;left;rw[inj (mP (n:=0) (c:=0) (base:=none) ht hu hd hi hn2 (by rw[hs1,Of w (λ_ _=>rfl),hnn]) (aA _))];obtain⟨rest,z,-,-,hrun⟩:=iM (P:=P) (w:=w) (ty:=ty) (n:=0) (c:=0) (m:=m) (base:=none) (olds:=[]) (news:=news) ht hu hd hi hn2 (λw' hw=>by rw[hs1];exact Of w' hw) (λw' _=>by rw[hs1];simp[Builtin.firstCells,loadCells,loadCellsFrom]) oO (by rw[JM];omega) oO;right;rw[inj hrun];exact⟨_,rfl,aA _⟩;by_cases h0:m=0;have hnn:news=[]:=bQ.1 oO;rw[h0]at hn2 Of;left;rw[inj (mP ht hu hd hi hn2 (by rw[hs1,Of w (λ_ _=>rfl),hnn]) hnc)];have hcell:∀q,q<cap->w.cell? ⟨g,q,none⟩=cur[q]?:=λq _=>by rw[Lib.cell_of_heap hg]
 by_cases hroom:n+m<=cap;left;rw[inj (nZ (n:=n) (c:=cap) (m:=m) (b:=g) (off:=0) (news:=news) ht hu hd hi hn2 (by rw[hs1];exact Of w (λ_ _=>rfl)) hroom (λj hj=>by rw[hcell _ (by rw[hs1];omega)];simp[hs1];omega) (λj hj=>Lib.frozen_of_heap hg _) hone)];rfl;right;obtain⟨rest,z,-,-,hrun⟩:=iM (P:=P) (w:=w) (ty:=ty) (n:=n) (c:=cap) (m:=m) (base:=some ⟨g,0,none⟩) (olds:=cur.toList.take n) (news:=news) ht hu hd hi hn2 (λw' hw=>by rw[hs1];exact Of w' hw) (λw' hw=>by
  rw[hs1];have :=run_loadCells (P:=P) w' ⟨g,0,none⟩ (n*1) (λq=>(cur[q]?).getD undef) (λq MF=>by
   rw[Addr.add_lit,hw,hcell _ oO];have :q<cur.size:=oO
   simp[this]);simp only[Builtin.firstCells,this];congr 1;apply iJ.1;apply fZ;intro q;by_cases hq:q<n;have :q<cur.size:=oO
  simp[hq,this];simp[hq];omega) oO (by rw[JM];omega) oO;rw[inj hrun];exact⟨_,rfl,aA _⟩
theorem BK {w:World}{ops:Array Oper}{rest:List Oper}{o:Oper}{a:Act}{Q:Exit->Act->World->Prop}(hgd:o.guard=none)(sl x:Operand)(t:TypeId)(ho:o.op=.call {callee:=.builtin .append,args:=#[sl,x],argTypes:=#[t,t]})(e:TypeId)(i:TypeInfo)(ht:P.underlying t=some (.slice e))(he:P.underlying e=some (.int .u8))(hi:P.info? e=some i)(hz:i.zero=some (.int .u8 0))(hsize:i.size=1)(hby:i.bytes=1)(v:Value)(n:Nat)(xs:List Value)(hs:a.eval sl=v)(hown:w.ownsRow 0 e 1 v n xs)(c:Int)(N:Nat)(hx:a.eval x=.slice (some ⟨N,0,none⟩) 1 1)(hN:w.cell? ⟨N,0,none⟩=some (.int .u8 c))(hbytes:n+1<=140737488355328)(h:∀v' w',w'.ownsRow 0 e 1 v' (n+1) (xs++[.int .u8 c])->w.grownBy w' v.ownBlock->(v'.ownBlock=v.ownBlock\/∃y,v'.ownBlock=some y/\w.heap.size<=y)->wpList P ops Q rest (a.put o.dst v') w'):wpList P ops Q (o::rest) a w:=by
 refine wpList_plain hgd λK hK=>?_;have hcell:∀(j:Nat)(u:Value),[Value.int .u8 c][j]?=some u->w.cell? ((⟨N,0,none⟩:Addr).add j)=some u:=λj u hj=>by match j,hj with|0,hj=>simp at hj;subst hj;simpa[Addr.add]using hN
 obtain⟨v',w',hr,h2,h3,-⟩:=run_append_own (P:=P) w 0 t o.type e i (.int .u8 0) 1 1 ht hi hz hsize hby rfl dD v n xs hown ⟨N,0,none⟩ 1 1 [.int .u8 c] rfl hcell (λu hu=>by simp at hu;subst hu;rfl) (by unfold maxLen;omega) oO (sC _);have h5:=Ku ht ht (λk h=>by cases h) (Jc hi hz hsize hby he) rfl rfl hown (m:=1) (news:=[.int .u8 c]) (yv:=.slice (some ⟨N,0,none⟩) 1 1) (by simp[Builtin.lenOf]) (λw' hw=>by
  have :=run_loadCells (P:=P) w' ⟨N,0,none⟩ 1 (λ_=>.int .u8 c) (λq hq=>by
   obtain rfl:q=0:=oO
   rw[Addr.add_lit,hw];exact hN);simpa[Builtin.firstCells]using this) rfl (λu hu=>by simp at hu;subst hu;rfl) hbytes hr;unfold Oper.wp execOp;simp only[ho,resolve,invoke,builtin,Sem.run_bind,Sem.run_pure,Result.andThen_ok,CD,bR,fW,hs,hx,hr];exact hK _ _ (h v' w' h2 h3 h5)
theorem Kv (L:Lays.n167 P ρ)(X:Builder.Extra P ρ){b:Nat}{p:Option Addr}{v:Value}{bs:List Value}{c:Int}{w:World}(hp:p=none\/p=some ⟨b,0,none⟩)(h:w.heap[b]?=some (.cells #[.pointer p,v] (ρ.t 72) (0,0)))(Qq:w.ownsRow 0 (ρ.t 5) 1 v bs.length bs)(hne:v.ownBlock≠some b)(hlen:bs.length+1<=140737488355328):Calls P (ρ.f 167) #[.pointer (some ⟨b,0,none⟩),.int .u8 c] w λe w'=>e=.returned .nilIface/\∃v',w'.heap[b]?=some (.cells #[.pointer (some ⟨b,0,none⟩),v'] (ρ.t 72) (0,0))/\w'.ownsRow 0 (ρ.t 5) 1 v' (bs.length+1) (bs++[.int .u8 c])/\v'.ownBlock≠some b/\(v'.ownBlock=v.ownBlock\/∃x,v'.ownBlock=some x/\w.heap.size<=x)/\zy b v.ownBlock w w':=by
 obtain⟨i0,hi,hz0,hz1,hz2⟩:=info_parts X.infoByte;have mixed:=L.mixed;have t72:=L.t72;have a72:=L.a72;have z72:=L.z72;have v72:=L.v72;have u72:=run_underlying L.t72;have t70:=L.t70;have a70:=L.a70;have z70:=L.z70;have v70:=L.v70;have u70:=run_underlying L.t70;have t37:=L.t37;have a37:=L.a37;have z37:=L.z37;have v37:=L.v37;have u37:=run_underlying L.t37;have t9:=L.t9;have a9:=L.a9;have z9:=L.z9;have v9:=L.v9;have u9:=run_underlying L.t9;have t4:=L.t4;have a4:=L.a4;have z4:=L.z4;have v4:=L.v4;have u4:=run_underlying L.t4;have t164:=L.t164;have a164:=L.a164;have z164:=L.z164;have v164:=L.v164;have u164:=run_underlying L.t164;have t5:=L.t5;have a5:=L.a5;have z5:=L.z5;have v5:=L.v5;have u5:=run_underlying L.t5;have akP:∀args w,(callFunc (ρ.f 240) args).run P w=.ok (.enter (ρ.f 240) args) w:=enters_of L.f240 kK rfl;go_enter L.f167,Body.n167_ntmps ρ;go_wp2_with (go_at_fn (ρ.f 240);refine(AX {L with} X.toX72 hp h none).mono ?_);rintro e w1 ⟨rfl,hbk,JM⟩;have hown:w1.ownsRow 0 (ρ.t 5) 1 v bs.length bs:=by refine⟨Qq.1,Qq.2.imp id ?_⟩;rintro⟨g,cap,cur,rfl,q1,q2,q3⟩;refine⟨g,cap,cur,rfl,q1,?_,q3⟩;rw[JM.block g (bq.1 q2).1 (λe=>hne (by rw[e];rfl)) (by simp)];exact q2
 have c0:w1.cell? ⟨b,0,none⟩=some (.pointer (some ⟨b,0,none⟩)):=by rw[Lib.cell_of_heap hbk];rfl
 have c1:w1.cell? ⟨b,1,none⟩=some v:=by rw[Lib.cell_of_heap hbk];rfl
 go_wp2_with (at_builtin;refine BK rfl _ _ (ρ.t 37) rfl (ρ.t 5) i0 L.t37 L.t5 hi hz0 hz1 hz2 _ _ _ rfl (hown.alloc _) c w1.heap.size rfl ?cN ?c4 ?_);case cN=>simp[go_sem]
 case c4=>omega
 intro v' w2 hown' hgrow Jd;have hlt:b<w1.heap.size:=(bq.1 hbk).1;have Cg:w2.heap[b]?=some (.cells #[.pointer (some ⟨b,0,none⟩),v] (ρ.t 72) (0,0)):=by rw[hgrow.block b (by simp;omega) (λe=>hne e.symm),Lib.alloc_old w1 _ b hlt];exact hbk
 have d0:w2.cell? ⟨b,0,none⟩=some (.pointer (some ⟨b,0,none⟩)):=by rw[Lib.cell_of_heap Cg];rfl
 have d1:w2.cell? ⟨b,1,none⟩=some v:=by rw[Lib.cell_of_heap Cg];rfl
 have f1:w2.frozen? ⟨b,1,none⟩=false:=Lib.frozen_of_heap Cg 1;obtain⟨ao,n',cap,rfl⟩:∃ao n' cap,v'=.slice ao n' cap:=by rcases hown'.2 with⟨hv,_⟩|⟨g,cap,cur,hv,_⟩;exact⟨_,_,_,hv⟩;exact⟨_,_,_,hv⟩
 go_wp2;go_ret;have aaZ:(Value.slice ao n' cap).ownBlock≠some b:=by rcases Jd with e|⟨y,e,hy⟩;rw[e];exact hne;rw[e];intro e2;have :=au e2;(try simp at hy);omega
 have agy:zy b v.ownBlock w (w2.setCell ⟨b,1,none⟩ (.slice ao n' cap)):=zy.setCell (zy.trans ⟨JM.os,JM.tape,JM.output,JM.size,λk hk h1 _=>JM.block k hk h1 (by simp)⟩ ⟨hgrow.os,hgrow.tape,hgrow.output,ck (by simp) hgrow.size,λk hk _ h2=>(hgrow.block k (by simp;omega) (λe=>h2 e.symm)).trans (Lib.alloc_old w1 _ k hk)⟩) 1 _;refine⟨rfl,.slice ao n' cap,?_,?_,aaZ,?_,agy⟩;simp[World.setCell,iL,Cg];refine⟨hown'.1,hown'.2.imp id ?_⟩;rintro⟨g,cap',cur,e1,q1,q2,q3⟩;refine⟨g,cap',cur,e1,q1,?_,q3⟩;rw[Below.heap_setCell _ _ _ _ (λe=>aaZ (by rw[e1];show some g=some b;exact bg some e))];exact q2;rcases Jd with e|⟨y,e,hy⟩;exact .inl e;exact .inr ⟨y,e,by have :=JM.size;(try simp at hy);omega⟩
theorem Gu (L:Lays.n167 P ρ)(X:Builder.Extra P ρ){C:Ctx}(hP:C.P=P)(hT:C.bT=ρ.t 72)(hE:C.bE=ρ.t 5){fn:Func}(hf:P.funcs[ρ.f 167]?=some fn)(hb:fn.body.isNone=false)(hname:(fn.name== "runtime.NumGoroutine")=false){bs:List UInt8}{c:UInt8}(hlen:bs.length+1<=140737488355328):vn C (ρ.f 167) [.int .u8 c.toNat] bs (some (bs++[c])) .tH:=by
 subst hP;refine⟨⟨fn,hf,hb,hname⟩,λbk w b row vs hJ _ _ _ _ _ _ rQ hl hr=>?_⟩;match vs,hl with
  |[v0],_=>
   have h0:=hr 0 v0 _ rfl rfl;obtain rfl:v0=.int .u8 c.toNat:=by cases h0;rfl
   obtain⟨p,v,hp,hbk,hown,hrow,hne⟩:=row_of_bld rQ;rw[hT]at hbk;rw[hE]at hown;have hbl:(Lib.byteCells bs).length=bs.length:=Lib.byteCells_length bs;refine(Kv L X hp hbk hown (by rw[hrow];exact hne) (by rw[hbl];exact hlen)).mono ?_;rintro e w' ⟨rfl,v',h1,h2,h3,h4,h5⟩;refine⟨_,rfl,.tH,⟨v'.ownBlock,Qs (by rw[hT];exact h1) ?_ h3,by rw[hrow]at h4;exact h4.imp id .inr⟩,h5.os,h5.tape,h5.output,h5.size,λk hk k1 k2=>h5.block k hk k1 (by rw[hrow];exact k2)⟩;rw[hE];have e1:Lib.byteCells bs++[.int .u8 c.toNat]=Lib.byteCells (bs++[c]):=by simp[Lib.byteCells]
   rw[e1,hbl]at h2;rw[ay];exact h2
end Qv
namespace Qv
open Go Go.RowKit
mutual theorem abJ:∀x:FV,FV.nm [] x=x
 |.ptr o off=>rfl
 |.gD o b off=>rfl
 |.fG o=>rfl
 |.agg xs=>by simp only[FV.nm,DX xs]
 |.eW xs=>by simp only[FV.nm,DX xs]
 |.fn f a b=>by simp only[FV.nm,DX a,DX b]
 |.p _=>rfl
 |.fM _ _ _ _=>rfl
 |.full _=>rfl
 |.lX _=>rfl
 |.gd _ _ _=>rfl
 |.uk _ _ _ _=>rfl
 |.zR _=>rfl
 |.dR=>rfl theorem DX:∀xs:List FV,FV.Hp [] xs=xs|[]=>rfl|x::xs=>by simp only[FV.Hp,abJ x,DX xs] end
theorem DY {S:aj}:∀{aI:List (Nat×List FV)},Hz S aI->∀{o:Nat}{cells:List FV},Qv.getObj aI o=some cells->Qv.getObj S.aI o=some cells|(u,c)::r,h,o,cells,hc=>by simp only[Qv.getObj]at hc;split at hc;rename_i hb;obtain rfl:=aM hb;obtain rfl:=au hc;exact h.1;exact DY h.2 hc
def JD (aI:List (Nat×List FV))(m:Nat)(loc mp:Nat->Option Nat):List (Nat×Nat):=(jf aI).flatMap (λo=>(loc o).toList.map λb=>(o,b))++(mp m).toList.map λb=>(m,b)
theorem tG {aI:List (Nat×List FV)}{m:Nat}{loc mp:Nat->Option Nat}{o b:Nat}:(o,b)∈JD aI m loc mp↔(o∈jf aI/\loc o=some b)\/(o=m/\mp m=some b):=by unfold JD;simp only[aZ,gC,aC,Option.mem_toList,Prod.mk.injEq];constructor;rintro(⟨u,h1,v,h2,rfl,rfl⟩|⟨v,h2,rfl,rfl⟩);exact .inl ⟨h1,h2⟩;exact .inr ⟨rfl,h2⟩;rintro(⟨h1,h2⟩|⟨rfl,h2⟩);exact .inl ⟨o,h1,b,h2,rfl,rfl⟩;exact .inr ⟨b,h2,rfl,rfl⟩
theorem Oa {C:Ctx}{f:FuncId}{fn:Func}{c:Code}{aI:List (Nat×List FV)}{m:Nat}{l:List (AV×FV)}{args:List FV}{R:AV->List (AV×FV)->Prop}(hf:C.P.funcs[f]?=some fn)(hb:fn.body=some c)(hname:(fn.name== "runtime.NumGoroutine")=false)(hlen:args.length<=fn.ntmps)(Sa:getM C.ex.Mi m=none)(hmn:Hq m (jf aI)=true)(vj:vp (jf aI) m aI=true)(h:ev C c (OC C fn.results.toList aI m R) (OB fn.ntmps aI m l args)):oz C f aI m l args R:=by
 refine⟨⟨fn,hf,by simp_all,hname⟩,λbk loc mp w vs hJ hn hi rQ hl hr=>?_⟩;have hmn:=Et.1 hmn;have hmem:∀o b,loc o=some b->(o,b)∈JD aI m loc mp:=λo b q=>tG.2 (.inl ⟨oJ.1 (rQ.dom o b q).2.1,q⟩);have ai7:∀b,mp m=some b->(m,b)∈JD aI m loc mp:=λb q=>tG.2 (.inr ⟨rfl,q⟩);have hown:∀k,k∈(JD aI m loc mp).map (·.2)->C.mV<=k/\k<w.heap.size/\∀o,¬bk k o:=λk hk=>by obtain⟨⟨o,b⟩,hp,rfl⟩:=aC.1 hk;rcases tG.1 hp with⟨-,q⟩|⟨-,q⟩;obtain⟨-,-,-,g4,g5,g6⟩:=rQ.dom o b q;exact⟨g4,g5,λi=>(g6 i).1⟩;obtain⟨-,-,g4,g5,g6⟩:=rQ.Ym m b q;exact⟨g4,g5,g6⟩
 let E:Env:={C:=C,w0:=w,Ek:=bk,hJ:=hJ.1,hn:=hn,mj:=none,bK:=[],loops:=[],fixed:=[],own:=(JD aI m loc mp).map (·.2),hown:=hown,rP:=JD aI m loc mp,Co:=λp hp=>⟨aC.2 ⟨p,hp,rfl⟩,by simp⟩};obtain⟨hsz,ht⟩:=vC (n:=fn.ntmps) (vals:=vs) (args:=args) hl hlen hr;have hs:bt E (ux bk loc mp) (OB fn.ntmps aI m l args) {tmps:=vs.toArray++Array.replicate (fn.ntmps-vs.toArray.size) undef,defers:=[]} w:=by obtain⟨B,gu,es,b1,b2,b3,b4,b5⟩:=rQ.map;refine⟨⟨rfl,rfl,rfl,aA _,λ_ _ _=>rfl,λk cs T fr _ q=>⟨cs,q,rfl⟩⟩,hsz,⟨⟨λo l' q=>?_,λo b q=>?_,λo o' b q q'=>(rQ.Ym o b q).1.trans (rQ.Ym o' b q').1.symm,(λq x h=>by cases h),(λq r h=>by cases h),(λq q' r h=>by cases h),λo o' b q=>rQ.apart o o' b q,λo T z k l' b gu es q1 q2=>?_⟩,rfl,(λi vs fr h=>by simp[E]at h),rfl,(λi k r st h=>by simp[E]at h),(λi j k r r' h=>by simp[E]at h),(λi k r h=>by simp[E]at h),(λl h=>by simp[E]at h),⟨[],rfl,by simp[E],by simp[E]⟩,hJ.2⟩,⟨(λo bs h=>by cases h),(λo r h=>by cases h),(λo r h=>by cases h)⟩,λb o h=>.inl h,hi,λi hi'=>ht i hi',rQ.aI,λo b q=>?_,rQ.inj,(λo t b r _ h=>by cases h),(λt b s e T h=>by cases h),(λt t' b r r' h=>by cases h)⟩;simp only[OB,getM]at q;split at q;rename_i e;obtain rfl:=aM e;obtain rfl:=au q;exact⟨B,gu,es,b1,b2,b3,b4,b5⟩;cases q;obtain⟨rfl,g2,g3,g4,g5⟩:=rQ.Ym o b q;have e:b=B:=au (q.symm.trans b1);exact⟨.inr ⟨g2,ai7 b q⟩,g5,_,_,e▸b2⟩;simp only[OB,getM]at q1;split at q1;rename_i e;obtain rfl:=aM e;rw[show getM E.C.ex.Mi m=none from Sa]at q2;cases q2;cases q1;obtain⟨g1,g2,g3,g4,g5,g6⟩:=rQ.dom o b q;exact⟨g5,.inr ⟨g1,hmem o b q⟩,g6⟩
 refine(callsIn_wide (n:=0)).1 (callsIn_of_wp_marks hf hb trivial ?_ rfl);refine wpIn_mono (tF c (E:=E) (yW C 6) (uI E) h ⟨_,hs⟩) ?_;have fin:∀{S':aj}{a':Act}{w':World},zY C fn.results.toList aI m R S'->nO E S' a' w'->LeavesInM Fence.wide 0 C.P fn a'.tmps (λe w'=>∃v r l',e=.returned v/\R r l'/\dA (kW bk w.heap.size) w' v r/\(∀o b,loc o=some b->(∀cells (i:Nat)(x:FV),Qv.getObj aI o=some cells->cells[i]?=some x->∃c,w'.cell? ⟨b,i,none⟩=some c/\aT (ux (kW bk w.heap.size) loc mp) w' c x)/\∀cs T fr,w.heap[b]?=some (.cells cs T fr)->∃cs',w'.heap[b]?=some (.cells cs' T fr)/\cs'.size=cs.size)/\(∃(b gu:Nat) (es:List MapEntry),mp m=some b/\w'.heap[b]?=some (.map es.toArray gu)/\pV es gu/\es.length=l'.length/\∀(i:Nat)(e:MapEntry)(p:AV×FV),es[i]?=some e->l'[i]?=some p->dA (kW bk w.heap.size) w' e.key p.1/\aT (ux (kW bk w.heap.size) loc mp) w' e.val p.2)/\w'.os=w.os/\w'.tape=w.tape/\w'.output=w.output/\w.heap.size<=w'.heap.size/\∀k,k<w.heap.size->(∀o,loc o≠some k)->(∀o,mp o≠some k)->w'.heap[k]?=w.heap[k]?) a'.defers .returning w':=λ{S' a' w'} hq ⟨G',hs'⟩=>by
  obtain⟨ms',hm',-,-⟩:=hs'.ext'.marks;rw[hm'];refine Ae (E:=E) ms' rfl hs' rfl hm' λG2 a2 w2 hs2 ht2 hd2=>?_;unfold zY at hq;obtain⟨vs,xs,r1,r2,r3,r4,r5⟩:=og hs2 _ _ hq;split at r2;rename_i r l' Zf hl';obtain⟨⟨r2,r6⟩,r7⟩:=r2;rw[<-ht2];have hlo:∀o b b2,loc o=some b->G2.loc o=some b2->b2=b:=λo b b2 q q2=>by obtain⟨g1,g2,-⟩:=rQ.dom o b q;rcases(hs2.gG o b2 q2).2.1 with k|k;rw[g1]at k;cases k.2;rcases tG.1 k.2 with⟨-,k⟩|⟨k,-⟩;rw[q]at k;exact(au k).symm;exact absurd (k▸oJ.1 g2) hmn
  obtain⟨B,gu,es,b1,b2,b3,b4,b5⟩:=hs2.ext'.mps.at_ m l' hl';have hB:mp m=some B:=by obtain⟨B0,-,-,q,-⟩:=rQ.map;have Nx:=(rQ.Ym m B0 q).2.1;rcases(hs2.ext'.mps.loc m B b1).1 with k|k;rw[Nx]at k;cases k.2;rcases tG.1 k.2 with⟨k,-⟩|⟨-,k⟩;exact absurd k hmn;exact k
  have back:∀{v:Value}{x:FV},x.only (jf aI) m=true->aT G2 w2 v x->aT (ux (kW bk w.heap.size) loc mp) w2 v x:=λ{v x} hx hv=>hv.back (ρ:=[]) (N:=jf aI) (m:=m) (λb o q=>hs2.nN b o q) (λo b q q2=>by obtain⟨cells,q3⟩:=Ac.1 (oJ.1 q);obtain⟨b',q4,-⟩:=rQ.aI o cells q3;rw[hlo o b' b q4 q2];exact q4) (λb q=>by have q:G2.mp m=some b:=q;rw[b1]at q;obtain rfl:=au q;exact hB) x hx (abJ x).symm;refine⟨_,kU fn a2.tmps E.C.P w2 r1,_,r,l',rfl,r7,Db hs2 ((Ad r4 r5).eG Zf),λo b q=>⟨λcells i x q1 q2=>?_,λcs T fr q1=>hs2.kept.shape b cs T fr ⟨o,hmem o b q⟩ q1⟩,⟨B,gu,es,hB,b2,b3,b4,λi e p q1 q2=>⟨Db hs2 (b5 i e p q1 q2).1,back (Es r6 q2) (b5 i e p q1 q2).2⟩⟩,hs2.kept.os,hs2.kept.tape,hs2.kept.output,hs2.kept.size,λk hk k1 k2=>hs2.kept.block k hk λhm=>?_⟩;obtain⟨b',q3,q4⟩:=hs2.aI o cells (DY r2 q1);obtain rfl:=hlo o b b' q q3;obtain⟨c,q5,q6⟩:=q4 i x q2;exact⟨c,q5,back (pM (sJ vj q1).2.1 q2) q6⟩;obtain⟨⟨o,b⟩,hp,rfl⟩:=aC.1 hm;rcases tG.1 hp with⟨-,q⟩|⟨-,q⟩;exact k1 o q;exact k2 m q;exact r2.elim
 rintro e a' w' ⟨S',hq,hs'⟩;cases e with
 |normal=>exact fin hq hs'
 |ret=>exact fin hq hs'
 |_=>exact hq.elim
theorem jA {C:Ctx}(e:Extra)(k:List Nat){f:FuncId}{fn:Func}{aI:List (Nat×List FV)}{m:Nat}{l:List (AV×FV)}{args:List FV}{R:AV->List (AV×FV)->Prop}(hf:C.P.funcs[f]?=some fn)(hb:fn.body.isSome=true)(hname:(fn.name== "runtime.NumGoroutine")=false)(hlen:Nat.ble args.length fn.ntmps=true)(Sa:getM e.Mi m=none)(hmn:Hq m (jf aI)=true)(vj:vp (jf aI) m aI=true)(h:ev ((C.cut k).open e) (match fn.body with|some c=>c|none=>.skip) (OC ((C.cut k).open e) fn.results.toList aI m R) (OB fn.ntmps aI m l args)):oz C f aI m l args R:=by obtain⟨c,hc⟩:=oh.1 hb;rw[hc]at h;exact Oa (C:=(C.cut k).open e) hf hc hname (gZ hlen) Sa hmn vj h
end Qv
open Go Go.RowKit
namespace Qv
def tu (a b:Nat):Nat:=(a+b)%4294967296
def Tx (a k:Nat):Nat:=(a*2^k)%4294967296
def Gw (a k:Nat):Nat:=Nat.lor (a/2^k) (Tx a (32-k))
def fce {α:Type}(n:Nat)(k:Nat->α):α:=match n with|0=>k 0|m+1=>k (m+1)
theorem Fb {α:Type}(n:Nat)(k:Nat->α):fce n k=k n:=by cases n<;>rfl
theorem wrap32 {n:Nat}(h:n<4294967296):IntKind.u32.wrap (n:Int)=n:=by simp[IntKind.wrap,IntKind.bits,IntKind.signed];omega
theorem Ap {n:Nat}:BitVec.ofInt 32 (n:Int)=BitVec.ofNat 32 n:=by simp
theorem xZ {a b:Nat}(ha:a<4294967296)(hb:b<4294967296):x32 a b=(Nat.xor a b:Nat):=by have h:Nat.xor a b<2^32:=Nat.xor_lt_two_pow oO oO;show IntKind.u32.wrap (((BitVec.ofInt 32 (a:Int)^^^BitVec.ofInt 32 (b:Int)).toNat:Nat):Int)=_;rw[Ap,Ap,BitVec.toNat_xor,qx,qx,mu oO,mu oO];exact wrap32 oO
theorem QY {a b:Nat}(ha:a<4294967296)(hb:b<4294967296):a32 a b=(Nat.land a b:Nat):=by have h:Nat.land a b<2^32:=Nat.and_lt_two_pow a oO;show IntKind.u32.wrap (((BitVec.ofInt 32 (a:Int)&&&BitVec.ofInt 32 (b:Int)).toNat:Nat):Int)=_;rw[Ap,Ap,BitVec.toNat_and,qx,qx,mu oO,mu oO];exact wrap32 oO
theorem Ve {a b:Nat}(ha:a<4294967296)(hb:b<4294967296):Bz a b=(Nat.lor a b:Nat):=by have h:Nat.lor a b<2^32:=Dn oO oO;show IntKind.u32.wrap (((BitVec.ofInt 32 (a:Int)|||BitVec.ofInt 32 (b:Int)).toNat:Nat):Int)=_;rw[Ap,Ap,BitVec.toNat_or,qx,qx,mu oO,mu oO];exact wrap32 oO
theorem aiJ {a:Nat}(ha:a<4294967296):n32 a=(Nat.xor 4294967295 a:Nat):=xZ (a:=4294967295) dD ha
theorem jS (a b:Nat):oK a b=(tu a b:Nat):=by show IntKind.u32.wrap ((a:Int)+(b:Int))=_;simp[IntKind.wrap,IntKind.bits,IntKind.signed,tu]
theorem GX {a k:Nat}(hk:k<=32):AR a (k:Int)=(a/2^k:Nat):=by show(a:Int).fdiv (2^(min (k:Int).toNat 32))=_;rw[ko,ou hk,Dl _ (Int.le_of_lt (Int.pow_pos dD)),Int.natCast_ediv,Int.natCast_pow];rfl
theorem GY {a k:Nat}(hk:k<=32):jc a (k:Int)=(Tx a k:Nat):=by show IntKind.u32.wrap ((a:Int)*2^(min (k:Int).toNat 32))=_;rw[ko,ou hk];simp[IntKind.wrap,IntKind.bits,IntKind.signed,Tx]
theorem qy (a b:Nat):tu a b<4294967296:=jh _ dD
theorem ox (a k:Nat):Tx a k<4294967296:=jh _ dD
theorem Fc {a b:Nat}(ha:a<4294967296)(hb:b<4294967296):Nat.xor a b<4294967296:=Nat.xor_lt_two_pow (n:=32) oO oO
theorem xG {a b:Nat}(hb:b<4294967296):Nat.land a b<4294967296:=Nat.and_lt_two_pow (n:=32) a oO
theorem BU {a b:Nat}(ha:a<4294967296)(hb:b<4294967296):Nat.lor a b<4294967296:=Dn (n:=32) oO oO
theorem NQ {a:Nat}(k:Nat)(ha:a<4294967296):a/2^k<4294967296:=Nat.lt_of_le_of_lt (Nat.div_le_self _ _) ha
theorem jT {a:Nat}(k:Nat)(ha:a<4294967296):Gw a k<4294967296:=BU (NQ k ha) (ox _ _)
theorem rL {a k:Nat}(ha:a<4294967296)(hk:k<=32):uK a (k:Int)=(Gw a k:Nat):=by
 show Bz (AR a (k:Int)) (jc a (32-(k:Int)))=_;have e:(32:Int)-(k:Int)=((32-k:Nat):Int):=oO
 rw[e,GX hk,GY oO,Ve (NQ k ha) (ox _ _)];rfl
def w1N (b:List Nat)(t:Nat):Nat:=Nat.lor (Nat.lor (Nat.lor (Tx (b.getD (4*t) 0) 24) (Tx (b.getD (4*t+1) 0) 16)) (Tx (b.getD (4*t+2) 0) 8)) (b.getD (4*t+3) 0)
def w2N (x2 x7 x15 x16:Nat):Nat:=tu (tu (tu (Nat.xor (Nat.xor (Gw x2 17) (Gw x2 19)) (x2/2^10)) x7) (Nat.xor (Nat.xor (Gw x15 7) (Gw x15 18)) (x15/2^3))) x16
theorem GZ (b:Bytes)(i:Nat):xT b i=((b.map UInt8.toNat).getD i 0:Nat):=by unfold xT;rw[eV,eV,aN];cases b[i]?<;>rfl
theorem Vf (b:Bytes)(i:Nat):(b.map UInt8.toNat).getD i 0<4294967296:=by
 rw[eV,aN];cases b[i]?with
 |none=>decide
 |some x=>have :=x.toNat_lt;show x.toNat<_;omega
theorem ak4 (b:Bytes)(t:Nat):w1F b t=(w1N (b.map UInt8.toNat) t:Nat):=by unfold w1F w1N;rw[GZ,GZ,GZ,GZ,show(24:Int)=((24:Nat):Int)from rfl,show(16:Int)=((16:Nat):Int)from rfl,show(8:Int)=((8:Nat):Int)from rfl,GY dD,GY dD,GY dD,Ve (ox _ _) (ox _ _),Ve (BU (ox _ _) (ox _ _)) (ox _ _),Ve (BU (BU (ox _ _) (ox _ _)) (ox _ _)) (Vf _ _)]
theorem aiK (b:Bytes)(t:Nat):w1N (b.map UInt8.toNat) t<4294967296:=BU (BU (BU (ox _ _) (ox _ _)) (ox _ _)) (Vf _ _)
theorem ak5 {f:Nat->Int}{t x2 x7 x15 x16:Nat}(h2:f (t-2)=(x2:Nat))(h7:f (t-7)=(x7:Nat))(h15:f (t-15)=(x15:Nat))(h16:f (t-16)=(x16:Nat))(l2:x2<4294967296)(l15:x15<4294967296):XX f t=(w2N x2 x7 x15 x16:Nat):=by unfold XX w2N;rw[h2,h7,h15,h16,show(17:Int)=((17:Nat):Int)from rfl,show(19:Int)=((19:Nat):Int)from rfl,show(10:Int)=((10:Nat):Int)from rfl,show(7:Int)=((7:Nat):Int)from rfl,show(18:Int)=((18:Nat):Int)from rfl,show(3:Int)=((3:Nat):Int)from rfl,rL l2 dD,rL l2 dD,GX dD,rL l15 dD,rL l15 dD,GX dD,xZ (jT _ l2) (jT _ l2),xZ (Fc (jT _ l2) (jT _ l2)) (NQ _ l2),xZ (jT _ l15) (jT _ l15),xZ (Fc (jT _ l15) (jT _ l15)) (NQ _ l15),jS,jS,jS]
def Xk (b:List Nat):Nat->List Nat|0=>[]|t+1=>fce (w1N b t) λx=>x::Xk b t
def Xl:Nat->List Nat->List Nat|0,l=>l|n+1,l=>fce (w2N (l.getD 1 0) (l.getD 6 0) (l.getD 14 0) (l.getD 15 0)) λx=>Xl n (x::l)
structure WOk (b:Bytes)(t:Nat)(l:List Nat):Prop where
 len:l.length=t
 at_:∀i,i<t->qG b t i=((l.getD (t-1-i) 0:Nat):Int)
 lt:∀i,l.getD i 0<4294967296
theorem QZ {b:Bytes}{t:Nat}{l:List Nat}(h:WOk b t l){x:Nat}(hx:x<4294967296)(hv:(if t<16 then w1F b t else XX (qG b t) t)=(x:Int)):WOk b (t+1) (x::l):=by
 refine⟨by rw[aR,h.len],λi hi=>?_,λi=>?_⟩;show pU (qG b t) t _ i=_;by_cases e:i=t;subst e;rw[qg,hv];simp;rw[tc _ _ _ i e,h.at_ i oO];have :t+1-1-i=(t-1-i)+1:=oO
 rw[this];rfl;cases i with
 |zero=>exact hx
 |succ i=>exact h.lt i
theorem Vg (b:Bytes):∀t,t<=16->WOk b t (Xk (b.map UInt8.toNat) t)|0,_=>⟨rfl,λi hi=>absurd hi (jm _),λi=>by show([]:List Nat).getD i 0<_;simp⟩|t+1,ht=>by unfold Xk;rw[Fb];refine QZ (Vg b t oO) (aiK b t) ?_;rw[ag oO];exact ak4 b t
theorem Vh (b:Bytes):∀n t l,16<=t->WOk b t l->WOk b (t+n) (Xl n l)
 |0,t,l,_,h=>h
 |n+1,t,l,ht,h=>by
  unfold Xl;rw[Fb];have :=Vh b n (t+1) (w2N (l.getD 1 0) (l.getD 6 0) (l.getD 14 0) (l.getD 15 0)::l) oO ?_;rw[show t+(n+1)=t+1+n from oO];exact this;refine QZ h (qy _ _) ?_;rw[af oO];have g:∀k,k<t->0<k->qG b t (t-k)=((l.getD (k-1) 0:Nat):Int):=λk hk h0=>by rw[h.at_ (t-k) oO];congr 2;omega
  refine ak5 (g 2 oO dD) (g 7 oO dD) (g 15 oO dD) ?_ (h.lt 1) (h.lt 14);by_cases e:t=16;subst e;rw[h.at_ (16-16) dD];exact g 16 oO dD
theorem Vi {α:Type}{l:List α}{i:Nat}{d:α}(h:i<l.length):l.getD i d=l[i]:=by rw[eV,av h];rfl
def t1N (e f g h k w:Nat):Nat:=tu (tu (tu (tu h (Nat.xor (Nat.xor (Gw e 6) (Gw e 11)) (Gw e 25))) (Nat.xor (Nat.land e f) (Nat.land (Nat.xor 4294967295 e) g))) k) w
def t2N (a b c:Nat):Nat:=tu (Nat.xor (Nat.xor (Gw a 2) (Gw a 13)) (Gw a 22)) (Nat.xor (Nat.xor (Nat.land a b) (Nat.land a c)) (Nat.land b c))
def runN:List Nat->List Nat->Nat->Nat->Nat->Nat->Nat->Nat->Nat->Nat->List Nat|k::ks,w::ws,a,b,c,d,e,f,g,h=>fce (t1N e f g h k w) λt1=>fce (tu t1 (t2N a b c)) λa'=>fce (tu d t1) λe'=>runN ks ws a' a b c e' e f g|_,_,a,b,c,d,e,f,g,h=>[a,b,c,d,e,f,g,h]
theorem ak6 {v:Nat->Int}{e f g h k w:Nat}(h4:v 4=(e:Nat))(h5:v 5=(f:Nat))(h6:v 6=(g:Nat))(h7:v 7=(h:Nat))(le:e<4294967296)(lf:f<4294967296)(lg:g<4294967296):t1F v k w=(t1N e f g h k w:Nat):=by unfold t1F t1N;rw[h4,h5,h6,h7,show(6:Int)=((6:Nat):Int)from rfl,show(11:Int)=((11:Nat):Int)from rfl,show(25:Int)=((25:Nat):Int)from rfl,rL le dD,rL le dD,rL le dD,xZ (jT _ le) (jT _ le),xZ (Fc (jT _ le) (jT _ le)) (jT _ le),QY le lf,aiJ le,QY (Fc dD le) lg,xZ (xG lf) (xG lg),jS,jS,jS,jS]
theorem ak7 {v:Nat->Int}{a b c:Nat}(h0:v 0=(a:Nat))(h1:v 1=(b:Nat))(h2:v 2=(c:Nat))(la:a<4294967296)(lb:b<4294967296)(lc:c<4294967296):t2F v=(t2N a b c:Nat):=by unfold t2F t2N;rw[h0,h1,h2,show(2:Int)=((2:Nat):Int)from rfl,show(13:Int)=((13:Nat):Int)from rfl,show(22:Int)=((22:Nat):Int)from rfl,rL la dD,rL la dD,rL la dD,xZ (jT _ la) (jT _ la),xZ (Fc (jT _ la) (jT _ la)) (jT _ la),QY la lb,QY la lc,QY lb lc,xZ (xG lb) (xG lc),xZ (Fc (xG lb) (xG lc)) (xG lc),jS]
structure EOk (v:Nat->Int)(a b c d e f g h:Nat):Prop where
 v0:v 0=(a:Nat)
 v1:v 1=(b:Nat)
 v2:v 2=(c:Nat)
 v3:v 3=(d:Nat)
 v4:v 4=(e:Nat)
 v5:v 5=(f:Nat)
 v6:v 6=(g:Nat)
 v7:v 7=(h:Nat)
 l0:a<4294967296
 l1:b<4294967296
 l2:c<4294967296
 l4:e<4294967296
 l5:f<4294967296
 l6:g<4294967296
 l3:d<4294967296
 l7:h<4294967296
theorem aew {v:Nat->Int}{a b c d e f g h:Nat}(E:EOk v a b c d e f g h)(k w:Nat):EOk (af8 v k w) (tu (t1N e f g h k w) (t2N a b c)) a b c (tu d (t1N e f g h k w)) e f g:=by have e1:=ak6 (k:=k) (w:=w) E.v4 E.v5 E.v6 E.v7 E.l4 E.l5 E.l6;have e2:=ak7 E.v0 E.v1 E.v2 E.l0 E.l1 E.l2;refine⟨?_,E.v0,E.v1,E.v2,?_,E.v4,E.v5,E.v6,qy _ _,E.l0,E.l1,qy _ _,E.l4,E.l5,E.l2,E.l6⟩;show oK (t1F v k w) (t2F v)=_;rw[e1,e2,jS];show oK (v 3) (t1F v k w)=_;rw[e1,E.v3,jS]
def kN:List Nat:=kL.map Int.toNat
theorem ak8:∀t,t<64->kF t=(kN.getD t 0:Nat):=dD
theorem Vj (h w:Nat->Int)(ws:List Nat)(hw:ws.length=64)(hws:∀i,i<64->w i=(ws.getD i 0:Nat)):∀n t a b c d e f g z,t+n=64->EOk (vS h w t) a b c d e f g z->∃a' b' c' d' e' f' g' z',runN (kN.drop t) (ws.drop t) a b c d e f g z=[a',b',c',d',e',f',g',z']/\EOk (vS h w 64) a' b' c' d' e' f' g' z'
 |0,t,a,b,c,d,e,f,g,z,ht,E=>by
  obtain rfl:t=64:=oO
  refine⟨a,b,c,d,e,f,g,z,?_,E⟩;rw[cV (by show kN.length<=64;decide)];rfl
 |n+1,t,a,b,c,d,e,f,g,z,ht,E=>by
  have hk:t<kN.length:=by show t<64;omega
  have hw':t<ws.length:=oO
  rw[bZ hk,bZ hw'];unfold runN;rw[Fb,Fb,Fb];refine Vj h w ws hw hws n (t+1) _ _ _ _ _ _ _ _ oO ?_;show EOk (af8 (vS h w t) (kF t) (w t)) _ _ _ _ _ _ _ _;rw[ak8 t oO,hws t oO,Vi hk,Vi hw'];exact aew E _ _
theorem abm (h v:Nat->Int):∀k i,hS h v k i=if i<k then oK (h i) (v i)else h i|0,i=>rfl|k+1,i=>by show pU (hS h v k) k (oK (hS h v k k) (v k)) i=_;by_cases e:i=k;subst e;rw[qg,abm h v i i,af (xu _),ag (Nat.lt_succ_self _)];rw[tc _ _ _ i e,abm h v k i];by_cases h1:i<k;rw[ag h1,ag oO];rw[af h1,af oO]
def Vk:List Nat->List Nat->List Nat|x::xs,y::ys=>fce (tu x y) λz=>z::Vk xs ys|_,_=>[]
def abn:List Nat->List Nat->List Nat|[a,b,c,d,e,f,g,h],m=>Vk [a,b,c,d,e,f,g,h] (runN kN (Xl 48 (Xk m 16)).reverse a b c d e f g h)|_,_=>[]
theorem abo {v:Nat->Int}{a b c d e f g h:Nat}(E:EOk v a b c d e f g h)(m:Bytes):∃a' b' c' d' e' f' g' h',abn [a,b,c,d,e,f,g,h] (m.map UInt8.toNat)=[a',b',c',d',e',f',g',h']/\EOk (Dk v m) a' b' c' d' e' f' g' h':=by
 have hW:=Vh m 48 16 _ dD (Vg m 16 dD);have hl:(Xl 48 (Xk (m.map UInt8.toNat) 16)).reverse.length=64:=by rw[List.length_reverse,hW.len]
 have hr:=Vj v (qG m 64) (Xl 48 (Xk (m.map UInt8.toNat) 16)).reverse hl (λi hi=>by rw[hW.at_ i hi];congr 1;rw[eV,eV,List.getElem?_reverse (by rw[hW.len];exact hi),hW.len]) 64 0 a b c d e f g h rfl E;obtain⟨a',b',c',d',e',f',g',h',h1,h2⟩:=hr;refine⟨tu a a',tu b b',tu c c',tu d d',tu e e',tu f f',tu g g',tu h h',?_,?_⟩;show Vk _ (runN kN _ a b c d e f g h)=_;rw[List.drop_zero,List.drop_zero]at h1;rw[h1];simp only[Vk,Fb];have at_:∀i,i<8->Dk v m i=oK (v i) (vS v (qG m 64) 64 i):=λi hi=>by show hS v _ 8 i=_;rw[abm,ag hi]
 exact⟨by rw[at_ 0 dD,E.v0,h2.v0,jS],by rw[at_ 1 dD,E.v1,h2.v1,jS],by rw[at_ 2 dD,E.v2,h2.v2,jS],by rw[at_ 3 dD,E.v3,h2.v3,jS],by rw[at_ 4 dD,E.v4,h2.v4,jS],by rw[at_ 5 dD,E.v5,h2.v5,jS],by rw[at_ 6 dD,E.v6,h2.v6,jS],by rw[at_ 7 dD,E.v7,h2.v7,jS],qy _ _,qy _ _,qy _ _,qy _ _,qy _ _,qy _ _,qy _ _,qy _ _⟩
def aex (m:List Nat):Nat->List Nat|0=>[1779033703,3144134277,1013904242,2773480762,1359893119,2600822924,528734635,1541459225]|i+1=>abn (aex m i) ((m.take (64*i+64)).drop (64*i))
theorem Vl (m:Bytes):∀n,∃a b c d e f g h,aex (m.map UInt8.toNat) n=[a,b,c,d,e,f,g,h]/\EOk (vE m n) a b c d e f g h|0=>⟨_,_,_,_,_,_,_,_,rfl,rfl,rfl,rfl,rfl,rfl,rfl,rfl,rfl,dD,dD,dD,dD,dD,dD,dD,dD⟩|n+1=>by obtain⟨a,b,c,d,e,f,g,h,h1,h2⟩:=Vl m n;obtain⟨a',b',c',d',e',f',g',h',h3,h4⟩:=abo h2 ((m.take (64*n+64)).drop (64*n));refine⟨a',b',c',d',e',f',g',h',?_,h4⟩;show abn (aex _ n) _=_;rw[h1,<-h3,qh,mz]
def aey (l:List Nat)(i:Nat):UInt8:=UInt8.ofNat (l.getD (i/4) 0/2^(24-8*(i%4))%256)
def aiN (s:Bytes):List UInt8:=(List.range 32).map (aey (aex ((tY s).map UInt8.toNat) ((tY s).length/64)))
theorem agP {v:Nat->Int}{a b c d e f g h:Nat}(E:EOk v a b c d e f g h)(i:Nat)(hi:i<32):Iv v i=aey [a,b,c,d,e,f,g,h] i:=by
 have hv:∀j,j<8->v j=(([a,b,c,d,e,f,g,h]:List Nat).getD j 0:Nat):=λj hj=>by
  match j,hj with
   |0,_=>exact E.v0
   |1,_=>exact E.v1
   |2,_=>exact E.v2
   |3,_=>exact E.v3
   |4,_=>exact E.v4
   |5,_=>exact E.v5
   |6,_=>exact E.v6
   |7,_=>exact E.v7
 unfold Iv aey;rw[hv (i/4) oO];have e:(24:Int)-8*((i%4:Nat):Int)=((24-8*(i%4):Nat):Int):=oO
 rw[e,GX oO];congr 1
theorem aiO (s:Bytes):(PT s).1=aiN s:=by obtain⟨a,b,c,d,e,f,g,h,h1,h2⟩:=Vl (tY s) ((tY s).length/64);show(List.range 32).map (Iv _)=(List.range 32).map (aey _);rw[h1];refine dZ λi hi=>agP h2 i (hU.1 hi)
end Qv
