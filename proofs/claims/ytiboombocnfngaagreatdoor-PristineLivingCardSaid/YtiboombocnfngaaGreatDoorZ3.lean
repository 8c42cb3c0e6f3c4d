/- Part 9 of the proof: its lemmas. No condition. -/
import Derived.Test.YtiboombocnfngaaGreatDoorY6
import Derived.Shelf.Strings.Builder1
import Derived.Laws.AppendOwn
set_option maxRecDepth 100000
set_option maxHeartbeats 80000000
set_option linter.all false
open Go Go.Proofs Go.RowKit
namespace Qv
theorem mS {S:ag}(n off:Nat)(rel:List (Nat×FV))(aD:List (Nat×List FV))(bD:List (Nat×Nat×List (Nat×FV)))(cm:List zq){K:ag->Prop}(hn:(n,off,cm)=(S.n,S.off,S.cm))(h1:yu S.tmps rel)(h2:Ag S.aD aD)(h3:MU S.bD bD)(h:K (MT n off rel aD bD cm [])):∃T,cq S T/\K T:=⟨_,bG (cz:=[]) hn h1 h2 h3 trivial,h⟩
def gI (own:List bO):List FV:=aI (kB own).flatten
theorem af2 (x:bO)(y:AV)(h:y∈cA x):y.one=true:=br.1 (show(cA x).all AV.one=true from rfl) y h
theorem Dh (own:List bO):∀ys,ys∈kB own->ys.length=172/\∀y,y∈ys->y.one=true:=by intro ys h;obtain⟨x,-,rfl⟩:=aB.1 h;exact⟨rfl,λy hy=>af2 x y hy⟩
theorem Nu (own:List bO):(gI own).length=own.length*172:=by unfold gI;rw[iQ,gG (e:=172) λzs h=>(Dh own zs h).1];simp[kB]
theorem Kh (own:List bO)(o:Nat):FV.dJ o (gI own)=gI own:=iZ o _
theorem sC {aD:List (Nat×List FV)}{o:Nat}{own:List bO}(k:Nat)(h:Qv.getObj aD o=some (FV.dJ k (gI own))):∃ys,Qv.getObj aD o=some ys/\ys.length=(gI own).length/\∀(i:Nat)(x y:FV),ys[i]?=some x->(gI own)[i]?=some y->bt x y:=by rw[Kh]at h;exact aA h
theorem adk {aD:List (Nat×List FV)}{o:Nat}{own:List bO}(k j:Nat)(h:Qv.getObj aD o=some (FV.dJ k (FV.dJ j (gI own)))):∃ys,Qv.getObj aD o=some ys/\ys.length=(gI own).length/\∀(i:Nat)(x y:FV),ys[i]?=some x->(gI own)[i]?=some y->bt x y:=by rw[Kh,Kh]at h;exact aA h
theorem Di (own:List bO)(o:Nat):(FV.dJ o (gI own)).length=own.length*172:=by rw[Kh];exact Nu own
theorem af3 (own:List bO)(x:bO)(o:Nat):FV.dJ o (gI own++aI [cA x].flatten)=gI (own++[x]):=by
 have :gI own++aI [cA x].flatten=gI (own++[x]):=by unfold gI kB;rw[aF,sD,er,er,er,aF];rfl
 rw[this];exact iZ o _
theorem GJ (own:List bO)(x:bO)(o o2:Nat):FV.dJ o (FV.dJ o2 (gI own)++aI [cA x].flatten)=gI (own++[x]):=by rw[Kh];exact af3 own x o
theorem Dj (a b:List bO):gI (a++b)=gI a++gI b:=by unfold gI kB;rw[aF,sD,er,er,er,aF]
theorem Qc (a:bO):gI [a]=aI (cA a):=by unfold gI kB;simp
end Qv
namespace Qv
open Go Go.Proofs Go.Shelf Go.RowKit
variable {P:Program}{ρ:Ren}
theorem row_of_bld {C:Ctx}{w:World}{b:Nat}{row:Option Nat}{bs:List UInt8}(h:xG C w b row bs):∃(p:Option Addr) (v:Value),(p=none\/p=some ⟨b,0,none⟩)/\w.heap[b]?=some (.cells #[.pointer p,v] C.bT (0,0))/\w.ownsRow 0 C.bE 1 v (Lib.byteCells bs).length (Lib.byteCells bs)/\v.ownBlock=row/\row≠some b:=by
 obtain⟨p,v,h1,h2,h3⟩:=h;refine⟨p,v,h1,h2,?_⟩;cases row with
 |none=>obtain⟨rfl,rfl⟩:=h3;exact⟨⟨by rfl,.inl ⟨rfl,by rfl⟩⟩,rfl,by simp⟩
 |some r=>obtain⟨hne,cap,cur,rfl,h4,h5,h6,h7,h8⟩:=h3;have hl:(Lib.byteCells bs).length=bs.length:=Lib.byteCells_length bs;refine⟨⟨by simp,.inr ⟨r,cap,cur,by rw[hl],zL,h4,oO,h6,oO,?_⟩⟩,rfl,λe=>hne (ak e).symm⟩;rw[hl,rY,h8];rfl
theorem IG {e:TypeId}{i0:TypeInfo}(hi:P.info? e=some i0)(hz:i0.zero=some (.int .u8 0))(hs:i0.size=1)(hb:i0.bytes=1)(hu:P.underlying e=some (.int .u8)):fO P e ⟨1,1,.int .u8,[.int .u8 0]⟩:=⟨by rw[hi];simp[hz,hs,hb,Value.cells],by rw[hu];rfl,rfl⟩
theorem Nv {w:World}{t u e ty:TypeId}{i:jE}(ht:P.underlying t=some (.slice e))(hu:P.underlying u=some .string)(hi:fO P e i)(hs1:i.size=1)(Qf:i.bytes=1){v:Value}{n:Nat}{xs:List Value}(hown:w.ownsRow 0 e 1 v n xs){s:ByteArray}(hlen:n+s.size<=140737488355328){v':Value}{w':World}(hr:(Builtin.append_ #[t,u] ty #[v,.string s]).run P w=.ok v' w'):v'.ownBlock=v.ownBlock\/∃x,v'.ownBlock=some x/\w.heap.size<=x:=by
 obtain⟨l,rfl⟩:∃l:List UInt8,s=⟨l.toArray⟩:=⟨s.data.toList,by simp⟩;have hsz:(⟨l.toArray⟩:ByteArray).size=l.length:=by simp[ByteArray.size]
 rw[hsz]at hlen;obtain⟨news,VX,hn2,hn3⟩:=Fk (P:=P) (w:=w) (bh:=λ_ _=>True) (s:=l) (e:=1) (Zt _);have hll:(l.map λ(b:UInt8)=>[AV.int .u8 (b.toNat:Int)]).length=l.length:=by simp
 rw[hll]at hn2 hn3;have hnl:news.length=l.length:=by have :=VX.len;rw[hll]at this;omega
 have hd:∀k,TypeDesc.string≠.int k:=by simp
 have inj:∀{v2:Value}{w2:World},(Builtin.append_ #[t,u] ty #[v,.string ⟨l.toArray⟩]).run P w=.ok v2 w2->v'=v2:=by grind
 rcases hown.2 with⟨rfl,rfl⟩|⟨g,cap,cur,rfl,-,hg,hnc,hcm,hcs,-⟩;by_cases h0:l.length=0;have WQ:news=[]:=by grind
 rw[h0]at hn2 hn3;left;rw[inj (mw (n:=0) (c:=0) (base:=none) ht hu hd hi hn2 (by grind) (av _))];obtain⟨rest,z,-,-,hrun⟩:=iM (P:=P) (w:=w) (ty:=ty) (n:=0) (c:=0) (m:=l.length) (base:=none) (olds:=[]) (news:=news) ht hu hd hi hn2 (λw' _=>by grind) (λw' _=>by rfl) oO (by grind) oO;right;rw[inj hrun];exact⟨_,rfl,av _⟩;by_cases h0:l.length=0;have WQ:news=[]:=by grind
 rw[h0]at hn2 hn3;left;rw[inj (mw ht hu hd hi hn2 (by grind) hnc)];have hcell:∀q,q<cap->w.cell? ⟨g,q,none⟩=cur[q]?:=λq _=>by rw[Lib.cell_of_heap hg]
 by_cases hroom:n+l.length<=cap;left;rw[inj (nj (n:=n) (c:=cap) (m:=l.length) (b:=g) (off:=0) (news:=news) ht hu hd hi hn2 (by grind) hroom (λj hj=>by grind) (λj hj=>Lib.frozen_of_heap hg _) VX.one)];rfl;right;obtain⟨rest,z,-,-,hrun⟩:=iM (P:=P) (w:=w) (ty:=ty) (n:=n) (c:=cap) (m:=l.length) (base:=some ⟨g,0,none⟩) (olds:=cur.toList.take n) (news:=news) ht hu hd hi hn2 (λw' _=>by grind) (λw' hw=>by rw[hs1];have :=run_loadCells (P:=P) w' ⟨g,0,none⟩ (n*1) (λq=>(cur[q]?).getD undef) (λq MF=>by rw[Addr.add_lit,hw,hcell _ oO];grind);simp only[Builtin.firstCells,this];congr 1;grind) oO (by grind) oO;rw[inj hrun];exact⟨_,rfl,av _⟩
theorem Dm {w:World}{ops:Array Oper}{rest:List Oper}{o:Oper}{a:Act}{Q:Exit->Act->World->Prop}(hgd:o.guard=none)(sl x:Operand)(t u:TypeId)(ho:o.op=.call {callee:=.builtin .append,args:=#[sl,x],argTypes:=#[t,u]})(e:TypeId)(i:TypeInfo)(ht:P.underlying t=some (.slice e))(hu:P.underlying u=some .string)(he:P.underlying e=some (.int .u8))(hi:P.info? e=some i)(hz:i.zero=some (.int .u8 0))(hsize:i.size=1)(hby:i.bytes=1)(v:Value)(n:Nat)(xs:List Value)(hs:a.eval sl=v)(hown:w.ownsRow 0 e 1 v n xs)(s:ByteArray)(hx:a.eval x=.string s)(hbytes:n+s.size<=140737488355328)(h:∀v' w',w'.ownsRow 0 e 1 v' (n+s.size) (xs++Lib.strCells s)->w.grownBy w' v.ownBlock->(v'.ownBlock=v.ownBlock\/∃y,v'.ownBlock=some y/\w.heap.size<=y)->wpList P ops Q rest (a.put o.dst v') w'):wpList P ops Q (o::rest) a w:=by refine wpList_plain hgd λK hK=>?_;obtain⟨v',w',hr,h2,h3,h4⟩:=Lib.run_append_own_string (P:=P) w 0 t u o.type e i ht hu hi hz hsize hby v n xs hown s (by unfold maxLen;omega) hbytes (zL);have h5:=Nv ht hu (IG hi hz hsize hby he) rfl rfl hown hbytes hr;unfold Oper.wp execOp;simp only[ho,resolve,invoke,builtin,Sem.run_bind,Sem.run_pure,Result.andThen_ok,Ci,bw,fV,hs,hx,hr];exact hK _ _ (h v' w' h2 h3 h5)
structure yS (b:Nat)(row:Option Nat)(w w':World):Prop where
 os:w'.os=w.os
 tape:w'.tape=w.tape
 output:w'.output=w.output
 size:w.heap.size<=w'.heap.size
 block:∀k,k<w.heap.size->k≠b->row≠some k->w'.heap[k]?=w.heap[k]?
theorem yS.refl (b:Nat)(row:Option Nat)(w:World):yS b row w w:=⟨rfl,rfl,rfl,av _,λ_ _ _ _=>rfl⟩
theorem yS.trans {b:Nat}{row:Option Nat}{A B D:World}(h:yS b row A B)(k:yS b row B D):yS b row A D:=⟨k.os.trans h.os,k.tape.trans h.tape,k.output.trans h.output,bL h.size k.size,λi hi h1 h2=>(k.block i (en hi h.size) h1 h2).trans (h.block i hi h1 h2)⟩
theorem yS.setCell {b:Nat}{row:Option Nat}{A B:World}(h:yS b row A B)(i:Nat)(v:Value):yS b row A (B.setCell ⟨b,i,none⟩ v):=h.trans ⟨rfl,rfl,rfl,by simp,λk _ h1 _=>Below.heap_setCell _ _ _ _ h1⟩
theorem yS.drew {b:Nat}{row:Option Nat}{A B:World}(h:yS b row A B):yS b row A B.drew:=⟨h.os,h.tape,h.output,h.size,h.block⟩
theorem yS.below {b:Nat}{row:Option Nat}{A B:World}(h:Below A.heap.size A B):yS b row A B:=⟨h.os,h.tape,h.output,h.size,λk hk _ _=>h.block k hk⟩
theorem AI (L:Lays.n240 P ρ)(X:Builder.X72 P ρ){b:Nat}{p:Option Addr}{v:Value}{w:World}(hp:p=none\/p=some ⟨b,0,none⟩)(h:w.heap[b]?=some (.cells #[.pointer p,v] (ρ.t 72) (0,0)))(row:Option Nat):Calls P (ρ.f 240) #[.pointer (some ⟨b,0,none⟩)] w λe w'=>e=.returned (.tuple #[])/\w'.heap[b]?=some (.cells #[.pointer (some ⟨b,0,none⟩),v] (ρ.t 72) (0,0))/\yS b none w w':=by rcases hp with rfl|rfl;refine(Any.Builder_copyCheck_fresh L X b w (by rw[Lib.cell_of_heap h];rfl) (by simp[World.shape?,h]) (Lib.frozen_of_heap h 0)).mono ?_;rintro e w' ⟨rfl,rfl⟩;refine⟨rfl,?_,(yS.refl _ _ w).setCell 0 _⟩;simp[World.setCell,jk,h];refine(Any.Builder_copyCheck_used L X b w (by rw[Lib.cell_of_heap h];rfl)).mono ?_;rintro e w' ⟨rfl,rfl⟩;exact⟨rfl,h,yS.refl _ _ _⟩
theorem WR (L:Lays.n166 P ρ)(X:Builder.Extra P ρ){b:Nat}{p:Option Addr}{v:Value}{bs:List Value}{s:ByteArray}{w:World}(hp:p=none\/p=some ⟨b,0,none⟩)(h:w.heap[b]?=some (.cells #[.pointer p,v] (ρ.t 72) (0,0)))(Qg:w.ownsRow 0 (ρ.t 5) 1 v bs.length bs)(hne:v.ownBlock≠some b)(hlen:bs.length+s.size<=140737488355328):Calls P (ρ.f 166) #[.pointer (some ⟨b,0,none⟩),.string s] w λe w'=>e=.returned (.tuple #[.int .i64 s.size,.nilIface])/\∃v',w'.heap[b]?=some (.cells #[.pointer (some ⟨b,0,none⟩),v'] (ρ.t 72) (0,0))/\w'.ownsRow 0 (ρ.t 5) 1 v' (bs.length+s.size) (bs++Lib.strCells s)/\v'.ownBlock≠some b/\(v'.ownBlock=v.ownBlock\/∃x,v'.ownBlock=some x/\w.heap.size<=x)/\yS b v.ownBlock w w':=by
 obtain⟨i0,hi,hz0,hz1,hz2⟩:=info_parts X.infoByte;have mixed:=L.mixed;have t72:=L.t72;have a72:=L.a72;have z72:=L.z72;have v72:=L.v72;have u72:=run_underlying L.t72;have t70:=L.t70;have a70:=L.a70;have z70:=L.z70;have v70:=L.v70;have u70:=run_underlying L.t70;have t37:=L.t37;have a37:=L.a37;have z37:=L.z37;have v37:=L.v37;have u37:=run_underlying L.t37;have t3:=L.t3;have a3:=L.a3;have z3:=L.z3;have v3:=L.v3;have u3:=run_underlying L.t3;have t9:=L.t9;have a9:=L.a9;have z9:=L.z9;have v9:=L.v9;have u9:=run_underlying L.t9;have t4:=L.t4;have a4:=L.a4;have z4:=L.z4;have v4:=L.v4;have u4:=run_underlying L.t4;have t164:=L.t164;have a164:=L.a164;have z164:=L.z164;have v164:=L.v164;have u164:=run_underlying L.t164;have t5:=X.t5;have a5:=X.a5;have z5:=X.z5;have v5:=X.v5;have u5:=run_underlying X.t5;have akP:∀args w,(callFunc (ρ.f 240) args).run P w=.ok (.enter (ρ.f 240) args) w:=enters_of L.f240 kK rfl;go_enter L.f166,Body.n166_ntmps ρ;go_wp2_with (go_at_fn (ρ.f 240);refine(AI {L with} X.toX72 hp h none).mono ?_);rintro e w1 ⟨rfl,hbk,Qf⟩;have hown:w1.ownsRow 0 (ρ.t 5) 1 v bs.length bs:=by refine⟨Qg.1,Qg.2.imp id ?_⟩;rintro⟨g,cap,cur,rfl,q1,q2,q3⟩;refine⟨g,cap,cur,rfl,q1,?_,q3⟩;rw[Qf.block g (bq.1 q2).1 (λe=>hne (by rw[e];rfl)) (by simp)];exact q2
 have c0:w1.cell? ⟨b,0,none⟩=some (.pointer (some ⟨b,0,none⟩)):=by rw[Lib.cell_of_heap hbk];rfl
 have c1:w1.cell? ⟨b,1,none⟩=some v:=by rw[Lib.cell_of_heap hbk];rfl
 go_wp2_with (at_builtin;refine Dm rfl _ _ (ρ.t 37) (ρ.t 9) rfl (ρ.t 5) i0 L.t37 L.t9 X.t5 hi hz0 hz1 hz2 _ _ _ rfl hown s rfl ?c4 ?_);case c4=>omega
 intro v' w2 hown' hgrow II;have hlt:b<w1.heap.size:=(bq.1 hbk).1;have AZ:w2.heap[b]?=some (.cells #[.pointer (some ⟨b,0,none⟩),v] (ρ.t 72) (0,0)):=by rw[hgrow.block b hlt (λe=>hne e.symm)];exact hbk
 have d0:w2.cell? ⟨b,0,none⟩=some (.pointer (some ⟨b,0,none⟩)):=by rw[Lib.cell_of_heap AZ];rfl
 have d1:w2.cell? ⟨b,1,none⟩=some v:=by rw[Lib.cell_of_heap AZ];rfl
 have f1:w2.frozen? ⟨b,1,none⟩=false:=Lib.frozen_of_heap AZ 1;obtain⟨ao,n',cap,rfl⟩:∃ao n' cap,v'=.slice ao n' cap:=by rcases hown'.2 with⟨hv,_⟩|⟨g,cap,cur,hv,_⟩;exact⟨_,_,_,hv⟩;exact⟨_,_,_,hv⟩
 go_wp2;go_ret2;have aav:(Value.slice ao n' cap).ownBlock≠some b:=by rcases II with e|⟨y,e,hy⟩;grind;grind
 have agc:yS b v.ownBlock w (w2.setCell ⟨b,1,none⟩ (.slice ao n' cap)):=yS.setCell (yS.trans ⟨Qf.os,Qf.tape,Qf.output,Qf.size,λk hk h1 _=>Qf.block k hk h1 (by simp)⟩ ⟨hgrow.os,hgrow.tape,hgrow.output,hgrow.size,λk hk _ h2=>hgrow.block k hk (λe=>h2 e.symm)⟩) 1 _;refine⟨rfl,.slice ao n' cap,?_,?_,aav,?_,agc⟩;simp[World.setCell,jk,AZ];refine⟨hown'.1,hown'.2.imp id ?_⟩;rintro⟨g,cap',cur,e1,q1,q2,q3⟩;refine⟨g,cap',cur,e1,q1,?_,q3⟩;rw[Below.heap_setCell _ _ _ _ (λe=>aav (by rw[e1];show some g=some b;exact aV some e))];exact q2;rcases II with e|⟨y,e,hy⟩;grind;exact .inr ⟨y,e,bL Qf.size hy⟩
theorem yS.freeze {b g:Nat}{A B:World}(h:yS b (some g) A B)(n:Nat):yS b (some g) A (B.freeze ⟨g,0,none⟩ n):=by refine h.trans ?_;unfold World.freeze;split;exact yS.refl _ _ _;refine⟨rfl,rfl,rfl,by simp,λk _ _ h2=>?_⟩;grind
theorem Qh (L:Lays.n169 P ρ)(X:Builder.Extra P ρ){b g cap:Nat}{p:Value}{cur:Array Value}{l:List UInt8}{w:World}(h0:l≠[])(hbk:w.heap[b]?=some (.cells #[p,.slice (some ⟨g,0,none⟩) l.length cap] (ρ.t 72) (0,0)))(hown:w.ownsRow 0 (ρ.t 5) 1 (.slice (some ⟨g,0,none⟩) l.length cap) l.length (Lib.byteCells l))(hg:w.heap[g]?=some (.cells cur (ρ.t 5) (0,0)))(hnc:l.length<=cap)(hcm:cap<=maxLen)(hcs:cur.size=cap*1):Calls P (ρ.f 169) #[.pointer (some ⟨b,0,none⟩)] w λe w'=>e=.returned (.string ⟨l.toArray⟩)/\yS b (some g) w w'/\(b≠g->w'.heap[b]?=w.heap[b]?):=by
 have hl0:l.length≠0:=by simpa using h0
 have c1:w.drew.cell? ⟨b,1,none⟩=some (.slice (some ⟨g,0,none⟩) l.length cap):=by have :w.drew.heap[b]?=some (.cells #[p,.slice (some ⟨g,0,none⟩) l.length cap] (ρ.t 72) (0,0)):=hbk;rw[Lib.cell_of_heap this];rfl
 have hSD:(Builtin.unsafeSliceData_ #[(ρ.t 37)] (ρ.t 127) #[.slice (some ⟨g,0,none⟩) l.length cap]).run P w.drew=.ok (.pointer (some ⟨g,0,none⟩)) w.drew:=Lib.run_unsafeSliceData_row _ _ _ _ _ _ oO;have hUS:(Builtin.unsafeString_ #[(ρ.t 127),(ρ.t 3)] (ρ.t 9) #[.pointer (some ⟨g,0,none⟩),.int .i64 l.length]).run P w.drew=.ok (.string ⟨l.toArray⟩) (w.drew.freeze ⟨g,0,none⟩ l.length):=by refine Lib.run_unsafeString_row w.drew (ρ.t 127) (ρ.t 3) (ρ.t 9) (ρ.t 5) L.t127 X.cellsByte g cur.size (by have hg':w.drew.heap[g]?=some (.cells cur (ρ.t 5) (0,0)):=hg;simp[World.shape?,hg']) l h0 oO (by unfold maxLen at hcm;omega) ?_;intro j x hx;have :=hown.cells (g:=g) rfl j (.int .u8 x.toNat) (by simp[Lib.byteCells,hx]);exact this
 have mixed:=L.mixed;have t72:=L.t72;have a72:=L.a72;have z72:=L.z72;have v72:=L.v72;have u72:=run_underlying L.t72;have t70:=L.t70;have a70:=L.a70;have z70:=L.z70;have v70:=L.v70;have u70:=run_underlying L.t70;have t37:=L.t37;have a37:=L.a37;have z37:=L.z37;have v37:=L.v37;have u37:=run_underlying L.t37;have t127:=L.t127;have a127:=L.a127;have z127:=L.z127;have v127:=L.v127;have u127:=run_underlying L.t127;have t3:=L.t3;have a3:=L.a3;have z3:=L.z3;have v3:=L.v3;have u3:=run_underlying L.t3;have t9:=L.t9;have a9:=L.a9;have z9:=L.z9;have v9:=L.v9;have u9:=run_underlying L.t9;have t5:=X.t5;have a5:=X.a5;have z5:=X.z5;have v5:=X.v5;have u5:=run_underlying X.t5;have fin:yS b (some g) w (w.drew.freeze ⟨g,0,none⟩ l.length)/\(b≠g->(w.drew.freeze ⟨g,0,none⟩ l.length).heap[b]?=w.heap[b]?):=by refine⟨((yS.refl b (some g) w).drew).freeze _,λhne=>?_⟩;unfold World.freeze;rw[aa hl0];simp only[jk];rw[aa (λe=>hne e.symm)];rfl
 go_enter L.f169,Body.n169_ntmps ρ;go_wp2;go_region_o;all_goals (go_wp2;go_ret;exact⟨rfl,fin⟩)
theorem SQ (L:Lays.n169 P ρ)(X:Builder.Extra P ρ){b:Nat}{p v:Value}{l:List UInt8}{w:World}(hbk:w.heap[b]?=some (.cells #[p,v] (ρ.t 72) (0,0)))(hown:w.ownsRow 0 (ρ.t 5) 1 v l.length (Lib.byteCells l))(hne:v.ownBlock≠some b):Calls P (ρ.f 169) #[.pointer (some ⟨b,0,none⟩)] w λe w'=>e=.returned (.string ⟨l.toArray⟩)/\yS b v.ownBlock w w'/\w'.heap[b]?=some (.cells #[p,v] (ρ.t 72) (0,0)):=by
 have hlt:=(bq.1 hbk).1;have ofB:∀{row:Option Nat}{w':World},Below w.heap.size w w'->yS b row w w'/\w'.heap[b]?=some (.cells #[p,v] (ρ.t 72) (0,0)):=λh=>⟨yS.below h,(h.block b hlt).trans hbk⟩;cases l with
 |nil=>rcases hown.2 with⟨rfl,_⟩|⟨g,cap,cur,rfl,hbg,hg,_,_,_,_⟩;exact(Any.Builder_String_nil L X w.heap.size b p w hbk).mono λe w' ⟨h1,h2⟩=>⟨h1,ofB h2⟩;by_cases hc0:cap=0;subst hc0;exact(Any.Builder_String_noroom L X w.heap.size b g p cur w (av _) hbk hg).mono λe w' ⟨h1,h2⟩=>⟨h1,ofB h2⟩;exact(Any.Builder_String_room L X w.heap.size b g cap p w hc0 hbk).mono λe w' ⟨h1,h2⟩=>⟨h1,ofB h2⟩
 |cons x r=>rcases hown.2 with⟨_,hz⟩|⟨g,cap,cur,rfl,hbg,hg,hnc,hcm,hcs,alZ⟩;simp at hz;refine(Qh L X (by simp) hbk hown hg hnc hcm hcs).mono λe w' ⟨h1,h2,h3⟩=>⟨h1,h2,?_⟩;exact(h3 (λe=>hne (by rw[e];rfl))).trans hbk
theorem Qi {C:Ctx}{w:World}{b:Nat}{v:Value}{l:List UInt8}(h:w.heap[b]?=some (.cells #[.pointer (some ⟨b,0,none⟩),v] C.bT (0,0)))(hown:w.ownsRow 0 C.bE 1 v l.length (Lib.byteCells l))(hne:v.ownBlock≠some b):xG C w b v.ownBlock l:=by refine⟨_,v,.inr rfl,h,?_⟩;rcases hown.2 with⟨rfl,h0⟩|⟨g,cap,cur,rfl,-,h1,h2,h3,h4,h5⟩;exact⟨rfl,cO.1 h0⟩;refine⟨λe=>hne (by rw[e];rfl),cap,cur,rfl,h1,h2,h3,oO,?_⟩;rw[rY]at h5;exact h5
theorem Qj (L:Lays.n166 P ρ)(X:Builder.Extra P ρ){C:Ctx}(hP:C.P=P)(hT:C.bT=ρ.t 72)(hE:C.bE=ρ.t 5){fn:Func}(hf:P.funcs[ρ.f 166]?=some fn)(hb:fn.body.isNone=false)(hname:(fn.name== "runtime.NumGoroutine")=false){bs s:List UInt8}(hlen:bs.length+s.length<=140737488355328):uE C (ρ.f 166) [.str s] bs (some (bs++s)) (.eS [.int .i64 s.length,.sX]):=by
 subst hP;refine⟨⟨fn,hf,hb,hname⟩,λbh w b row vs hJ _ _ _ _ _ _ rL hl hr=>?_⟩;match vs,hl with
  |[v0],_=>
   have h0:=hr 0 v0 _ rfl rfl;obtain rfl:v0=.string ⟨s.toArray⟩:=by cases h0;rfl
   obtain⟨p,v,hp,hbk,hown,hrow,hne⟩:=row_of_bld rL;rw[hT]at hbk;rw[hE]at hown;have hsz:(⟨s.toArray⟩:ByteArray).size=s.length:=by simp[ByteArray.size]
   have hbl:(Lib.byteCells bs).length=bs.length:=Lib.byteCells_length bs;refine(WR L X hp hbk hown (by grind) oO).mono ?_;rintro e w' ⟨rfl,v',h1,h2,h3,h4,h5⟩;rw[hsz]at*;refine⟨_,rfl,?_,⟨v'.ownBlock,Qi (by grind) ?_ h3,by grind⟩,h5.os,h5.tape,h5.output,h5.size,λk hk k1 k2=>h5.block k hk k1 (by grind)⟩;have :=dh.eS (bh:=λ_ _=>False) (w:=w') [.int .i64 s.length,.nilIface] [.int .i64 s.length,.sX] rfl (λi c x hc hx=>by
    match i with
     |0=>simp at hc hx;subst hc;subst hx;exact .int _ _
     |1=>simp at hc hx;subst hc;subst hx;exact .sX
     |n+2=>simp at hc);exact this;rw[hE];have e1:Lib.byteCells bs++Lib.strCells ⟨s.toArray⟩=Lib.byteCells (bs++s):=by simp[Lib.byteCells,Lib.strCells]
   grind
theorem Nw (L:Lays.n169 P ρ)(X:Builder.Extra P ρ){C:Ctx}(hP:C.P=P)(hT:C.bT=ρ.t 72)(hE:C.bE=ρ.t 5){fn:Func}(hf:P.funcs[ρ.f 169]?=some fn)(hb:fn.body.isNone=false)(hname:(fn.name== "runtime.NumGoroutine")=false){bs:List UInt8}:uE C (ρ.f 169) [] bs none (.str bs):=by subst hP;refine⟨⟨fn,hf,hb,hname⟩,λbh w b row vs hJ _ _ _ _ _ _ rL hl hr=>?_⟩;obtain rfl:vs=[]:=cO.1 hl;obtain⟨p,v,hp,hbk,hown,hrow,hne⟩:=row_of_bld rL;rw[hT]at hbk;rw[hE,Lib.byteCells_length]at hown;refine(SQ L X hbk hown (by grind)).mono ?_;rintro e w' ⟨rfl,h5,h1⟩;exact⟨_,rfl,.str bs,⟨_,_,by rw[hT];exact h1⟩,h5.os,h5.tape,h5.output,h5.size,λk hk k1 k2=>h5.block k hk k1 (by grind)⟩
end Qv
namespace Qv
open Go Go.Proofs Go.Shelf Go.RowKit
variable {P:Program}{ρ:Ren}
theorem Kk {w:World}{t u e ty:TypeId}{i:jE}(ht:P.underlying t=some (.slice e)){d:TypeDesc}(hu:P.underlying u=some d)(hd:∀k,d≠.int k)(hi:fO P e i)(hs1:i.size=1)(Qf:i.bytes=1){v:Value}{n:Nat}{xs:List Value}(hown:w.ownsRow 0 e 1 v n xs){yv:Value}{m:Nat}{news:List Value}(hn2:(Builtin.lenOf yv).run P w=.ok m w)(hn3:∀w',(∀b o,w'.cell? ⟨b,o,none⟩=w.cell? ⟨b,o,none⟩)->(Builtin.firstCells 1 m yv).run P w'=.ok news.toArray w')(hnl:news.length=m)(hone:∀u,u∈news->u.oneCell'=true)(hlen:n+m<=140737488355328){v':Value}{w':World}(hr:(Builtin.append_ #[t,u] ty #[v,yv]).run P w=.ok v' w'):v'.ownBlock=v.ownBlock\/∃x,v'.ownBlock=some x/\w.heap.size<=x:=by
 have inj:∀{v2:Value}{w2:World},(Builtin.append_ #[t,u] ty #[v,yv]).run P w=.ok v2 w2->v'=v2:=by grind
 rcases hown.2 with⟨rfl,rfl⟩|⟨g,cap,cur,rfl,-,hg,hnc,hcm,hcs,-⟩;by_cases h0:m=0;have WQ:news=[]:=by grind
 rw[h0]at hn2 hn3;left;rw[inj (mw (n:=0) (c:=0) (base:=none) ht hu hd hi hn2 (by grind) (av _))];obtain⟨rest,z,-,-,hrun⟩:=iM (P:=P) (w:=w) (ty:=ty) (n:=0) (c:=0) (m:=m) (base:=none) (olds:=[]) (news:=news) ht hu hd hi hn2 (λw' hw=>by grind) (λw' _=>by rfl) oO (by grind) oO;right;rw[inj hrun];exact⟨_,rfl,av _⟩;by_cases h0:m=0;have WQ:news=[]:=by grind
 rw[h0]at hn2 hn3;left;rw[inj (mw ht hu hd hi hn2 (by grind) hnc)];have hcell:∀q,q<cap->w.cell? ⟨g,q,none⟩=cur[q]?:=λq _=>by rw[Lib.cell_of_heap hg]
 by_cases hroom:n+m<=cap;left;rw[inj (nj (n:=n) (c:=cap) (m:=m) (b:=g) (off:=0) (news:=news) ht hu hd hi hn2 (by grind) hroom (λj hj=>by grind) (λj hj=>Lib.frozen_of_heap hg _) hone)];rfl;right;obtain⟨rest,z,-,-,hrun⟩:=iM (P:=P) (w:=w) (ty:=ty) (n:=n) (c:=cap) (m:=m) (base:=some ⟨g,0,none⟩) (olds:=cur.toList.take n) (news:=news) ht hu hd hi hn2 (λw' hw=>by grind) (λw' hw=>by rw[hs1];have :=run_loadCells (P:=P) w' ⟨g,0,none⟩ (n*1) (λq=>(cur[q]?).getD undef) (λq MF=>by rw[Addr.add_lit,hw,hcell _ oO];grind);simp only[Builtin.firstCells,this];congr 1;grind) oO (by grind) oO;rw[inj hrun];exact⟨_,rfl,av _⟩
theorem Bq {w:World}{ops:Array Oper}{rest:List Oper}{o:Oper}{a:Act}{Q:Exit->Act->World->Prop}(hgd:o.guard=none)(sl x:Operand)(t:TypeId)(ho:o.op=.call {callee:=.builtin .append,args:=#[sl,x],argTypes:=#[t,t]})(e:TypeId)(i:TypeInfo)(ht:P.underlying t=some (.slice e))(he:P.underlying e=some (.int .u8))(hi:P.info? e=some i)(hz:i.zero=some (.int .u8 0))(hsize:i.size=1)(hby:i.bytes=1)(v:Value)(n:Nat)(xs:List Value)(hs:a.eval sl=v)(hown:w.ownsRow 0 e 1 v n xs)(c:Int)(N:Nat)(hx:a.eval x=.slice (some ⟨N,0,none⟩) 1 1)(hN:w.cell? ⟨N,0,none⟩=some (.int .u8 c))(hbytes:n+1<=140737488355328)(h:∀v' w',w'.ownsRow 0 e 1 v' (n+1) (xs++[.int .u8 c])->w.grownBy w' v.ownBlock->(v'.ownBlock=v.ownBlock\/∃y,v'.ownBlock=some y/\w.heap.size<=y)->wpList P ops Q rest (a.put o.dst v') w'):wpList P ops Q (o::rest) a w:=by
 refine wpList_plain hgd λK hK=>?_;have hcell:∀(j:Nat)(u:Value),[Value.int .u8 c][j]?=some u->w.cell? ((⟨N,0,none⟩:Addr).add j)=some u:=λj u hj=>by match j,hj with|0,hj=>simp at hj;subst hj;simpa[Addr.add]using hN
 obtain⟨v',w',hr,h2,h3,-⟩:=run_append_own (P:=P) w 0 t o.type e i (.int .u8 0) 1 1 ht hi hz hsize hby rfl dD v n xs hown ⟨N,0,none⟩ 1 1 [.int .u8 c] rfl hcell (λu hu=>by simp at hu;subst hu;rfl) (by unfold maxLen;omega) oO (oP _);have h5:=Kk ht ht (λk h=>by cases h) (IG hi hz hsize hby he) rfl rfl hown (m:=1) (news:=[.int .u8 c]) (yv:=.slice (some ⟨N,0,none⟩) 1 1) (by rfl) (λw' hw=>by
  have :=run_loadCells (P:=P) w' ⟨N,0,none⟩ 1 (λ_=>.int .u8 c) (λq hq=>by
   obtain rfl:q=0:=oO
   rw[Addr.add_lit,hw];exact hN);simpa[Builtin.firstCells]using this) rfl (λu hu=>by simp at hu;subst hu;rfl) hbytes hr;unfold Oper.wp execOp;simp only[ho,resolve,invoke,builtin,Sem.run_bind,Sem.run_pure,Result.andThen_ok,Ci,bw,fV,hs,hx,hr];exact hK _ _ (h v' w' h2 h3 h5)
theorem Kl (L:Lays.n167 P ρ)(X:Builder.Extra P ρ){b:Nat}{p:Option Addr}{v:Value}{bs:List Value}{c:Int}{w:World}(hp:p=none\/p=some ⟨b,0,none⟩)(h:w.heap[b]?=some (.cells #[.pointer p,v] (ρ.t 72) (0,0)))(Qg:w.ownsRow 0 (ρ.t 5) 1 v bs.length bs)(hne:v.ownBlock≠some b)(hlen:bs.length+1<=140737488355328):Calls P (ρ.f 167) #[.pointer (some ⟨b,0,none⟩),.int .u8 c] w λe w'=>e=.returned .nilIface/\∃v',w'.heap[b]?=some (.cells #[.pointer (some ⟨b,0,none⟩),v'] (ρ.t 72) (0,0))/\w'.ownsRow 0 (ρ.t 5) 1 v' (bs.length+1) (bs++[.int .u8 c])/\v'.ownBlock≠some b/\(v'.ownBlock=v.ownBlock\/∃x,v'.ownBlock=some x/\w.heap.size<=x)/\yS b v.ownBlock w w':=by
 obtain⟨i0,hi,hz0,hz1,hz2⟩:=info_parts X.infoByte;have mixed:=L.mixed;have t72:=L.t72;have a72:=L.a72;have z72:=L.z72;have v72:=L.v72;have u72:=run_underlying L.t72;have t70:=L.t70;have a70:=L.a70;have z70:=L.z70;have v70:=L.v70;have u70:=run_underlying L.t70;have t37:=L.t37;have a37:=L.a37;have z37:=L.z37;have v37:=L.v37;have u37:=run_underlying L.t37;have t9:=L.t9;have a9:=L.a9;have z9:=L.z9;have v9:=L.v9;have u9:=run_underlying L.t9;have t4:=L.t4;have a4:=L.a4;have z4:=L.z4;have v4:=L.v4;have u4:=run_underlying L.t4;have t164:=L.t164;have a164:=L.a164;have z164:=L.z164;have v164:=L.v164;have u164:=run_underlying L.t164;have t5:=L.t5;have a5:=L.a5;have z5:=L.z5;have v5:=L.v5;have u5:=run_underlying L.t5;have akP:∀args w,(callFunc (ρ.f 240) args).run P w=.ok (.enter (ρ.f 240) args) w:=enters_of L.f240 (by rfl) rfl;go_enter L.f167,Body.n167_ntmps ρ;go_wp2_with (go_at_fn (ρ.f 240);refine(AI {L with} X.toX72 hp h none).mono ?_);rintro e w1 ⟨rfl,hbk,Qf⟩;have hown:w1.ownsRow 0 (ρ.t 5) 1 v bs.length bs:=by refine⟨Qg.1,Qg.2.imp id ?_⟩;rintro⟨g,cap,cur,rfl,q1,q2,q3⟩;refine⟨g,cap,cur,rfl,q1,?_,q3⟩;rw[Qf.block g (bq.1 q2).1 (λe=>hne (by rw[e];rfl)) (by simp)];exact q2
 have c0:w1.cell? ⟨b,0,none⟩=some (.pointer (some ⟨b,0,none⟩)):=by rw[Lib.cell_of_heap hbk];rfl
 have c1:w1.cell? ⟨b,1,none⟩=some v:=by rw[Lib.cell_of_heap hbk];rfl
 go_wp2_with (at_builtin;refine Bq rfl _ _ (ρ.t 37) rfl (ρ.t 5) i0 L.t37 L.t5 hi hz0 hz1 hz2 _ _ _ rfl (hown.alloc _) c w1.heap.size rfl ?cN ?c4 ?_);case cN=>simp
 case c4=>omega
 intro v' w2 hown' hgrow II;have hlt:b<w1.heap.size:=(bq.1 hbk).1;have AZ:w2.heap[b]?=some (.cells #[.pointer (some ⟨b,0,none⟩),v] (ρ.t 72) (0,0)):=by rw[hgrow.block b (by simp;omega) (λe=>hne e.symm),Lib.alloc_old w1 _ b hlt];exact hbk
 have d0:w2.cell? ⟨b,0,none⟩=some (.pointer (some ⟨b,0,none⟩)):=by rw[Lib.cell_of_heap AZ];rfl
 have d1:w2.cell? ⟨b,1,none⟩=some v:=by rw[Lib.cell_of_heap AZ];rfl
 have f1:w2.frozen? ⟨b,1,none⟩=false:=Lib.frozen_of_heap AZ 1;obtain⟨ao,n',cap,rfl⟩:∃ao n' cap,v'=.slice ao n' cap:=by rcases hown'.2 with⟨hv,_⟩|⟨g,cap,cur,hv,_⟩;omega;exact⟨_,_,_,hv⟩
 go_wp2;go_ret;have aav:(Value.slice ao n' cap).ownBlock≠some b:=by rcases II with e|⟨y,e,hy⟩;grind;grind
 have agc:yS b v.ownBlock w (w2.setCell ⟨b,1,none⟩ (.slice ao n' cap)):=yS.setCell (yS.trans ⟨Qf.os,Qf.tape,Qf.output,Qf.size,λk hk h1 _=>Qf.block k hk h1 (by simp)⟩ ⟨hgrow.os,hgrow.tape,hgrow.output,bL (by simp) hgrow.size,λk hk _ h2=>(hgrow.block k (by simp;omega) (λe=>h2 e.symm)).trans (Lib.alloc_old w1 _ k hk)⟩) 1 _;refine⟨rfl,.slice ao n' cap,?_,?_,aav,?_,agc⟩;simp[World.setCell,jk,AZ];refine⟨hown'.1,hown'.2.imp id ?_⟩;rintro⟨g,cap',cur,e1,q1,q2,q3⟩;refine⟨g,cap',cur,e1,q1,?_,q3⟩;rw[Below.heap_setCell _ _ _ _ (λe=>aav (by rw[e1];show some g=some b;exact aV some e))];exact q2;rcases II with e|⟨y,e,hy⟩;grind;exact .inr ⟨y,e,by have :=Qf.size;omega⟩
theorem Gl (L:Lays.n167 P ρ)(X:Builder.Extra P ρ){C:Ctx}(hP:C.P=P)(hT:C.bT=ρ.t 72)(hE:C.bE=ρ.t 5){fn:Func}(hf:P.funcs[ρ.f 167]?=some fn)(hb:fn.body.isNone=false)(hname:(fn.name== "runtime.NumGoroutine")=false){bs:List UInt8}{c:UInt8}(hlen:bs.length+1<=140737488355328):uE C (ρ.f 167) [.int .u8 c.toNat] bs (some (bs++[c])) .sX:=by
 subst hP;refine⟨⟨fn,hf,hb,hname⟩,λbh w b row vs hJ _ _ _ _ _ _ rL hl hr=>?_⟩;match vs,hl with
  |[v0],_=>
   have h0:=hr 0 v0 _ rfl rfl;obtain rfl:v0=.int .u8 c.toNat:=by cases h0;rfl
   obtain⟨p,v,hp,hbk,hown,hrow,hne⟩:=row_of_bld rL;rw[hT]at hbk;rw[hE]at hown;have hbl:(Lib.byteCells bs).length=bs.length:=Lib.byteCells_length bs;refine(Kl L X hp hbk hown (by grind) oO).mono ?_;rintro e w' ⟨rfl,v',h1,h2,h3,h4,h5⟩;refine⟨_,rfl,.sX,⟨v'.ownBlock,Qi (by grind) ?_ h3,by grind⟩,h5.os,h5.tape,h5.output,h5.size,λk hk k1 k2=>h5.block k hk k1 (by grind)⟩;rw[hE];have e1:Lib.byteCells bs++[.int .u8 c.toNat]=Lib.byteCells (bs++[c]):=by simp[Lib.byteCells]
   grind
end Qv
open Go Go.Proofs Go.RowKit
namespace Qv
def rI {α:Type}(p:α->Bool):List α->Nat->Int|[],_=>-1|x::l,i=>if p x=true then(i:Int)else rI p l (i+1)
theorem vg {α:Type}{p:α->Bool}{l:List α}{k:Nat}(h:k<l.length):rI p (l.drop k) k=if p l[k]=true then(k:Int)else rI p (l.drop (k+1)) (k+1):=by rw[bM h];rfl
theorem zP {α:Type}(p:α->Bool):∀(l:List α)(i:Nat),(rI p l i=-1/\l.find? p=none)\/∃k,∃h:k<l.length,rI p l i=((i+k:Nat):Int)/\l.find? p=some l[k]
 |[],i=>.inl ⟨rfl,rfl⟩
 |x::l,i=>by
  unfold rI;cases hp:p x with
  |true=>exact .inr ⟨0,by simp,by rw[af rfl];rfl,by simp[hp]⟩
  |false=>rw[aa dD];rcases zP p l (i+1)with⟨h1,h2⟩|⟨k,hk,h1,h2⟩;exact .inl ⟨h1,by rw[pO,hp];exact h2⟩;exact .inr ⟨k+1,by simpa using hk,by rw[h1];congr 1;omega,by rw[pO,hp];simpa using h2⟩
theorem yX {α:Type}(p:α->Bool)(l:List α):decide (0<=rI p l 0)=l.any p:=by
 rcases zP p l 0 with⟨h1,h2⟩|⟨k,hk,h1,h2⟩;rw[h1];have :l.any p=false:=by rw[sF]at h2;rw[nC];exactλx hx=>h2 x hx
 rw[this];rfl;rw[h1];have :l.any p=true:=fC.2 ⟨l[k],aT hk,jr h2⟩;rw[this];exact ai (CU _)
theorem Th (l:List fk)(g:FuncId)(c1:AV)(p:fk->Bool)(hp:∀x,x∈l->au C g [.agg (mP x),c1] (λr=>r=.val (.bool (p x))))(hl:l.length<=2^47):au C 104 [.sl (l.map mP),.fn (.func g) [] [c1]] (λr=>r=.val (.int .i64 (rI p l 0))):=by
 refine aq Tryz.func104 rfl rfl rfl (bW 19 (λk:Nat=>[(0,.p (.sl (l.map mP))),(1,.p (.fn (.func g) [] [c1])),(7,.p (.int .i64 ((l.map mP).length:Int))),(8,.p (.int .i64 k))]) (λ_=>[]) (λk=>k<=l.length/\rI p l 0=rI p (l.drop k) k) (λk=>l.length-k) 0 ⟨zL,rfl⟩ rfl wS trivial ?_);rintro k ⟨hk,hE⟩;refine cu (l:=l) (f:=mP) (λhlt=>?_) (λhge=>?_);rw[vg hlt]at hE;refine ix hlt (cl (hp l[k] (aT _)) ?_);cases hq:p l[k]with
 |true=>rw[hq,af rfl]at hE;rw[hE];exact rfl
 |false=>rw[hq,aa dD]at hE;exact nx (k+1) (aU (k+1) ⟨hlt,hE⟩ oO rfl wS trivial)
 rw[cQ oO]at hE;rw[hE];exact rfl
theorem Ti (l:List Dg)(g:FuncId)(c1:AV)(p:Dg->Bool)(hp:∀x,x∈l->au C g [.agg (cD x),c1] (λr=>r=.val (.bool (p x))))(hl:l.length<=2^47):au C 109 [.sl (l.map cD),.fn (.func g) [] [c1]] (λr=>r=.val (.int .i64 (rI p l 0))):=by
 refine aq Tryz.func109 rfl rfl rfl (bW 19 (λk:Nat=>[(0,.p (.sl (l.map cD))),(1,.p (.fn (.func g) [] [c1])),(7,.p (.int .i64 ((l.map cD).length:Int))),(8,.p (.int .i64 k))]) (λ_=>[]) (λk=>k<=l.length/\rI p l 0=rI p (l.drop k) k) (λk=>l.length-k) 0 ⟨zL,rfl⟩ rfl wS trivial ?_);rintro k ⟨hk,hE⟩;refine cu (l:=l) (f:=cD) (λhlt=>?_) (λhge=>?_);rw[vg hlt]at hE;refine ix hlt (cl (hp l[k] (aT _)) ?_);cases hq:p l[k]with
 |true=>rw[hq,af rfl]at hE;rw[hE];exact rfl
 |false=>rw[hq,aa dD]at hE;exact nx (k+1) (aU (k+1) ⟨hlt,hE⟩ oO rfl wS trivial)
 rw[cQ oO]at hE;rw[hE];exact rfl
theorem Qz (l:List Dg)(g:FuncId)(c1:AV)(p:Dg->Bool)(hp:∀x,x∈l->au C g [.agg (cD x),c1] (λr=>r=.val (.bool (p x))))(hl:l.length<=2^47):au C 44 [.sl (l.map cD),.fn (.func g) [] [c1]] (λr=>r=.val (.bool (l.any p))):=by refine aq Tryz.func44 rfl rfl rfl (cl (Ti l g c1 p hp hl) ?_);rw[<-yX p l];exact⟨λb hb=>by subst hb;rfl⟩
theorem Xg (l:List bO)(g:FuncId)(c1:AV)(p:bO->Bool)(hp:∀x,x∈l->au C g [.agg (cA x),c1] (λr=>r=.val (.bool (p x))))(hl:l.length<=2^47):au C 64 [.sl (l.map cA),.fn (.func g) [] [c1]] (λr=>r=.val (.int .i64 (rI p l 0))):=by
 refine aq Tryz.func64 rfl rfl rfl (bW 19 (λk:Nat=>[(0,.p (.sl (l.map cA))),(1,.p (.fn (.func g) [] [c1])),(7,.p (.int .i64 ((l.map cA).length:Int))),(8,.p (.int .i64 k))]) (λ_=>[]) (λk=>k<=l.length/\rI p l 0=rI p (l.drop k) k) (λk=>l.length-k) 0 ⟨zL,rfl⟩ rfl wS trivial ?_);rintro k ⟨hk,hE⟩;refine cu (l:=l) (f:=cA) (λhlt=>?_) (λhge=>?_);rw[vg hlt]at hE;refine ix hlt (cl (hp l[k] (aT _)) ?_);cases hq:p l[k]with
 |true=>rw[hq,af rfl]at hE;rw[hE];exact rfl
 |false=>rw[hq,aa dD]at hE;exact nx (k+1) (aU (k+1) ⟨hlt,hE⟩ oO rfl wS trivial)
 rw[cQ oO]at hE;rw[hE];exact rfl
theorem Xh (x:fk)(d:Dg):au C 105 [.agg (mP x),.imp (cD d)] (λr=>r=.val (.bool (decide (x.id=d)))):=by exact aq Tryz.func105 rfl rfl rfl ⟨vp,cR,uf,rfl,rfl,CR (a:=x.id) (b:=d) rfl⟩
theorem Ru (l:List bB)(d:bB)(hl:l.length<=2^47):au C 106 [.sl (pX l),.agg (cI d)] (λr=>r=.val (.int .i64 (rI (λx=>decide (d=x)) l 0))):=by unfold pX;refine aq Tryz.func106 rfl rfl rfl (bW 19 (λk:Nat=>[(0,.p (.sl (l.map cI))),(3,.ptr 3 0),(7,.p (.int .i64 ((l.map cI).length:Int))),(8,.p (.int .i64 k))]) (λ_=>[(3,aI (cI d))]) (λk=>k<=l.length/\rI (λx=>decide (d=x)) l 0=rI (λx=>decide (d=x)) (l.drop k) k) (λk=>l.length-k) 0 ⟨zL,rfl⟩ rfl wS oS ?_);rintro k ⟨hk,hE⟩;refine cu (l:=l) (f:=cI) (λhlt=>?_) (λhge=>?_);rw[vg hlt]at hE;refine cw 6 kK (ix hlt (pZ (jH (a:=d) (b:=l[k]) ?_)));by_cases hq:d=l[k];rw[ai hq];rw[af (ai hq)]at hE;rw[hE];exact rfl;rw[ah hq];rw[aa (by rw[ah hq];decide)]at hE;exact nx (k+1) (aU (k+1) ⟨hlt,hE⟩ oO rfl wS oS);rw[cQ oO]at hE;rw[hE];exact rfl
theorem Ky (l:List bB)(d:bB)(hl:l.length<=2^47):au C 40 [.sl (pX l),.agg (cI d)] (λr=>r=.val (.bool (decide (d∈l)))):=by
 refine aq Tryz.func40 rfl rfl rfl (cl (Ru l d hl) ?_);have e:decide (d∈l)=decide (0<=rI (λx=>decide (d=x)) l 0):=by rw[yX];by_cases h:d∈l;rw[ai h];exact(fC.2 ⟨d,h,by simp⟩).symm;rw[ah h];refine(nC.2 λx hx=>?_).symm;intro g;exact h (cL g▸hx)
 rw[e];exact⟨λb hb=>by subst hb;rfl⟩
end Qv
