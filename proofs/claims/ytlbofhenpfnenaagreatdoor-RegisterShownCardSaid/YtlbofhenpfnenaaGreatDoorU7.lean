/- Part 7 of the proof: its lemmas. No condition. -/
import Derived.Test.YtlbofhenpfnenaaGreatDoorU6
import Derived.Maps.RangeRun
set_option maxRecDepth 10000
set_option maxHeartbeats 80000000
set_option linter.all false
namespace Qv
open Go Go.RowKit
section
variable {E:Env}{G:aV}{S:ai}{a:Act}{w:World}{o:Oper}{K:FV->Prop}
def zu (G:aV)(w:World)(cs:List Value)(xs:List FV):Prop:=cs.length=xs.length/\∀(i:Nat)(c:Value)(x:FV),cs[i]?=some c->xs[i]?=some x->aT G w c x
theorem eP (xs:List AV):aH xs=xs.map FV.p:=by
 induction xs with
 |nil=>rfl
 |cons x xs ih=>simp[aH,ih]
theorem pF {xs:List FV}:ji xs=true↔∀x,x∈xs->x.one=true:=by
 induction xs with
 |nil=>simp[ji]
 |cons x xs ih=>simp only[ji];grind
theorem qR {v:Value}{x:FV}(h:aT G w v x)(h1:ji x.cells=true):zu G w v.cells.toList x.cells/\(∀u,u∈v.cells.toList->u.oneCell'=true):=by
 have one:∀{cs:List Value}{xs:List FV},zu G w cs xs->ji xs=true->∀u,u∈cs->u.oneCell'=true:=λ{cs xs} hr ho u hu=>by
  obtain⟨i,hi⟩:=List.mem_iff_getElem?.1 hu;have hl:i<xs.length:=by rw[<-hr.1];exact(aG.1 hi).1
  exact(hr.2 i u _ hi (av hl)).ZW (pF.1 ho _ (aK hl))
 have single:∀{v:Value}{x:FV},aT G w v x->v.cells=#[v]->zu G w v.cells.toList [x]:=λ{v x} h hv=>by rw[hv];refine⟨rfl,λi c y hc hy=>?_⟩;grind
 have key:zu G w v.cells.toList x.cells:=by
  cases h with
  |p v x h=>
   cases h with
   |agg cs xs hl ho hc=>
    simp only[FV.cells,Value.cells,eP];refine⟨by grind,λi c y h2 h3=>?_⟩;rw[aR]at h3;cases hx:xs[i]?with
    |none=>simp_all
    |some z=>simp[hx]at h3;subst h3;exact .p _ _ (hc i c z oO hx)
   |eV cs xs hl hc=>simp[FV.cells,ji,FV.one,AV.one]at h1
   |_=>exact single (.p _ _ (by constructor<;>assumption)) rfl
  |agg cs xs hl hc=>exact⟨by simpa[Value.cells,FV.cells]using hl,λi c y h2 h3=>hc i c y (by simpa[Value.cells]using h2) h3⟩
  |eV cs xs hl hc=>simp[FV.cells,ji,FV.one]at h1
  |dF v=>simp[FV.cells,ji,FV.one]at h1
  |ptr o off b h=>exact single (.ptr o off b h) rfl
  |eH t T bP xs a c h3 h4=>exact single (.eH t T bP xs a c h3 h4) rfl
  |ni l k h=>exact single (.ni l k h) rfl
  |fe o T bP n c b q1 q2 q3 q4=>exact single (.fe o T bP n c b q1 q2 q3 q4) rfl
  |uH o x T bP n c b off q1 q2 q0 q3 q4=>exact single (.uH o x T bP n c b off q1 q2 q0 q3 q4) rfl
  |ij o base off b h=>exact single (.ij o base off b h) rfl
  |fI o b h=>exact single (.fI o b h) rfl
  |Bh o b h=>exact single (.Bh o b h) rfl
  |full xs a h=>exact single (.full xs a h) rfl
  |fn f fs cs first captured a b c d=>exact single (.fn f fs cs first captured a b c d) rfl
 grind
theorem LA {α:Type}{xs zs:List α}{n:Nat}{y:α}(h:KG xs n y=some zs):n<xs.length/\zs=xs.set n y:=by
 induction xs generalizing n zs with
 |nil=>simp[KG]at h
 |cons x xs ih=>
  cases n with
  |zero=>simp[KG]at h;grind
  |succ n=>simp only[KG]at h;grind
theorem rM {α:Type}{xs zs:List α}{n:Nat}{ys:List α}(h:gD xs n ys=some zs):zs.length=xs.length/\(ys≠[]->n+ys.length<=xs.length)/\∀(i:Nat),zs[i]?=if n<=i/\i<n+ys.length then ys[i-n]?else xs[i]?:=by
 induction ys generalizing xs n with
 |nil=>simp only[gD,bN]at h;grind
 |cons y ys ih=>simp only[gD]at h;split at h;rename_i us hu;obtain⟨h1,rfl⟩:=LA hu;obtain⟨h2,h3,h4⟩:=ih h;refine⟨by simp_all,λ_=>?_,λi=>?_⟩;grind;rw[h4 i];by_cases hi:i=n;subst hi;grind;by_cases hlt:n+1<=i/\i<n+1+ys.length;rw[af hlt,af (by grind)];grind;rw[aa hlt,aa (by grind),CY (eO hi)];simp_all
theorem Im (vs:List Value)(off:Nat):∀(k:Nat)(cs:Array Value),let r:=(vs.zipIdx k).foldl (λcs (c,j)=>cs.setIfInBounds (off+j) c) cs;r.size=cs.size/\∀i,i<cs.size->r[i]?=if off+k<=i/\i<off+k+vs.length then vs[i-(off+k)]?else cs[i]?:=by
 induction vs with
 |nil=>simp_all
 |cons v vs ih=>intro k cs;simp only[List.zipIdx_cons,eR];obtain⟨h1,h2⟩:=ih (k+1) (cs.setIfInBounds (off+k) v);refine⟨by simp_all,λi hi=>?_⟩;rw[h2 i (by simp_all)];by_cases he:i=off+k;grind;by_cases hlt:off+(k+1)<=i/\i<off+(k+1)+vs.length;grind;grind
theorem Qj {place:Nat->Option (Nat×Nat)}{cells:Array Value}{i off size:Nat}{v:Value}{rest:List (Nat×Value)}(hp:place i=some (off,size))(hs:v.cells.size=size)(hb:off+size<=cells.size):Instr.fill place cells ((i,v)::rest)=Instr.fill place (v.cells.zipIdx.foldl (λcs (c,j)=>cs.setIfInBounds (off+j) c) cells) rest:=by
 have hne:¬(v.cells.size≠size\/off+v.cells.size>cells.size):=by rw[hs];omega
 simp only[Instr.fill,hp];grind
theorem LB {cells:Array Value}{xs zs:List FV}{off:Nat}{v:Value}{x:FV}(hr:zu G w cells.toList xs)(hv:aT G w v x)(h1:ji x.cells=true)(BH:gD xs off x.cells=some zs)(hne:v.cells.size=0->off<=cells.size):off+v.cells.size<=cells.size/\zu G w (v.cells.zipIdx.foldl (λcs (c,j)=>cs.setIfInBounds (off+j) c) cells).toList zs:=by
 obtain⟨Qk,hco⟩:=qR hv h1;obtain⟨g1,g2,g3⟩:=rM BH;have hlen:v.cells.size=x.cells.length:=by rw[<-Qk.1];simp
 have hsz:cells.size=xs.length:=by rw[<-hr.1];simp
 have hb:off+v.cells.size<=cells.size:=by by_cases h0:x.cells=[];simp_all;simp_all
 refine⟨hb,?_⟩;have hf:=Im v.cells.toList off 0 cells;have he:v.cells.zipIdx.foldl (λcs (c,j)=>cs.setIfInBounds (off+j) c) cells=(v.cells.toList.zipIdx 0).foldl (λcs (c,j)=>cs.setIfInBounds (off+j) c) cells:=by rw[<-Array.foldl_toList,Array.toList_zipIdx]
 rw[he];obtain⟨f1,f2⟩:=hf;refine⟨by simp_all,λi c y hc hy=>?_⟩;have hi:i<cells.size:=by have :=(aG.1 hy).1;omega
 rw[g3 i]at hy;rw[sX,f2 i hi]at hc;simp only[Nat.add_zero]at hc;by_cases hin:off<=i/\i<off+x.cells.length;rw[af hin]at hy;rw[af (by simp_all)]at hc;exact Qk.2 _ _ _ hc hy;rw[aa hin]at hy;rw[aa (by simp_all)]at hc;exact hr.2 i c y (by simp_all) hy
theorem qS (zs:List Value):zu G w zs (zs.map FV.gP):=⟨by simp,λi c x hc hx=>by rw[aR,hc]at hx;simp only[eA,bN]at hx;subst hx;exact uO _ _ _⟩
theorem GW (hs:bp E G S a w){fs:List (Nat×TypeId)}{gs:Array Field}(Kx:fs=gs.toList.map λf=>(f.offset,f.type)):∀(parts:List (Nat×Operand))(cells:Array Value)(xs zs:List FV),zu G w cells.toList xs->nv fs E.C.jG S parts xs=some zs->∃cs,Instr.fill ((gs.map λf=>(f.offset,E.C.P.cellsOf f.type))[·]?) cells (parts.map λ(i,x)=>(i,a.eval x))=some cs/\zu G w cs.toList zs:=by
 intro parts;induction parts with
 |nil=>intro cells xs zs hr h;simp only[nv,bN]at h;exact⟨cells,rfl,h▸hr⟩
 |cons p parts ih=>
  obtain⟨i,x⟩:=p;intro cells xs zs hr h;simp only[nv]at h;split at h;grind;rename_i off t r hd;split at h;grind;rename_i j hj;split at h;rename_i hz hlen h1;split at h;grind;rename_i us hu;have hv:=aT.val hs x;have hlen':(S.val x).cells.length=j.size:=aP hlen;have hgi:gs.toList[i]?.map (λf=>(f.offset,f.type))=some (off,t):=by have :=lY hd;rwa[Kx,aR]at this
  obtain⟨inf,z,CZ,hsz,-⟩:=(E.C.ok hj).info';have hcs:E.C.P.cellsOf t=j.size:=by simp[Program.cellsOf,CZ,hsz]
  have hp:(gs.map λf=>(f.offset,E.C.P.cellsOf f.type))[i]?=some (off,j.size):=by
   rw[Array.getElem?_map];cases hg:gs[i]?with
   |none=>simp_all
   |some g=>simp_all
  have Qk:=(qR hv h1).1;have hvs:(a.eval x).cells.size=j.size:=by rw[<-hlen',<-Qk.1];simp
  have h0:j.size≠0:=bt hz;obtain⟨hb,hr'⟩:=LB hr hv h1 hu (λe=>oO);obtain⟨cs,h3,h4⟩:=ih _ _ _ hr' h;refine⟨cs,?_,h4⟩;rw[cS,Qj hp hvs oO];omega;simp_all
theorem sI (hs:bp E G S a w){size:Nat}:∀(parts:List (Nat×Operand))(cells:Array Value)(xs zs:List FV),zu G w cells.toList xs->fK size S parts xs=some zs->∃cs,Instr.fill (λi=>some (i*size,size)) cells (parts.map λ(i,x)=>(i,a.eval x))=some cs/\zu G w cs.toList zs:=by
 intro parts;induction parts with
 |nil=>intro cells xs zs hr h;simp only[fK,bN]at h;exact⟨cells,rfl,h▸hr⟩
 |cons p parts ih=>
  obtain⟨i,x⟩:=p;intro cells xs zs hr h;simp only[fK]at h;split at h;rename_i hz hlen h1;split at h;grind;rename_i us hu;have hv:=aT.val hs x;have hlen':(S.val x).cells.length=size:=aP hlen;have Qk:=(qR hv h1).1;have hvs:(a.eval x).cells.size=size:=by rw[<-hlen',<-Qk.1];simp
  have h0:size≠0:=bt hz;obtain⟨hb,hr'⟩:=LB hr hv h1 hu (λe=>oO);obtain⟨cs,h3,h4⟩:=ih _ _ _ hr' h;refine⟨cs,?_,h4⟩;rw[cS,Qj rfl hvs oO];omega;simp_all
theorem fJ.zeroV {P:Program}{t:TypeId}{i:jX}(h:fJ P t i)(w:World):∃z,(zeroValue t).run P w=.ok z w/\z.cells.toList=i.zero:=by obtain⟨inf,z,h1,-,-,h2,h3⟩:=h.info';exact⟨z,by simp[zeroValue,run_typeInfo w h1,h2],h3⟩
theorem KM (C:Ctx){fs:List (Nat×TypeId)}{ps:List (Nat×Nat)}(h:placesOf C.jG fs=some ps):∀(gs:List Field),fs=gs.map (λf=>(f.offset,f.type))->gs.mapM (λf=>(C.P.info? f.type).map λi=>(f.offset,i.size))=some ps/\ps=gs.map λf=>(f.offset,C.P.cellsOf f.type):=by
 induction fs generalizing ps with
 |nil=>intro gs hg;simp only[placesOf,bN]at h;simp_all
 |cons p fs ih=>
  obtain⟨o,t⟩:=p;intro gs hg;cases gs with
  |nil=>simp_all
  |cons g gs=>simp only[cS,ko,Prod.mk.injEq]at hg;obtain⟨⟨rfl,rfl⟩,hg⟩:=hg;simp only[placesOf]at h;split at h;grind;rename_i j hj;split at h;grind;rename_i qs hqs;obtain rfl:=au h;obtain⟨h1,h2⟩:=ih hqs gs hg;obtain⟨inf,z,CZ,hsz,-⟩:=(C.ok hj).info';simp only[List.mapM_cons,CZ,eA,h1];simp[hsz,h2,Program.cellsOf,CZ]
theorem Ny (hs:bp E G S a w){t:TypeId}{parts:Array (Nat×Operand)}(ho:o.op=.build t parts)(h:Hr E.C S t parts.toList K):Yields E G a w o K:=by
 unfold Hr at h;split at h;rename_i fs zero ht;have hok:=E.C.ok ht;obtain⟨gs,hu,Kx⟩:=hok.struct;obtain⟨inf,z,CZ,-,-,hz,Hv⟩:=hok.info';split at h;simp_all;rename_i ps hps;split at h;rename_i cs hcs;rw[jY]at h;obtain⟨p1,p2⟩:=KM E.C hps gs.toList Kx;obtain⟨us,h3,h4⟩:=GW hs Kx parts.toList z.cells _ _ (Hv▸qS _) hcs;have hb:E.C.P.built t (parts.toList.map λ(i,x)=>(i,a.eval x))=some us:=by unfold Program.built;simp only[CZ,hu,hz,p1];rw[p2];simpa using h3
 have hrun:=run_build (P:=E.C.P) w t (parts.map λ(i,x)=>(i,a.eval x)) us (by simp_all);exact Yields.same (by simp only[execOp,ho,Sem.run_bind,hrun,Result.andThen_ok];rfl) h (by simpa using aT.agg us.toList cs h4.1 h4.2);simp_all;rename_i n e zero ht;have hok:=E.C.ok ht;have hu:=hok.array;obtain⟨inf,z,CZ,-,-,hz,Hv⟩:=hok.info';split at h;simp_all;rename_i j hj;obtain⟨anp,z',VI,akz,-⟩:=(E.C.ok hj).info';split at h;rename_i cs hcs;rw[jY]at h;obtain⟨us,h3,h4⟩:=sI hs parts.toList z.cells _ _ (Hv▸qS _) hcs;have hb:E.C.P.built t (parts.toList.map λ(i,x)=>(i,a.eval x))=some us:=by unfold Program.built;simp only[CZ,hu,hz,VI,akz];exact h3
 have hrun:=run_build (P:=E.C.P) w t (parts.map λ(i,x)=>(i,a.eval x)) us (by simp_all);exact Yields.same (by simp only[execOp,ho,Sem.run_bind,hrun,Result.andThen_ok];rfl) h (by simpa using aT.agg us.toList cs h4.1 h4.2);simp_all;simp_all
theorem rY {α:Type}(xs:List α)(n:Nat):(ov n xs).length=n*xs.length/\∀i,i<n*xs.length->(ov n xs)[i]?=xs[i%xs.length]?:=by
 induction n with
 |zero=>simp[ov]
 |succ n ih=>refine⟨by simp[ov,ih.1,bC,pZ],λi hi=>?_⟩;simp only[ov];by_cases h:i<xs.length;rw[cO h,lZ h];rw[dY oO,ih.2 _ (by grind)];congr 1;exact(Nat.mod_eq_sub_mod oO).symm
theorem Io {α β:Type}(f:α->β)(xs:List α)(n:Nat):ov n (xs.map f)=(ov n xs).map f:=by
 induction n with
 |zero=>rfl
 |succ n ih=>simp[ov,ih]
theorem Xm {α:Type}(size:Nat):∀(n:Nat)(xs:List α),(chunk size n xs).length=n/\∀i zs,(chunk size n xs)[i]?=some zs->zs=(xs.drop (i*size)).take size:=by
 intro n;induction n with
 |zero=>intro xs;simp[chunk]
 |succ n ih=>
  intro xs;obtain⟨h1,h2⟩:=ih (xs.drop size);refine⟨by simp[chunk,h1],λi zs h=>?_⟩;cases i with
  |zero=>simp[chunk]at h;grind
  |succ i=>simp only[chunk,mb]at h;rw[h2 i zs h,sY,bC,kn,pZ]
theorem aaa {x:FV}{y:AV}(h:x.one=true)(hy:x.fh=some y):y.one=true:=by
 cases x with
 |p z=>simp only[FV.fh,bN]at hy;subst hy;exact h
 |agg xs=>simp[FV.one]at h
 |eV xs=>simp[FV.one]at h
 |ptr o off=>simp[FV.fh]at hy
 |eH t T e xs=>simp only[FV.fh,bN]at hy;subst hy;rfl
 |ni l=>simp[FV.fh]at hy
 |fe o T e=>simp[FV.fh]at hy
 |uH o x T e=>simp[FV.fh]at hy
 |ij o b off=>simp[FV.fh]at hy
 |fI o=>simp[FV.fh]at hy
 |Bh o=>simp[FV.fh]at hy
 |full xs=>simp only[FV.fh,bN]at hy;subst hy;rfl
 |fn f a b=>simp only[FV.fh]at hy;split at hy;split at hy;obtain rfl:=au hy;rfl;simp_all;simp_all
 |dF=>simp[FV.one]at h
theorem yD (hs:bp E G S a w){t:TypeId}{len:Nat}{parts:Array (Nat×Operand)}(ho:o.op=.buildSlice t len parts)(h:lW E.C S t len parts.toList K):∃(xs:List (List AV)) (us:Array Value) (e:TypeId) (j:jX),(∃a b z,bU E.C.jG t=some ⟨a,b,.slice e,z⟩)/\bU E.C.jG e=some j/\K (.full xs)/\(execOp a.eval o).run E.C.P w=.ok (.value (.slice (some ⟨w.heap.size,0,none⟩) xs.length xs.length)) (w.alloc (.cells us e))/\(∀zs,zs∈xs->zs.length=j.size)/\dh (λb o=>G.aZ b o\/(w.heap.size<=b/\b<(w.alloc (.cells us e)).heap.size/\o<xs.length*j.size)) (w.alloc (.cells us e)) (.slice (some ⟨w.heap.size,0,none⟩) xs.length xs.length) (.sl xs):=by
 unfold lW at h;split at h;rename_i e _ ht;have hu:=(E.C.ok ht).slice;split at h;simp_all;rename_i j hj;have hok:=E.C.ok hj;split at h;simp_all;rename_i hle;have hle':len*j.size<=1000000:=gT hle;split at h;rename_i cs hcs;split at h;simp_all;rename_i h1;split at h;rename_i ys hys;obtain⟨z,hzr,Hv⟩:=hok.zeroV w;have akB:z.cells.size=j.size:=by rw[<-js,Hv,hok.len]
 have hbase:∀zz:Array Value,(len*j.size=0\/zz=z.cells)->((Array.range (len*j.size)).map (zz[·%zz.size]!)).toList=ov len j.zero:=λzz hzz=>by obtain⟨r1,r2⟩:=rY j.zero len;rw[hok.len]at r1 r2;apply fO;grind
 have hrl:∀zz:Array Value,(len*j.size=0\/zz=z.cells)->zu G w ((Array.range (len*j.size)).map (zz[·%zz.size]!)).toList (ov len (j.zero.map FV.gP)):=λzz hzz=>by rw[hbase zz hzz,Io];exact qS _
 obtain⟨us,SQ,oz⟩:∃us,(∀zz:Array Value,(len*j.size=0\/zz=z.cells)->Instr.fill (λi=>some (i*j.size,j.size)) ((Array.range (len*j.size)).map (zz[·%zz.size]!)) (parts.toList.map λ(i,x)=>(i,a.eval x))=some us)/\zu G w us.toList cs:=by obtain⟨us,h3,h4⟩:=sI hs parts.toList _ _ _ (hrl z.cells (.inr rfl)) hcs;grind
 have aab:¬len*j.size>2^24:=oO
 have hrun:(execOp a.eval o).run E.C.P w=.ok (.value (.slice (some ⟨w.heap.size,0,none⟩) len len)) (w.alloc (.cells us e)):=by
  by_cases h0:len*j.size=0;have h5:=SQ #[] (.inl h0);have h5':Instr.fill (λi=>some (i*j.size,j.size)) #[] (List.map (λx=>(x.1,a.eval x.2)) parts.toList)=some us:=by
   have h6:(Array.range (len*j.size)).map ((#[]:Array Value)[·%(#[]:Array Value).size]!)=#[]:=by rw[h0];simp
   rw[h6]at h5;exact h5
  have hm0:∀f:Nat->Value,(Array.range 0).map f=#[]:=λf=>by simp
  simp only[execOp,ho,Instr.buildSlice,Sem.run_bind,run_underlying hu,Result.andThen_ok,hok.sizeOf,aab,if_false,h0,if_true,Sem.run_pure,nP];simp only[show¬(0>2^24)from oO,if_false,Sem.run_pure,Result.andThen_ok,hm0,h5'];rfl;have h5:=SQ z.cells (.inr rfl);simp only[execOp,ho,Instr.buildSlice,Sem.run_bind,run_underlying hu,Result.andThen_ok,hok.sizeOf,aab,if_false,h0,Sem.run_pure,hzr,nP];simp only[h5];rfl
 obtain⟨y1,y2⟩:=FV.jg hys;have hlen:us.size=len*j.size:=by
  have h6:us.size=cs.length:=by rw[<-oz.1];simp
  have h7:∀(parts:List (Nat×Operand))(xs zs:List FV),fK j.size S parts xs=some zs->zs.length=xs.length:=by
   intro parts;induction parts with
   |nil=>intro xs zs h;simp only[fK,bN]at h;rw[h]
   |cons p parts ih=>obtain⟨i,x⟩:=p;intro xs zs h;simp only[fK]at h;split at h;split at h;grind;rename_i us SQ;rw[ih _ _ h,(rM SQ).1];simp_all
  rw[h6,h7 _ _ _ hcs,(rY _ _).1];simp[hok.len]
 have hal:Below w.heap.size w (w.alloc (.cells us e)):=(Below.refl _ _).alloc (ay _) _;obtain⟨c1,c2⟩:=Xm j.size len ys;have hcell:∀i,(w.alloc (.cells us e)).cell? ⟨w.heap.size,i,none⟩=us[i]?:=λi=>World.cell?_alloc_new w us e i;have aiv:∀(i:Nat)(zs:List AV),(chunk j.size len ys)[i]?=some zs->zs.length=j.size:=λi zs hzs=>by
  have hi:i<len:=by rw[<-c1];exact(aG.1 hzs).1
  rw[c2 i zs hzs,aD,bV,y1,<-oz.1,js,hlen];have :(i+1)*j.size<=len*j.size:=dO _ hi;grind
 have anq:dh (λb o=>G.aZ b o\/(w.heap.size<=b/\b<(w.alloc (.cells us e)).heap.size/\o<len*j.size)) (w.alloc (.cells us e)) (.slice (some ⟨w.heap.size,0,none⟩) (chunk j.size len ys).length len) (.sl (chunk j.size len ys)):=by
  refine dh.PZ (bP:=j.size) oO aiv (λi zs k y hzs hy=>?_);have hi:i<len:=by rw[<-c1];exact(aG.1 hzs).1
  have hk:k<j.size:=by have h8:=(aG.1 hy).1;rw[c2 i zs hzs,aD]at h8;omega
  rw[c2 i zs hzs,Da hk,lV]at hy;obtain⟨x,hx,hxy⟩:=y2 _ _ hy;have hlt:i*j.size+k<us.size:=by have h9:=(aG.1 hx).1;rw[<-js,oz.1];exact h9
  have hr:=oz.2 (i*j.size+k) us[i*j.size+k] x (by simp_all) hx;have hxo:=pF.1 h1 x (bz hx);refine⟨us[i*j.size+k],aaa hxo hxy,?_,.inr ⟨ay _,by simp,oO⟩,?_⟩;simp_all;refine(hr.fh hxy).keep (λb o hi=>.inl hi) (λb o c hi hc=>?_) (CI _ _ _);rw[World.cell?_alloc_lt _ _ _ (hs.fo b o hi)];omega
 refine⟨chunk j.size len ys,us,e,j,⟨_,_,_,ht⟩,hj,h,by simp_all,λzs hz=>?_,by simp_all⟩;obtain⟨q,hq⟩:=iP hz;grind;simp_all;simp_all;simp_all
theorem Db (hs:bp E G S a w){t:TypeId}{len:Nat}{parts:Array (Nat×Operand)}(ho:o.op=.buildSlice t len parts)(h:lW E.C S t len parts.toList K):Yields E G a w o K:=by obtain⟨xs,us,e,j,-,-,hK,hrun,-,hr⟩:=yD hs ho h;exact⟨_,_,_,hrun,hK,(Below.refl _ _).alloc (ay _) _,.full xs _ (hr.keep (λb o h=>h.imp id λh=>⟨h.1,h.2.1⟩) (λ_ _ _ _ h=>h) (.refl _ _))⟩
end
theorem fJ.map {P:Program}{t k e:TypeId}{a b:Nat}{z:List Value}(h:fJ P t ⟨a,b,.map k e,z⟩):P.underlying t=some (.map k e):=by obtain⟨d,h1,h2⟩:=h.zm;cases d<;>simp[shapeOf]at h2;simp_all
theorem nQ {α:Type}(l:List (AV×α)):gC l=l.map (·.1):=by
 induction l with
 |nil=>rfl
 |cons p l ih=>obtain⟨k,x⟩:=p;simp[gC,ih]
theorem Az {α:Type}(l:List (AV×α)):tY l=l.map (·.2):=by
 induction l with
 |nil=>rfl
 |cons p l ih=>obtain⟨k,x⟩:=p;simp[tY,ih]
theorem aac {α:Type}{ks:List AV}{xs:List α}(h:ks.length=xs.length):(Cz ks xs).length=ks.length/\∀(i:Nat)(p:AV×α),(Cz ks xs)[i]?=some p->ks[i]?=some p.1/\xs[i]?=some p.2:=by
 induction ks generalizing xs with
 |nil=>cases xs<;>simp_all[Cz]
 |cons k ks ih=>
  cases xs with
  |nil=>grind
  |cons x xs=>
   obtain⟨h1,h2⟩:=ih (by simpa using h);refine⟨by simp[Cz,h1],λi p hp=>?_⟩;cases i with
   |zero=>simp[Cz]at hp;grind
   |succ i=>simp[Cz]at hp;grind
theorem Dc {α:Type}(k:AV)(l:List (AV×α)):rW k l=(iA k (gC l)).bind λj=>(l[j]?).map (·.2):=by
 induction l with
 |nil=>rfl
 |cons p l ih=>
  obtain⟨k',x⟩:=p;simp only[rW,gC,iA];cases hs:kg k k' with
  |true=>simp
  |false=>
   simp only[ih];cases iA k (gC l)with
   |none=>rfl
   |some j=>simp
section
variable {E:Env}{G:aV}{S:ai}{a:Act}{w:World}{o:Oper}{K:FV->Prop}
theorem Ql (hs:bp E G S a w){v:Value}{x:FV}{l:List (AV×FV)}(hx:aT G w v x)(h:x.entries S.maps=some l):∃es:List MapEntry,((v=.map none/\es=[])\/∃b fW,v=.map (some b)/\w.heap[b]?=some (.map es.toArray fW))/\es.length=l.length/\∀(i:Nat)(e:MapEntry)(p:AV×FV),es[i]?=some e->l[i]?=some p->dh G.aZ w e.key p.1/\aT G w e.val p.2:=by
 cases x with
 |fI ob=>
  cases hx with
  |fI _ b hb=>obtain⟨b',fW,es,h1,h2,h3,h4,h5⟩:=hs.ext'.mps.at_ ob l h;grind
 |p y=>
  cases hx with
  |p _ _ hx=>
   cases hx with
   |lu=>simp only[FV.entries,bN]at h;simp_all
   |mp b fW es ks vs h1 h2 h3 h4 h5 h6 h7=>
    simp only[FV.entries,bN]at h;subst h;obtain⟨z1,z2⟩:=aac (ks:=ks) (xs:=aH vs) (by rw[eP,aj];omega);refine⟨es,.inr ⟨b,fW,rfl,h4⟩,oO,λi e p he hp=>?_⟩;obtain⟨q1,q2⟩:=z2 i p hp;refine⟨h6 i e _ he q1,?_⟩;rw[eP,aR]at q2;cases hv:vs[i]?with
    |none=>simp_all
    |some y=>simp only[hv,eA,bN]at q2;rw[<-q2];exact .p _ _ (h7 i e y he hv)
   |_=>simp[FV.entries]at h
 |_=>simp[FV.entries]at h
theorem Nz {l:List (AV×FV)}{es:List MapEntry}{agg:Bool}{L:List gI}{aZ:Nat->Nat->Prop}(hl:es.length=l.length)(hr:∀(i:Nat)(e:MapEntry)(p:AV×FV),es[i]?=some e->l[i]?=some p->dh aZ w e.key p.1)(hf:∀p,p∈l->gB agg L p.1=true):sV agg L es (gC l):=by
 refine⟨by rw[nQ,aj];omega,λi e x he hx=>?_⟩;rw[nQ,aR]at hx;cases hp:l[i]?with
 |none=>simp_all
 |some p=>simp only[hp,eA,bN]at hx;subst hx;have :=hf p (bz hp);exact⟨tK (hr i e p he hp) this,this⟩
theorem Ip {P:Program}{w:World}{e:TypeId}{z:Value}(h:(P.info? e).map (·.zero)=some (some z)):(zeroValue e).run P w=.ok z w:=by
 cases hi:P.info? e with
 |none=>simp_all
 |some i=>simp only[hi,eA,bN]at h;simp[zeroValue,run_typeInfo w hi,h]
theorem VJ {ok:Bool}{v:Value}{x:FV}(h:aT G w v x)(b:Bool):aT G w (if ok then .tuple #[v,.bool b]else v) (okV ok x b):=by
 cases ok with
 |false=>exact h
 |true=>
  refine .eV [v,.bool b] [x,.p (.bool b)] rfl λi c y h1 h2=>?_;match i,h1,h2 with
   |0,h1,h2=>simp_all
   |1,h1,h2=>cases h1;cases h2;exact .p _ _ (.bool b)
theorem KN (hs:bp E G S a w){t:TypeId}{x i:Operand}{ok:Bool}(ho:o.op=.lookup t x i ok)(h:HW E.C S.maps t (S.val x) (S.val i) ok K):Yields E G a w o K:=by
 have hx:=aT.val hs x;have hi:=aT.val hs i;unfold HW at h;split at h;rename_i kT eT _ ht;have hu:=(E.C.ok ht).map;split at h;rename_i ki kk l hki hkk hl;obtain⟨L,hL,hk,hall,r,hr,h⟩:=h;have hagg:=(E.C.ok hki).gJ;rw[<-hagg]at hk hall;have hkey:=tK (hi.fh hkk) hk;obtain⟨es,hv,hlen,hent⟩:=Ql hs hx hl;have hka:=Nz (w:=w) hlen (λi e p a b=>(hent i e p a b).1) hall;have NA:=λem=>(sU (P:=E.C.P) (em:=em) 40).1 kT L 10000 w kk.cells dD hL (lQ hk);have hfind:=xg (w:=w) dD hL hk hka;rw[Dc]at hr;have hrun:∀res:Option (Nat×Value),found es 0 (iA kk (gC l))=res->∀v,(match res with|some (_,v')=>v=(if ok then .tuple #[v',.bool true]else v')|none=>∃z,(E.C.P.info? eT).map (·.zero)=some (some z)/\v=(if ok then .tuple #[z,.bool false]else z))->(Instr.lookup t (a.eval x) (a.eval i) ok).run E.C.P w=.ok v w:=by
  intro res hres v hvv;rw[hres]at hfind;rw[hkey];rcases hv with⟨e1,rfl⟩|⟨b,fW,e1,e2⟩;rw[e1];cases res with
  |none=>obtain⟨z,hz,rfl⟩:=hvv;simp[Instr.lookup,run_underlying hu,NA,hfind,Ip hz]
  |some q=>simp[found]at hres
  rw[e1];have hg:(Go.getObj b).run E.C.P w=.ok (.map es.toArray fW) w:=by simp[Go.getObj,Sem.run,e2]
  cases res with
  |none=>obtain⟨z,hz,rfl⟩:=hvv;simp[Instr.lookup,run_underlying hu,hg,NA,hfind,Ip hz]
  |some q=>obtain⟨j,v'⟩:=q;subst hvv;simp[Instr.lookup,run_underlying hu,hg,NA,hfind]
 cases gb:iA kk (gC l)with
 |none=>rw[gb]at hr;simp only[Option.bind_none]at hr;subst hr;obtain⟨z,hz,hK⟩:=h;have :=hrun none (by rw[gb];rfl) _ ⟨z,hz,rfl⟩;exact Yields.same (by simp[execOp,ho,this]) hK (VJ (Ib _ _ _) false)
 |some j=>
  rw[gb]at hr;have hj:j<(gC l).length:=by
   have :∀(ks:List AV)(j:Nat),iA kk ks=some j->j<ks.length:=by
    intro ks;induction ks with
    |nil=>intro j h;simp[iA]at h
    |cons x ks ih=>
     intro j h;simp only[iA]at h;split at h;grind;cases hq:iA kk ks with
     |none=>simp_all
     |some m=>grind
   exact this _ _ gb
  rw[nQ,aj]at hj;have Tn:j<es.length:=oO
  simp only[nR,av hj,eA]at hr;subst hr;have :=hrun (some (j,es[j].val)) (by rw[gb];simp[found,Tn]) _ rfl;exact Yields.same (by simp[execOp,ho,this]) h (VJ (hent j _ _ (av Tn) (av hj)).2 true)
 simp_all;simp_all
end
end Qv
