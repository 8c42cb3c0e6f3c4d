/- Part 6 of the proof: its lemmas. No condition. -/
import Derived.Test.YtlbofhenpfnenaaGreatDoorU5
import Derived.Laws.BytesString
import Derived.Laws.MathBits
set_option maxRecDepth 10000
set_option maxHeartbeats 80000000
set_option linter.all false
namespace Qv
open Go Go.RowKit
section
variable {E:Env}{G:aV}{S:ai}{a:Act}{w:World}{o:Oper}{K:FV->Prop}
theorem Qh (hs:bp E G S a w){c x y:Operand}(ho:o.op=.pick c x y)(h:match S.val c with|.p (.bool true)=>force (S.val x) K|.p (.bool false)=>force (S.val y) K|_=>False):Yields E G a w o K:=by have hc:=aT.val hs c;generalize S.val c=vc at h hc;split at h;rw[force_eq]at h;exact Yields.same (by simp[execOp,ho,hc.ny,asBool]) h (aT.val hs x);rw[force_eq]at h;exact Yields.same (by simp[execOp,ho,hc.ny,asBool]) h (aT.val hs y);simp_all
theorem Qi (hs:bp E G S a w){op:UnOp}{t:TypeId}{x:Operand}(ho:o.op=.unOp op t x)(h:SY op (S.val x) K):Yields E G a w o K:=by
 have hx:=aT.val hs x;generalize S.val x=vx at h hx;have hd:(op=.not/\∃b,vx=.p (.bool b)/\(Al λt:Bool=>t=!b->K (.p (.bool t))))\/(op=.neg/\∃k n,vx=.p (.int k n)/\∃c,k.wrap (0-n)=c/\K (.p (.int k c)))\/(op=.xor/\∃k n,vx=.p (.int k n)/\∃c,yO .xor k (match k.signed with|true=>-1|false=>k.max) n=c/\K (.p (.int k c))):=by unfold SY at h;split at h;simp_all;grind;grind;simp_all
 rcases hd with⟨rfl,b,rfl,h⟩|⟨rfl,k,n,rfl,c,rfl,h⟩|⟨rfl,k,n,rfl,c,rfl,h⟩;have ex:=hx.ny;exact Yields.same (v:=.bool !b) (by simp[execOp,ho,ex,Op.unary]) (h.out _ rfl) (.p _ _ (.bool _));have ex:=hx.fN;exact Yields.same (v:=.int k (k.wrap (0-n))) (by simp[execOp,ho,ex,Op.unary,Op.intArith]) h (.p _ _ (.int _ _));have ex:=hx.fN;refine Yields.same (v:=.int k (yO .xor k (match k.signed with|true=>-1|false=>k.max) n)) ?_ h (.p _ _ (.int _ _));have e:(if k.signed=true then(-1:Int)else k.max)=(match k.signed with|true=>-1|false=>k.max):=by cases k.signed<;>rfl
 simp[execOp,ho,ex,Op.unary,ZX,e]
theorem foldl_push (bs:List UInt8):∀(r:ByteArray),(bs.map λb=>(b.toNat:Int)).foldl (λr n=>r.push (UInt8.ofNat n.toNat)) r=⟨r.data++bs.toArray⟩:=by
 induction bs with
 |nil=>simp_all
 |cons b bs ih=>simp_all
theorem Ik (hs:bp E G S a w){src dst:TypeId}{x:Operand}(ho:o.op=.convert src dst x)(h:SZ E.C src dst (S.val x) K):Yields E G a w o K:=by
 have hx:=aT.val hs x;generalize S.val x=vx at h hx;unfold SZ at h;split at h;simp_all;rename_i a0 b0 sh z0 hi;obtain⟨d,hd,hsh⟩:=(E.C.ok hi).zm;split at h;rename_i hd';have hu:=(E.C.ok hd').int;split at h;have ex:=hx.fN;obtain⟨c,rfl,h⟩:=h;exact Yields.same (by simp[execOp,ho,ex,convert,run_underlying hd,run_underlying hu,Conv.intToInt]) h (.p _ _ (.int _ _));simp_all;rename_i hd';have hu:=(E.C.ok hd').str;split at h;have ex:=hx.jR;exact Yields.same (by simp[execOp,ho,ex,convert,run_underlying hd,run_underlying hu]) h (.p _ _ (.str _));have ex:=hx.fN;obtain⟨c,rfl,hc,h⟩:=h;have adW:Utf8.encode (c.toNat:Int)=⟨#[c]⟩:=by
  have hv:Utf8.valid (c.toNat:Int)=true:=by simp[Utf8.valid];omega
  unfold Utf8.encode;simp only[hv,if_true,gR,hc];simp
 refine Yields.same (v:=.string ⟨[c].toArray⟩) ?_ h (.p _ _ (.str _));simp[execOp,ho,ex,convert,run_underlying hd,run_underlying hu,Conv.intToString,adW];unfold Vz at h;split at h;rename_i e xs hxs;split at h;rename_i by0 z1 he;obtain⟨bs,rfl,h⟩:=h;have hse:=(E.C.ok hi).slice;have hue:=(E.C.ok he).int;obtain⟨ad,c,hv,hcap,hne⟩:=(hx.elems hxs).lD;have hl:(bs.map λb=>[AV.int .u8 (b.toNat:Int)]).length=bs.length:=by simp
 rw[hl]at hv;refine Yields.same (v:=.string ⟨bs.toArray⟩) ?_ h (.p _ _ (.str _));have hrun:(Conv.bytesToString (.slice ad bs.length c)).run E.C.P w=.ok (.string ⟨bs.toArray⟩) w:=by
  by_cases h0:bs=[];subst h0;cases ad with
  |none=>rfl
  |some ad=>rfl
  obtain⟨b,off,bP,cell,rfl,g1,g2⟩:=hne (by simp_all);have hpos:0<bs.length:=jr.2 h0;have he1:bP=1:=(g1 0 [AV.int .u8 (bs[0].toNat:Int)] (by grind)).symm;subst he1;have hcell:∀q,q<bs.length->w.cell? ((⟨b,off,none⟩:Addr).add q)=some (((bs.map λb=>(b.toNat:Int))[q]?).elim undef (Value.int .u8)):=λq hq=>by obtain⟨-,g3,-,g4⟩:=g2 q [AV.int .u8 (bs[q].toNat:Int)] 0 _ (by grind) rfl;rw[Addr.add_lit,show off+q=off+q*1+0 from oO,g3];generalize cell q 0=cc at g4;cases g4;grind
  have :=run_loadCells (P:=E.C.P) w ⟨b,off,none⟩ bs.length _ hcell;have ait:(loadCells ⟨b,off,none⟩ bs.length).run E.C.P w=.ok ((bs.map λb=>(b.toNat:Int)).map (Value.int .u8)).toArray w:=by rw[this];congr 1;apply iO.1;apply fO;intro q;by_cases hq:q<bs.length;grind;grind
  rw[run_bytesToString w _ _ _ _ ait,foldl_push];congr 2;simp
 simp[execOp,ho,hv,run_convert_bytes_string w src dst e ad bs.length c hse hue hu,hrun];simp_all;simp_all;simp_all
theorem zo (hs:bp E G S a w){t:TypeId}{x:Operand}(ho:o.op=.makeInterface t x)(h:match bU E.C.jG t with
 |some ⟨_,_,.iface,_⟩=>False
 |some _=>match(S.val x).fh with|some y=>K (.p (.iface t y))|none=>False
 |none=>False):Yields E G a w o K:=by
 have hx:=aT.val hs x;generalize S.val x=vx at h hx;split at h;simp_all;rename_i i hne hi;obtain⟨d,hd,hsh⟩:=(E.C.ok hi).zm;split at h;rename_i y hy;have hr:=hx.fh hy;refine Yields.same (v:=.iface t (a.eval x)) ?_ h (.p _ _ (.iface _ _ _ hr));cases d<;>first|(simp[execOp,ho,Instr.makeInterface,run_underlying hd];done)|(exfalso;obtain⟨s,b,sh,z⟩:=i;simp only[shapeOf]at hsh;simp_all)
 simp_all;simp_all
theorem yC (hs:bp E G S a w){fn:Fn}{first captured:Array Operand}(ho:o.op=.makeFunc fn first captured)(h:K (.fn fn (first.toList.map S.val) (captured.toList.map S.val))):Yields E G a w o K:=by
 refine Yields.same (v:=.func fn (first.toList.map a.eval).toArray (captured.toList.map a.eval).toArray) ?_ h (.fn fn _ _ _ _ (by simp) (by simp) (λi c x hc hx=>?_) (λi c x hc hx=>?_));simp[execOp,ho,Instr.makeFunc,<-CV];rw[aR]at hc hx;cases h0:first.toList[i]?with
 |none=>simp_all
 |some y=>simp[h0]at hc hx;subst hc;subst hx;exact aT.val hs y
 rw[aR]at hc hx;cases h0:captured.toList[i]?with
 |none=>simp_all
 |some y=>simp[h0]at hc hx;subst hc;subst hx;exact aT.val hs y
theorem GV (hs:bp E G S a w){x:Operand}(ho:o.op=.nilCheck x)(h:match S.val x with|.ptr b off=>K (.ptr b off)|.p (.imp xs)=>K (.p (.imp xs))|.ij o base off=>K (.ij o base off)|.p (.fn (.func f) a b)=>K (.p (.fn (.func f) a b))|.fn (.func f) a b=>K (.fn (.func f) a b)|_=>False):Yields E G a w o K:=by have hx:=aT.val hs x;generalize S.val x=vx at h hx;split at h;obtain⟨b,hv,-⟩:=hx.oW;exact Yields.same (by simp[execOp,ho,hv]) h (hv▸hx);obtain⟨b,off,hv,-⟩:=hx.plain.CP;exact Yields.same (by simp[execOp,ho,hv]) h (hv▸hx);obtain⟨b,hv,-⟩:=hx.zn.oW;exact Yields.same (by simp[execOp,ho,hv]) h (hv▸hx);have h1:=hx.plain;generalize hv:a.eval x=v at hx h1;cases h1;exact Yields.same (by simp[execOp,ho,hv]) h hx;generalize hv:a.eval x=v at hx;have hx':=hx;cases hx';exact Yields.same (by simp[execOp,ho,hv]) h hx;simp_all
theorem ua {P:Program}{w:World}{b off:Nat}{g:Field}{n:Nat}(h:(Go.sizeOf g.type).run P w=.ok n w)(hn:n≠0):(fieldPlace ⟨b,off,none⟩ g).run P w=.ok ⟨b,off+g.offset,none⟩ w:=by simp[fieldPlace,h,hn,Addr.add_lit]
theorem ET (hs:bp E G S a w){s:TypeId}{x:Operand}{f:Nat}(ho:o.op=.fieldAddr s x f)(h:nu E.C s (S.val x) f K):Yields E G a w o K:=by have hx:=aT.val hs x;generalize S.val x=vx at h hx;unfold nu at h;split at h;rename_i hi;split at h;simp_all;rename_i off' t r hd;obtain⟨gs,g,h1,h2,h3,h4⟩:=(E.C.ok hi).field hd;split at h;simp_all;rename_i j hj;split at h;simp_all;rename_i n hn;have hsz:=(E.C.ok hj).sizeOf w;rw[<-h4]at hsz;split at h;rename_i b0 off;obtain⟨b,hv,hl⟩:=hx.oW;refine Yields.same (v:=.pointer (some ⟨b,off+off',none⟩)) ?_ h (.ptr _ _ _ hl);simp[execOp,ho,hv,Instr.fieldAt,run_underlying h1,h2,Instr.sureAddr,ua hsz oO,h3];rename_i xs;obtain⟨b,off,hv,hc⟩:=hx.plain.CP;refine Yields.same (v:=.pointer (some ⟨b,off+off',none⟩)) ?_ h (.p _ _ (dh.Tk λk y hy=>?_));simp[execOp,ho,hv,Instr.fieldAt,run_underlying h1,h2,Instr.sureAddr,ua hsz oO,h3];rw[nw,lV]at hy;grind;rename_i b0 base off;obtain⟨b,hv,hl⟩:=hx.zn.oW;refine Yields.same (v:=.pointer (some ⟨b,base+(off+off'),none⟩)) ?_ h (.ij _ _ _ _ hl);simp[execOp,ho,hv,Instr.fieldAt,run_underlying h1,h2,Instr.sureAddr,ua hsz oO,h3,gj];simp_all;simp_all
theorem CW {P:Program}{w:World}{t:TypeId}{i:jX}(hok:fJ P t i)(hagg:i.shape.isAgg=true)(cs:Array Value)(off:Nat):(part t cs off).run P w=.ok (.agg (cs.extract off (off+i.size))) w:=by simp[part,hok.isAgg,hagg,hok.sizeOf]
theorem CX {P:Program}{w:World}{t:TypeId}{i:jX}(hok:fJ P t i)(hagg:i.shape.isAgg=false)(cs:Array Value)(off:Nat)(v:Value)(hv:cs[off]?=some v):(part t cs off).run P w=.ok v w:=by simp[part,hok.isAgg,hagg,hv]
theorem Nv (hs:bp E G S a w){s:TypeId}{x:Operand}{f:Nat}(ho:o.op=.field s x f)(h:wR E.C s (S.val x) f K):Yields E G a w o K:=by
 have hx:=aT.val hs x;generalize S.val x=vx at h hx;unfold wR at h;split at h;rename_i hi;split at h;simp_all;rename_i off' t r hd;obtain⟨gs,g,h1,h2,h3,h4⟩:=(E.C.ok hi).field hd;split at h;simp_all;rename_i j hj;have hok:=E.C.ok hj;subst h3;subst h4;split at h;rename_i xs;generalize hv:a.eval x=v at hx;cases hx with
 |agg cs xs hl hc=>
  split at h;rename_i hagg;split at h;rename_i ys hys;rw[nw]at hys;obtain⟨rfl,hle⟩:=xh hys;refine Yields.same (v:=.agg ((cs.drop g.offset).take j.size).toArray) ?_ h (.agg _ _ (by grind) λk c y hk hy=>?_);have e1:cs.toArray.extract g.offset (g.offset+j.size)=((cs.drop g.offset).take j.size).toArray:=by simp[xk,xl]
  simp[execOp,ho,hv,Instr.field,run_underlying h1,h2,asAgg,CW hok hagg,e1];grind;simp_all;rename_i hagg;split at h;rename_i y ys hys;have hy:=lY hys;have hlt:g.offset<cs.length:=by rw[hl];exact(aG.1 hy).1
  refine Yields.same (v:=cs[g.offset]) ?_ h (hc _ _ _ (av hlt) hy);simp[execOp,ho,hv,Instr.field,run_underlying h1,h2,asAgg,CX hok hagg cs.toArray g.offset cs[g.offset] (by simp_all)];simp_all
 rename_i xs;have hx:=hx.plain;generalize hv:a.eval x=v at hx;cases hx with
 |agg cs xs hl hone hc=>
  split at h;rename_i hagg;split at h;rename_i ys hys;rw[nw]at hys;obtain⟨rfl,hle⟩:=BG hys;refine Yields.same (v:=.agg ((cs.drop g.offset).take j.size).toArray) ?_ h (.p _ _ (.agg _ _ (by grind) (λz hz=>hone z (xm (sW hz))) λk c y hk hy=>?_));have e1:cs.toArray.extract g.offset (g.offset+j.size)=((cs.drop g.offset).take j.size).toArray:=by simp[xk,xl]
  simp[execOp,ho,hv,Instr.field,run_underlying h1,h2,asAgg,CW hok hagg,e1];grind;simp_all;rename_i hagg;split at h;rename_i y ys hys;have hy:=lY hys;have hlt:g.offset<cs.length:=by rw[hl];exact(aG.1 hy).1
  refine Yields.same (v:=cs[g.offset]) ?_ h (.p _ _ (hc _ _ _ (av hlt) hy));simp[execOp,ho,hv,Instr.field,run_underlying h1,h2,asAgg,CX hok hagg cs.toArray g.offset cs[g.offset] (by simp_all)];simp_all
 simp_all;simp_all
theorem gF {P:Program}{w:World}(k:IntKind)(n:Int):(asIntOf (.int k n)).run P w=.ok (k,n) w:=rfl
theorem EU (hs:bp E G S a w){t:TypeId}{x i:Operand}(ho:o.op=.indexAddr t x i)(h:jB E.C S.aN t (S.val x) (S.val i) K):Yields E G a w o K:=by
 have hx:=aT.val hs x;have hi:=aT.val hs i;generalize S.val x=vx at h hx;generalize S.val i=vi at h hi;unfold jB at h;split at h;rename_i k n;have ei:=hi.fN;split at h;rename_i e _ ht;have hu:=(E.C.ok ht).slice;split at h;simp_all;rename_i j hj;have hsz:=(E.C.ok hj).sizeOf w;split at h;rename_i ob T bP;split at h;rename_i cells hcells hbe;obtain⟨m,base,rfl,rfl,hle,h⟩:=h;have hbe:=aP hbe;generalize hv:a.eval x=v at hx;cases hx with
 |fe _ _ _ n c b h1 h2 h3 h4=>
  obtain⟨-,-,h5⟩:=hs.cE _ _ _ _ h1 h2;have h6:=h5 cells hcells;simp only at h6;have hlt:m<n:=by
   rw[h6]at hle;have :(m+1)*bP<=n*bP:=by rw[bC,kn];exact hle
   exact Nat.le_of_mul_le_mul_right this h4
  refine Yields.same (v:=.pointer (some ⟨b,m*bP+0,none⟩)) ?_ h (.ij _ _ _ _ h1);have hin:(0:Int)<=(m:Int)/\(m:Int)<(n:Int):=⟨oO,oO⟩;simp[execOp,ho,ei,hv,Instr.indexAt,gF,run_underlying hu,hin,hsz,Addr.add_lit,hbe]
 simp_all;rename_i ob bx T bP;split at h;rename_i cells hcells hbe;obtain⟨m,base,rfl,rfl,hle,h⟩:=h;have hbe:=aP hbe;generalize hv:a.eval x=v at hx;cases hx with
 |uH _ _ _ _ n c b off h1 h2 h0 h3 h4=>
  obtain⟨-,-,h5⟩:=hs.cE _ _ _ _ h1 h2;have h6:=h5 cells hcells;simp only at h6;have hlt:bx+m<n:=by
   rw[h6]at hle;have :(bx+m+1)*bP<=n*bP:=by rw[bC (bx+m) 1,kn];exact hle
   exact Nat.le_of_mul_le_mul_right this h4
  obtain rfl:=h0.2 oO;refine Yields.same (v:=.pointer (some ⟨b,(bx+m)*bP+0,none⟩)) ?_ h (.ij _ _ _ _ h1);have hin:(0:Int)<=(m:Int)/\(m:Int)<((n-bx:Nat):Int):=⟨oO,oO⟩;have ann:bx*bP+m*bP=(bx+m)*bP:=by rw[bC]
  simp[execOp,ho,ei,hv,Instr.indexAt,gF,run_underlying hu,hin,hsz,Addr.add_lit,hbe];simp_all
 simp_all;split at h;simp_all;rename_i xs hxs;obtain⟨h0,ys,hys,hlen,h⟩:=h;obtain⟨ad,c,hv,hcap,hne⟩:=(hx.elems hxs).lD;have hlt:n.toNat<xs.length:=(aG.1 hys).1;obtain⟨b,off,bP,cell,rfl,h1,h2⟩:=hne (by grind);have ZZ:bP=j.size:=(h1 _ _ hys).symm.trans hlen;refine Yields.same (v:=.pointer (some ⟨b,off+n.toNat*bP,none⟩)) ?_ h (.p _ _ (dh.Tk λm y hy=>?_));have hin:0<=n/\n<(xs.length:Int):=⟨h0,oO⟩;simp[execOp,ho,ei,hv,Instr.indexAt,gF,run_underlying hu,hin,hsz,Addr.add_lit,ZZ];grind;rename_i len e _ ht;have hu:=(E.C.ok ht).array;split at h;simp_all;rename_i j hj;have hsz:=(E.C.ok hj).sizeOf w;obtain⟨m,rfl,hm,h⟩:=h;have hin:(0:Int)<=(m:Int)/\(m:Int)<(len:Int):=⟨oO,oO⟩;split at h;rename_i b0 off;obtain⟨b,hv,hl⟩:=hx.oW;obtain⟨sym,h⟩:=h;cases sym with
 |true=>obtain⟨base,rfl,h⟩:=h;exact Yields.same (v:=.pointer (some ⟨b,off+m*j.size+0,none⟩)) (by simp[execOp,ho,ei,hv,Instr.indexAt,gF,run_underlying hu,Instr.sureAddr,hin,hsz,Addr.add_lit]) h (.ij _ _ _ _ hl)
 |false=>exact Yields.same (v:=.pointer (some ⟨b,off+m*j.size,none⟩)) (by simp[execOp,ho,ei,hv,Instr.indexAt,gF,run_underlying hu,Instr.sureAddr,hin,hsz,Addr.add_lit]) h (.ptr _ _ _ hl)
 rename_i b0 b1 off;obtain⟨b,hv,hl⟩:=hx.zn.oW;obtain⟨base,rfl,h⟩:=h;refine Yields.same (v:=.pointer (some ⟨b,b1+(off+m*j.size)+0,none⟩)) ?_ h (.ij _ _ _ _ hl);simp[execOp,ho,ei,hv,Instr.indexAt,gF,run_underlying hu,Instr.sureAddr,hin,hsz,Addr.add_lit,gj];rename_i xs;obtain⟨b,off,hv,hc⟩:=hx.plain.CP;obtain⟨ys,rfl,h⟩:=h;refine Yields.same (v:=.pointer (some ⟨b,off+m*j.size,none⟩)) ?_ h (.p _ _ (dh.Tk λk y hy=>?_));simp[execOp,ho,ei,hv,Instr.indexAt,gF,run_underlying hu,Instr.sureAddr,hin,hsz,Addr.add_lit];rw[nw,lV]at hy;grind;simp_all;simp_all;simp_all
theorem Nw (hs:bp E G S a w){t:TypeId}{x i:Operand}(ho:o.op=.index t x i)(h:wT E.C t (S.val x) (S.val i) K):Yields E G a w o K:=by
 have hx:=aT.val hs x;have hi:=aT.val hs i;generalize S.val x=vx at h hx;generalize S.val i=vi at h hi;unfold wT at h;split at h;rename_i k n;have ei:=hi.fN;split at h;rename_i ht;have hu:=(E.C.ok ht).str;split at h;rename_i s;have ex:=hx.jR;obtain⟨h0,c,hc,h⟩:=h;have hlt:=(aG.1 hc).1;have hg:(⟨s.toArray⟩:ByteArray)[n.toNat]?=some c:=by
  have :n.toNat<(⟨s.toArray⟩:ByteArray).size:=by simpa[ByteArray.size]using hlt
  refine(getElem?_pos (⟨s.toArray⟩:ByteArray) n.toNat this).trans ?_;have h2:=aG.1 hc;simpa[ByteArray.getElem_eq_getElem_data]using h2.2
 exact Yields.same (v:=.int .u8 c.toNat) (by simp[execOp,ho,ei,ex,Instr.index,gF,run_underlying hu,h0,hg]) h (.p _ _ (.int _ _));simp_all;rename_i len e _ ht;have hu:=(E.C.ok ht).array;split at h;simp_all;rename_i j hj;have hok:=E.C.ok hj;split at h;rename_i hagg;obtain⟨m,rfl,hm,h⟩:=h;have h0:(0:Int)<=(m:Int):=oO
 split at h;rename_i xs;generalize hv:a.eval x=v at hx;cases hx with
 |agg cs xs hl hc=>
  split at h;rename_i ys hys;rw[nw]at hys;obtain⟨rfl,hle⟩:=xh hys;refine Yields.same (v:=.agg ((cs.drop (m*j.size)).take j.size).toArray) ?_ h (.agg _ _ (by grind) λk c y hk hy=>?_);have e1:cs.toArray.extract (m*j.size) (m*j.size+j.size)=((cs.drop (m*j.size)).take j.size).toArray:=by simp[xk,xl]
  simp[execOp,ho,hv,ei,Instr.index,gF,run_underlying hu,h0,hm,hok.sizeOf,CW hok hagg,e1];grind;simp_all
 rename_i xs;have hx:=hx.plain;generalize hv:a.eval x=v at hx;cases hx with
 |agg cs xs hl hone hc=>
  split at h;rename_i ys hys;rw[nw]at hys;obtain⟨rfl,hle⟩:=BG hys;refine Yields.same (v:=.agg ((cs.drop (m*j.size)).take j.size).toArray) ?_ h (.p _ _ (.agg _ _ (by grind) (λz hz=>hone z (xm (sW hz))) λk c y hk hy=>?_));have e1:cs.toArray.extract (m*j.size) (m*j.size+j.size)=((cs.drop (m*j.size)).take j.size).toArray:=by simp[xk,xl]
  simp[execOp,ho,hv,ei,Instr.index,gF,run_underlying hu,h0,hm,hok.sizeOf,CW hok hagg,e1];grind;simp_all
 simp_all;rename_i hagg;obtain⟨m,rfl,hm,h⟩:=h;have h0:(0:Int)<=(m:Int):=oO
 have h1:(m:Int)<(len:Int):=oO
 split at h;rename_i xs;generalize hv:a.eval x=v at hx;cases hx with
 |agg cs xs hl hc=>
  split at h;rename_i y ys hys;have hy:=lY hys;have hlt:m*j.size<cs.length:=by rw[hl];exact(aG.1 hy).1
  refine Yields.same (v:=cs[m*j.size]) ?_ h (hc _ _ _ (av hlt) hy);simp[execOp,ho,hv,ei,Instr.index,gF,run_underlying hu,h0,hm,hok.sizeOf,CX hok hagg cs.toArray (m*j.size) cs[m*j.size] (by simp_all)];simp_all
 rename_i xs;have hx:=hx.plain;generalize hv:a.eval x=v at hx;cases hx with
 |agg cs xs hl hone hc=>
  split at h;rename_i y ys hys;have hy:=lY hys;have hlt:m*j.size<cs.length:=by rw[hl];exact(aG.1 hy).1
  refine Yields.same (v:=cs[m*j.size]) ?_ h (.p _ _ (hc _ _ _ (av hlt) hy));simp[execOp,ho,hv,ei,Instr.index,gF,run_underlying hu,h0,hm,hok.sizeOf,CX hok hagg cs.toArray (m*j.size) cs[m*j.size] (by simp_all)];simp_all
 simp_all;simp_all;simp_all
theorem Il (hs:bp E G S a w){x:Operand}{i:Nat}(ho:o.op=.extract x i)(h:match S.val x with
 |.eV xs=>match fT i xs with|y::_=>K y|[]=>False
 |.p (.eV xs)=>match fT i xs with|y::_=>K (.p y)|[]=>False
 |_=>False):Yields E G a w o K:=by
 have hx:=aT.val hs x;generalize S.val x=vx at h hx;split at h;generalize hv:a.eval x=v at hx;cases hx with
 |eV cs xs hl hc=>
  split at h;rename_i y ys hys;have hy:=lY hys;have hlt:i<cs.length:=by rw[hl];exact(aG.1 hy).1
  exact Yields.same (v:=cs[i]) (by simp[execOp,ho,hv,Instr.extract,hlt]) h (hc _ _ _ (av hlt) hy);simp_all
 have hx:=hx.plain;generalize hv:a.eval x=v at hx;cases hx with
 |eV cs xs hl hc=>
  split at h;rename_i y ys hys;have hy:=lY hys;have hlt:i<cs.length:=by rw[hl];exact(aG.1 hy).1
  exact Yields.same (v:=cs[i]) (by simp[execOp,ho,hv,Instr.extract,hlt]) h (.p _ _ (hc _ _ _ (av hlt) hy));simp_all
 simp_all
end
section
variable {E:Env}{G:aV}{S:ai}{a:Act}{w:World}{o:Oper}{K:FV->Prop}
theorem pM (hs:bp E G S a w){x:Option Operand}{d:Nat}{K:Nat->Prop}(h:uI (x.map S.val) d K):∃m,K m/\((x=none/\m=d)\/∃y k,x=some y/\a.eval y=.int k m):=by
 cases x with
 |none=>exact⟨d,h,.inl ⟨rfl,rfl⟩⟩
 |some y=>have hy:=aT.val hs y;simp only[eA,uI]at h;generalize S.val y=vy at h hy;split at h;simp_all;rename_i k n heq;obtain rfl:=au heq;obtain⟨m,rfl,h⟩:=h;exact⟨m,h,.inr ⟨y,k,rfl,hy.fN⟩⟩;simp_all
theorem mG {P:Program}{w:World}(isSlice:Bool)(len cap:Nat)(lo hi:Option Value)(l h:Nat)(hl:l<=h)(hh:h<=cap)(h1:(lo=none/\l=0)\/∃k:IntKind,lo=some (.int k l))(h2:(hi=none/\h=len)\/∃k:IntKind,hi=some (.int k h)):(Instr.sliceBounds isSlice len cap lo hi none).run P w=.ok (l,h,cap) w:=by
 have b1:∀(k:IntKind)(m y:Nat)(c:BoundsCode),m<=y->(Instr.sliceBound (.int k m) y c).run P w=.ok m w:=λk m y c hm=>by have :(0:Int)<=(m:Int)/\(m:Int)<=(y:Int):=⟨oO,oO⟩;simp[Instr.sliceBound,gF,this]
 rcases h2 with⟨rfl,rfl⟩|⟨k2,rfl⟩<;>rcases h1 with⟨rfl,rfl⟩|⟨k1,rfl⟩;rfl;simp[Instr.sliceBounds,b1 k1 l _ _ hl];simp[Instr.sliceBounds,b1 k2 h _ _ hh];simp[Instr.sliceBounds,b1 k2 h _ _ hh,b1 k1 l _ _ hl]
theorem lE {a:Act}{x:Option Operand}{m d:Nat}(h:(x=none/\m=d)\/∃y k,x=some y/\a.eval y=.int k m):(x.map a.eval=none/\m=d)\/∃k:IntKind,x.map a.eval=some (.int k m):=by grind
theorem Bl (s:List UInt8)(l h:Nat)(hh:h<=s.length):(⟨s.toArray⟩:ByteArray).extract l h=⟨((s.take h).drop l).toArray⟩:=by apply ByteArray.ext;rw[ByteArray.data_extract];grind
theorem Nx (hs:bp E G S a w){t:TypeId}{x:Operand}{lo hi:Option Operand}(ho:o.op=.slice t x lo hi none)(h:Nj E.C t (S.val x) (lo.map S.val) (hi.map S.val) K):Yields E G a w o K:=by
 have hx:=aT.val hs x;generalize S.val x=vx at h hx;unfold Nj at h;split at h;rename_i ht;have hu:=(E.C.ok ht).str;split at h;rename_i s;have ex:=hx.jR;obtain⟨m,h,h2⟩:=pM hs h;obtain⟨l,⟨hl,hm,s',rfl,h⟩,h1⟩:=pM hs h;have hsz:(⟨s.toArray⟩:ByteArray).size=s.length:=by simp[ByteArray.size]
 have hb:=mG (P:=E.C.P) (w:=w) false s.length s.length _ _ l m hl hm (lE h1) (lE h2);refine Yields.same (v:=.string ⟨((s.take m).drop l).toArray⟩) ?_ h (.p _ _ (.str _));simp[execOp,ho,ex,Instr.sliceAt,run_underlying hu,Instr.slice,hsz,hb,Bl s l m hm];simp_all;rename_i e _ ht;have hu:=(E.C.ok ht).slice;split at h;simp_all;rename_i j hj;have hjs:=(E.C.ok hj).sizeOf w;split at h;simp_all;rename_i xs hxs;obtain⟨ad,c,hv,hcap,hne⟩:=(hx.elems hxs).lD;obtain⟨m,h,h2⟩:=pM hs h;obtain⟨l,⟨hl,hm,hall,s',rfl,h⟩,h1⟩:=pM hs h;have hb:=mG (P:=E.C.P) (w:=w) true xs.length c _ _ l m hl oO (lE h1) (lE h2);have hrun:(execOp a.eval o).run E.C.P w=.ok (.value (.slice (if c=l then ad else ad.map (·.add (l*j.size))) (m-l) (c-l))) w:=by simp[execOp,ho,hv,Instr.sliceAt,run_underlying hu,Instr.slice,hb,hjs]
 have hlen:((xs.take m).drop l).length=m-l:=by simp;omega
 refine Yields.same hrun h (.p _ _ ?_);by_cases hz:m-l=0;have :(xs.take m).drop l=[]:=bK.1 oO;rw[this,hz];exact .Xi _ _;obtain⟨b,off,bP,cell,rfl,g1,g2⟩:=hne (by grind);have hpos:0<xs.length:=oO
 have ZZ:bP=j.size:=(g1 0 _ (av hpos)).symm.trans (hall _ (aK hpos));have jH:¬c=l:=oO
 rw[aa jH,<-hlen];simp only[eA,Addr.add_lit,<-ZZ];refine dh.PZ oO (bP:=bP) (λi ys hys=>?_) (λi ys k y hys hy=>?_);grind;grind;rename_i len e _ ht;have hu:=(E.C.ok ht).array;split at h;simp_all;rename_i j hj;have hjs:=(E.C.ok hj).sizeOf w;split at h;rename_i xs;obtain⟨b,off,hv,hc⟩:=hx.plain.CP;obtain⟨m,h,h2⟩:=pM hs h;obtain⟨l,⟨hl,hm,hj1,hxl,s',rfl,h⟩,h1⟩:=pM hs h;have hb:=mG (P:=E.C.P) (w:=w) false len len _ _ l m hl hm (lE h1) (lE h2);have hrun:(execOp a.eval o).run E.C.P w=.ok (.value (.slice (some (if len=l then⟨b,off,none⟩else(⟨b,off,none⟩:Addr).add (l*j.size))) (m-l) (len-l))) w:=by simp[execOp,ho,hv,Instr.sliceAt,Instr.sureAddr,run_underlying hu,hb,hjs]
 have hlen:(((xs.take m).drop l).map λx=>[x]).length=m-l:=by simp;omega
 refine Yields.same hrun h (.p _ _ ?_);by_cases hz:m-l=0;have :(((xs.take m).drop l).map λx=>[x])=[]:=bK.1 oO;rw[this,hz];exact .Xi _ _;rw[aa oO,<-hlen];simp only[Addr.add_lit,hj1];refine dh.PZ oO (bP:=1) (λi ys hys=>?_) (λi ys k y hys hy=>?_);grind;rw[aR]at hys;cases hq:((xs.take m).drop l)[i]?with
 |none=>simp_all
 |some q=>simp[hq]at hys;subst hys;match k,hy with|0,hy=>grind
 simp_all;simp_all
theorem zq (hs:bp E G S a w){b:Builtin}{args:Array Operand}{types:Array TypeId}(ho:o.op=.call ⟨.builtin b,args,types⟩)(h:jJ E.C S.aN b (args.toList.map S.val) types.toList K):Yields E G a w o K:=by
 have hx:=λx=>aT.val hs x;obtain⟨args⟩:=args;obtain⟨types⟩:=types;simp only at h;unfold jJ at h;split at h;split at h;rename_i x t hargs;cases args with
 |nil=>simp_all
 |cons y args=>
  cases args with
  |cons z args=>simp_all
  |nil=>
   simp only[cS,iN,ko,and_true]at hargs;have hy:=hx y;rw[hargs]at hy;split at h;simp_all;rename_i ht;have hu:=(E.C.ok ht).str;split at h;rename_i s;have ey:=hy.jR;have hsz:(⟨s.toArray⟩:ByteArray).size=s.length:=by simp[ByteArray.size]
   exact Yields.same (v:=.int .i64 s.length) (by simp[execOp,ho,resolve,invoke,builtin,ey,Builtin.len_,run_underlying hu,hsz,goInt]) h (.p _ _ (.int _ _));simp_all;rename_i e _ ht;have hu:=(E.C.ok ht).slice;split at h;rename_i ob T bP;split at h;rename_i cells hcells;obtain⟨n,hn,h⟩:=h;generalize hv:a.eval y=v at hy;cases hy with
   |fe _ _ _ n' c b h1 h2 h3 h4=>obtain⟨-,-,h5⟩:=hs.cE _ _ _ _ h1 h2;have h6:=h5 cells hcells;simp only at h6;obtain rfl:n=n':=gm h4 (hn.symm.trans h6);exact Yields.same (v:=.int .i64 n) (by simp[execOp,ho,resolve,invoke,builtin,hv,Builtin.len_,run_underlying hu,goInt]) h (.p _ _ (.int _ _))
   simp_all;rename_i ob bx T bP;split at h;rename_i cells hcells;obtain⟨n,hn,h⟩:=h;generalize hv:a.eval y=v at hy;cases hy with
   |uH _ _ _ _ n' c b off h1 h2 h0 h3 h4=>
    obtain⟨-,-,h5⟩:=hs.cE _ _ _ _ h1 h2;have h6:=h5 cells hcells;simp only at h6;have e:bx+n=n':=gm h4 (hn.symm.trans h6);obtain rfl:n=n'-bx:=oO
    exact Yields.same (v:=.int .i64 ((n'-bx:Nat):Int)) (by simp[execOp,ho,resolve,invoke,builtin,hv,Builtin.len_,run_underlying hu,goInt]) h (.p _ _ (.int _ _))
   simp_all;split at h;rename_i xs hxs;obtain⟨ad,c,hv,hcap,hne⟩:=(hy.elems hxs).lD;exact Yields.same (v:=.int .i64 xs.length) (by simp[execOp,ho,resolve,invoke,builtin,hv,Builtin.len_,run_underlying hu,goInt]) h (.p _ _ (.int _ _));simp_all;simp_all
 simp_all
 ·split at h
  ·rename_i k m k' n hargs;cases args with
   |nil=>simp_all
   |cons y args=>
    cases args with
    |nil=>simp_all
    |cons z args=>
     cases args with
     |cons z args=>simp_all
     |nil=>
      simp only[cS,iN,ko,and_true]at hargs;have hy:=hx y;have hz:=hx z;rw[hargs.1]at hy;rw[hargs.2]at hz;have ey:=hy.fN;have ez:=hz.fN;split at h;case h_2=>simp_all
      rename_i hk;obtain rfl:=rV hk;obtain⟨c,rfl,h⟩:=h;exact Yields.same (v:=.int k (if n<m then n else m)) (by simp[execOp,ho,resolve,invoke,builtin,ey,ez,Builtin.min_,Builtin.min2]) h (.p _ _ (.int _ _))
  simp_all
 ·split at h
  ·rename_i k m k' n hargs;cases args with
   |nil=>simp_all
   |cons y args=>
    cases args with
    |nil=>simp_all
    |cons z args=>
     cases args with
     |cons z args=>simp_all
     |nil=>
      simp only[cS,iN,ko,and_true]at hargs;have hy:=hx y;have hz:=hx z;rw[hargs.1]at hy;rw[hargs.2]at hz;have ey:=hy.fN;have ez:=hz.fN;split at h;case h_2=>simp_all
      rename_i hk;obtain rfl:=rV hk;obtain⟨c,rfl,h⟩:=h;exact Yields.same (v:=.int k (if n>m then n else m)) (by simp[execOp,ho,resolve,invoke,builtin,ey,ez,Builtin.max_,Builtin.max2]) h (.p _ _ (.int _ _))
  simp_all
 simp_all
end
end Qv
