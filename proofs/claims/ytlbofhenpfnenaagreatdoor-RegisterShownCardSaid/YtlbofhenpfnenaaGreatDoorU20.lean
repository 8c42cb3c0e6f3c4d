/- Part 20 of the proof: its lemmas. No condition. -/
import Derived.Test.YtlbofhenpfnenaaGreatDoorU19
import Derived.Below
import Derived.Carry
import Derived.ChangeOld
import Derived.ChangeSame
import Derived.Lib.LaidTab
set_option maxRecDepth 10000
set_option maxHeartbeats 80000000
set_option linter.all false
namespace Qv
open Go Go.RowKit Go.WideShapes Go.ChangeShapes Go.WideElems
def Dx (P:Program)(t:TypeId)(xs:List AV):AV:=match P.underlying t with|some (.struct _)=>.agg xs|some (.array _ _)=>.agg xs|_=>xs.headD (.bool false)
theorem Dy {P:Program}{t:TypeId}{u:TypeDesc}{x:AV}(h:P.underlying t=some u)(hu:∀fs,u≠.struct fs)(hu':∀n e,u≠.array n e:=by intro _ _ h;cases h):Dx P t [x]=x:=by unfold Dx;rw[h];cases u<;>first|rfl|exact absurd rfl (hu _)|exact absurd rfl (hu' _ _)
theorem aaG {P:Program}{t:TypeId}{fs:Array Field}{xs:List AV}(h:P.underlying t=some (.struct fs)):Dx P t xs=.agg xs:=by unfold Dx;rw[h]
theorem aiZ {P:Program}{t e:TypeId}{n:Nat}{xs:List AV}(h:P.underlying t=some (.array n e)):Dx P t xs=.agg xs:=by unfold Dx;rw[h]
def NR {H:Type}(P:Program)(t:TypeId)(d:DataW H)(x:AV):Prop:=∃ys,iB P t d ys/\x=Dx P t ys
theorem aee {H:Type}{P:Program}{w:World}{r:Reach}{base:Nat}{t:TypeId}{v:Value}{d:DataW H}{xs:List AV}{aZ:Nat->Nat->Prop}(hv:Value.okWide P w r base t v)(hd:iB P t d xs)(h:yQ aZ w v.cells.toList xs):dh aZ w v (Dx P t xs):=by
 have single:∀{x:AV},xs=[x]->v.cells=#[v]->(∀fs,P.underlying t≠some (.struct fs))->(∀n e,P.underlying t≠some (.array n e))->dh aZ w v (Dx P t xs):=λ{x} hx hc hs hs'=>by subst hx;rw[hc]at h;have h1:=h.2.2 0 v x rfl rfl;unfold Dx;split;rename_i fs hu;exact absurd hu (hs fs);rename_i n e hu;exact absurd hu (hs' n e);exact h1
 cases hd with
 |bool _ b hu=>obtain⟨b',rfl⟩:=okWide_bool hu hv;exact single rfl rfl (by rw[hu];intro _ h;cases h) (by rw[hu];intro _ _ h;cases h)
 |int _ k n hu _=>obtain⟨b',rfl⟩:=okWide_int hu hv;exact single rfl rfl (by rw[hu];intro _ h;cases h) (by rw[hu];intro _ _ h;cases h)
 |str _ s hu=>obtain⟨b',rfl⟩:=okWide_string hu hv;exact single rfl rfl (by rw[hu];intro _ h;cases h) (by rw[hu];intro _ _ h;cases h)
 |nil _ e hu=>obtain⟨a,b,c,rfl⟩:=okWide_slice hu hv;exact single rfl rfl (by rw[hu];intro _ h;cases h) (by rw[hu];intro _ _ h;cases h)
 |slice _ e ds sp xs' hu _ _=>obtain⟨a,b,c,rfl⟩:=okWide_slice hu hv;exact single rfl rfl (by rw[hu];intro _ h;cases h) (by rw[hu];intro _ _ h;cases h)
 |struct _ fs ds pieces hu _ _ _=>obtain⟨cs,rfl,_⟩:=okWide_struct hu hv;unfold Dx;rw[hu];have :=dh.agg (aZ:=aZ) (w:=w) cs.toList pieces.flatten h.1 h.2.1 h.2.2;simpa using this
 |arr _ e n ds pieces hu _ _ _=>simp only[Value.okWide,hu]at hv;obtain⟨cs,rfl,_⟩:=hv;unfold Dx;rw[hu];have :=dh.agg (aZ:=aZ) (w:=w) cs.toList pieces.flatten h.1 h.2.1 h.2.2;simpa using this
theorem aaH {H:Type}{enc:TypeId×Value->H}{P:Program}{w:World}{r:Reach}{base:Nat}{held:Bool}{spare:Nat->Bool}{ts:List TypeId}(hl:laidOutB P=true)(hf:BM P ts=true){us:List TypeId}{vs:List Value}{ds:List (DataW H)}{ps:List MemPlace}(hm:∀u,u∈us->u∈ts)(h:DataW.TrodAll enc P w 0 spare held us vs ds ps)(hv:∀(j:Nat)(t:TypeId)(v:Value),us[j]?=some t->vs[j]?=some v->Value.okWide P w r base t v):∃xs:List AV,vs.length=xs.length/\xs.length=us.length/\ds.length=us.length/\(∀(i:Nat)(u:TypeId)(d:DataW H)(x:AV),us[i]?=some u->ds[i]?=some d->xs[i]?=some x->NR P u d x)/\∀(i:Nat)(v:Value)(x:AV),vs[i]?=some v->xs[i]?=some x->dh (λb _=>b<w.heap.size) w v x:=by
 obtain⟨k1,k2,k3⟩:=Gq hl hf us vs ds ps hm h;have each:∀i,i<us.length->∃x,∀(u:TypeId)(v:Value)(d:DataW H),us[i]?=some u->vs[i]?=some v->ds[i]?=some d->NR P u d x/\dh (λb _=>b<w.heap.size) w v x:=λi hi=>by obtain⟨xs,g1,g2⟩:=k3 i us[i] (vs[i]'oO) (ds[i]'oO) (av hi) (av _) (av _);refine⟨Dx P us[i] xs,λu v d hu Xu hd=>?_⟩;rw[av hi]at hu;rw[av oO]at Xu hd;obtain rfl:=au hu;obtain rfl:=au Xu;obtain rfl:=au hd;exact⟨⟨xs,g1,rfl⟩,aee (hv i _ _ (av hi) (av _)) g1 g2⟩
 obtain⟨l,NI,Ge⟩:=uT us.length _ each;refine⟨l,oO,NI,k2,λi u d x hu hd hx=>?_,λi v x Xu hx=>?_⟩;have hi:i<us.length:=(aG.1 hu).1;exact(Ge i x hx u (vs[i]'oO) d hu (av _) hd).1;have hi:i<us.length:=by have :=(aG.1 hx).1;omega
 exact(Ge i x hx us[i] v (ds[i]'oO) (av hi) Xu (av _)).2
def AG (P:Program)(ns:List String):Bool:=ns.all λn=>((P.globalNamed n).bind (P.globals[·]?)).all λgl=>P.readableRec gl.type&&decide (gl.type<P.types.size)
section
variable {H:Type}{enc:TypeId×Value->H}{P:Program}
theorem LN (hl:laidOutB P=true){W W':World}(hb:Below W.heap.size W W'){sp:Nat->Bool}:∀{ts:List TypeId}{vs:List Value}{ds:List (DataW H)}{ps:List MemPlace},(ts.all λt=>P.readableRec t&&decide (t<P.types.size))=true->(∀x∈ps,x.block<W.heap.size)->(∀x∈ps,sp x.block=true)->DataW.TrodAll enc P W 0 (λ_=>true) true ts vs ds ps->DataW.TrodAll enc P W' 0 sp true ts vs ds ps
 |[],[],[],_,_,_,_,h=>h
 |t::ts,v::vs,d::ds,ps,hr,hlt,hs,⟨p,q,h1,h2,e⟩=>by
  simp only[List.all_cons,aW,decide_eq_true_eq]at hr;have m1:∀x∈p,x∈ps:=λx hx=>by rw[e];exact gY _ hx
  have m2:∀x∈q,x∈ps:=λx hx=>by rw[e];exact xG _ hx
  exact⟨p,q,WideElems.Trod_stays hl hr.1.1 hr.1.2 h1 (λx hx=>hb.same (hlt x (m1 x hx))) (λx hx=>hs x (m1 x hx)),LN hl hb hr.2 (λx hx=>hlt x (m2 x hx)) (λx hx=>hs x (m2 x hx)) h2,e⟩
theorem LO (hl:laidOutB P=true){W W':World}(hb:Below W.heap.size W W'){sp:Nat->Bool}:∀{ns:List String}{gs:List (DataW H)}{ps:List MemPlace},AG P ns=true->(∀x∈ps,sp x.block=true)->DataW.TrodVars enc P W (λ_=>true) ns gs ps->DataW.TrodVars enc P W' sp ns gs ps
 |[],[],_,_,_,h=>h
 |[],_::_,_,_,_,h=>h.elim
 |_::_,[],_,_,_,h=>h.elim
 |n::ns,d::ds,ps,hv,hsp,h=>by
  have hlt:=h.lt;obtain⟨g,t,cs,fuel,p,q,h1,h2,h3,h4,hs,e⟩:=h;simp only[AG,List.all_cons,aW]at hv;have ht:P.readableRec t=true/\t<P.types.size:=by
   have :=hv.1;rw[h1]at this;cases hg:P.globals[g]?with
   |none=>rw[hg]at h2;cases h2
   |some gl=>rw[hg]at h2;obtain rfl:gl.type=t:=au h2;simpa[hg]using this
  have hp:∀x∈p,x.block<W.heap.size:=λx hx=>hlt x (by rw[e];simp[hx]);have h3':W'.var? P n=some cs:=by
   unfold World.var? at h3⊢;rw[h1]at h3⊢;simp only[nR]at h3⊢;have hg:g<W.heap.size:=by
    cases hh:W.heap[g]?with
    |none=>rw[hh]at h3;cases h3
    |some o=>exact(bB.1 hh).1
   rw[hb.block g hg];exact h3
  exact⟨g,t,cs,fuel,p,q,h1,h2,h3',DataW.trod_stays (kids_book hl ht.1) (book_sized ht.1) (λh=>by cases h) ⟨ht.2,book_self t⟩ h4 (λx hx=>hb.same (hp x hx)) (λx hx=>hsp x (by rw[e];simp[hx])),LO hl hb (by simpa[AG]using hv.2) (λx hx=>hsp x (by rw[e];simp[hx])) hs,e⟩
theorem TI {f:Func}{s:ChangeSpec}{apart fresh handsOn again:Bool}{W W':World}{args:Array Value}{v:Value}{ds gs:List (DataW H)}{before pa pv:List MemPlace}(hW:DataW.Whole enc P f.params.toList s.vars apart W args.toList ds gs before)(hres:∀(b:Nat)(sp:Nat->Bool)(hd:Bool),DataW.TrodAll enc P W' b sp hd f.resultTypes.toList (v.resultList f.resultTypes.size) (s.fn H (ds++gs)).results [])(hargs:∀sp:Nat->Bool,(∀p∈before,sp p.block=true)->DataW.TrodAll enc P W' 0 sp true f.params.toList args.toList (s.fn H (ds++gs)).args pa)(hvars:∀sp:Nat->Bool,(∀p∈before,sp p.block=true)->DataW.TrodVars enc P W' sp s.vars (s.fn H (ds++gs)).vars pv)(hps:before=pa++pv)(hb:Below W.heap.size W W')(hok:∀(j:Nat)(t:TypeId)(r:Value),f.resultTypes[j]?=some t->(v.resultList f.resultTypes.size)[j]?=some r->Value.okWide P W' .any 0 t r):s.post enc P f apart fresh handsOn again W args v W':=by
 have hlt:∀p∈before,p.block<W.heap.size:=λp hp=>hW.lt p hp;have hold:∀p∈before,(λb=>decide (b<W.heap.size)) p.block=true:=λp hp=>by simpa using hlt p hp
 refine⟨ds,gs,before,[],pa,pv,hW,hres _ _ _,hargs _ hold,hvars _ hold,World.keptBut_mono (λp hp=>⟨hp,?_⟩) (hb.frame (·∈before)),λ_=>?_⟩;rw[hps,bh]at hp;exact Or.inr hp;obtain⟨_,_,_,_,_,hz,hn⟩:=hW;refine⟨hok,_,_,([]++pa)++pv,⟨[]++pa,pv,trodAll_append (hargs _ (λ_ _=>rfl)) (hres _ _ _),hvars _ (λ_ _=>rfl),rfl,?_,?_⟩,?_⟩;intro b off hp;have hin:MemPlace.cell b off∈before:=by rw[hps];simpa using hp
 rw[hb.frozen (hlt _ hin)];exact hz b off hin;intro ha;have :=hn ha;rw[hps]at this;simpa using this;intro p hp _;rw[hps];simpa using hp
end
theorem tO {H:Type}{enc:TypeId×Value->H}{Cx:Ctx}{fid:FuncId}{f:Func}{s:ChangeSpec}{apart fresh handsOn again:Bool}{W:World}{base:Nat}{args:Array Value}{ds gs:List (DataW H)}{before:List MemPlace}{ts:List TypeId}{tb:TypeId}{r:Reach}(hl:laidOutB Cx.P=true)(hf:BM Cx.P ts=true)(hsub:f.params.toList.all (λu=>ts.contains u)=true)(hread:(f.params.toList.all λt=>Cx.P.readableRec t&&decide (t<Cx.P.types.size))=true)(hvars:AG Cx.P s.vars=true)(hres:f.resultTypes=#[tb])(htb:Cx.P.underlying tb=some .bool)(hspec:(s.fn H (ds++gs)).results=[.lit (.bool true)]/\(s.fn H (ds++gs)).args=ds/\(s.fn H (ds++gs)).vars=gs)(hval:∀(j:Nat) t v,f.params[j]?=some t->args[j]?=some v->Value.okWide Cx.P W r base t v)(hW:DataW.Whole enc Cx.P f.params.toList s.vars apart W args.toList ds gs before)(hJ:Cx.J W/\pz (λb _=>b<W.heap.size) W)(hng:Cx.oG<=W.heap.size)(alc:∀xs:List AV,xs.length=f.params.size->ds.length=f.params.size->(∀(i:Nat)(u:TypeId)(d:DataW H)(x:AV),f.params[i]?=some u->ds[i]?=some d->xs[i]?=some x->NR Cx.P u d x)->ak Cx fid xs (λq=>q=.val (.bool true))):Calls Cx.P fid args W λe W'=>∃v,e=.returned v/\s.post enc Cx.P f apart fresh handsOn again W args v W':=by
 have hW':=hW;obtain⟨p,q,hA,hV,rfl,hfz,KQ⟩:=hW;obtain⟨xs,h1,h2,h3,h4,h5⟩:=aaH hl hf (λu hu=>by have :=bY.1 hsub u hu;simpa using this) hA (r:=r) (base:=base) (λj t v hj hv=>hval j t v (by simpa using hj) (by simpa using hv));obtain⟨_,hc⟩:=alc xs (by simpa using h2) (by simpa using h3) (λi u d x hu hd hx=>h4 i u d x (by simpa using hu) hd hx);have de:=hc (λb _=>b<W.heap.size) W args.toList hJ hng (λb o h=>h) h1 h5;simp only[Dj]at de;refine de.mono λe W' ⟨v,rr,he,hr,ald,hb⟩=>?_;subst hr;have hv:v=.bool true:=by cases ald;rfl
 subst hv;refine⟨_,he,TI (pa:=p) (pv:=q) hW' (λb sp hd=>?_) (λsp hs=>?_) (λsp hs=>?_) rfl hb (ok_one hres rfl (okWide_bool_mk htb _))⟩;rw[hspec.1,hres];exact trodAll_mk1 (shut_bool htb _);rw[hspec.2.1];exact LN hl hb hread (λx hx=>hW'.lt x (gY _ hx)) (λx hx=>hs x (gY _ hx)) hA;rw[hspec.2.2];exact LO hl hb hvars (λx hx=>hs x (xG _ hx)) hV
theorem BN {α β:Type}(enc:α->β):∀(l:List β),(∀x,x∈l->∃a,x=enc a)->∃ls:List α,l=ls.map enc|[],_=>⟨[],rfl⟩|x::l,h=>by obtain⟨a,ha⟩:=h x (by simp);obtain⟨ls,hls⟩:=BN enc l λy hy=>h y (by simp[hy]);exact⟨a::ls,by simp[ha,hls]⟩
section
variable {H:Type}{P:Program}{t:TypeId}{d:DataW H}{xs:List AV}
theorem iB.ny (hu:P.underlying t=some .bool)(h:iB P t d xs):∃b,xs=[.bool b]:=by
 cases h with
 |bool _ b _=>exact⟨b,rfl⟩
 |_=>simp_all
theorem iB.fN {k:IntKind}(hu:P.underlying t=some (.int k))(h:iB P t d xs):∃n,xs=[.int k n]/\(Lit.int k n).wf=true:=by
 cases h with
 |int _ k' n h1 h2=>
  rw[hu]at h1;obtain rfl:k=k':=by simpa using h1
  exact⟨n,rfl,h2⟩
 |_=>simp_all
theorem iB.jR (hu:P.underlying t=some .string)(h:iB P t d xs):∃s,xs=[.str s]:=by
 cases h with
 |str _ s _=>exact⟨s,rfl⟩
 |_=>simp_all
theorem iB.wg {e:TypeId}{α:Type}{enc:α->List AV}(hu:P.underlying t=some (.slice e))(he:∀(d:DataW H)(x:List AV),iB P e d x->∃a,x=enc a)(h:iB P t d xs):∃ls:List α,xs=[.sl (ls.map enc)]:=by
 cases h with
 |nil _ _ _=>exact⟨[],rfl⟩
 |slice _ e' ds sp ys h1 h2 h3=>
  rw[hu]at h1;obtain rfl:e=e':=by simpa using h1
  obtain⟨ls,hls⟩:=BN enc ys λx hx=>by
   obtain⟨i,hi⟩:=iP hx;have hlt:i<ds.length:=by rw[h2];exact(aG.1 hi).1
   exact he _ x (h3 i _ x (av hlt) hi)
  exact⟨ls,by rw[hls]⟩
 |_=>simp_all
theorem iB.aef {e:TypeId}{n:Nat}(hu:P.underlying t=some (.array n e))(h:iB P t d xs):∃(ds:List (DataW H)) (pieces:List (List AV)),d=.agg ds/\xs=pieces.flatten/\ds.length=n/\pieces.length=n/\∀(i:Nat)(d:DataW H)(x:List AV),ds[i]?=some d->pieces[i]?=some x->iB P e d x:=by
 cases h with
 |arr _ e' n' ds pieces h1 h2 h3 h4=>rw[hu]at h1;have h5:=au h1;injection h5 with h5 h6;subst h5;subst h6;exact⟨ds,pieces,rfl,rfl,h2,h3,h4⟩
 |_=>simp_all
theorem iB.xJ {fs:Array Field}(hu:P.underlying t=some (.struct fs))(h:iB P t d xs):∃(ds:List (DataW H)) (pieces:List (List AV)),d=.agg ds/\xs=pieces.flatten/\ds.length=fs.size/\pieces.length=fs.size/\∀(i:Nat)(f:Field)(d:DataW H)(x:List AV),fs.toList[i]?=some f->ds[i]?=some d->pieces[i]?=some x->iB P f.type d x:=by
 cases h with
 |struct _ fs' ds pieces h1 h2 h3 h4=>
  rw[hu]at h1;obtain rfl:fs=fs':=by simpa using h1
  exact⟨ds,pieces,rfl,rfl,by simpa using h2.symm,by simp at h2;omega,h4⟩
 |_=>simp_all
end
mutual def AV.wt:AV->Nat|.str s=>s.length+1|.sl xs=>AV.KW xs+1|.bool _=>1|.int _ _=>1|_=>0 def AV.wtL:List AV->Nat|[]=>0|x::xs=>AV.wt x+AV.wtL xs def AV.KW:List (List AV)->Nat|[]=>0|x::xs=>AV.wtL x+AV.KW xs end
theorem TJ (a b:List AV):AV.wtL (a++b)=AV.wtL a+AV.wtL b:=by
 induction a with
 |nil=>simp[AV.wtL]
 |cons x a ih=>simp[AV.wtL,ih];omega
theorem age (l:List (List AV)):AV.wtL l.flatten=AV.KW l:=by
 induction l with
 |nil=>simp[AV.wtL,AV.KW]
 |cons x l ih=>simp[AV.KW,TJ,ih]
theorem ai0 (l:List (List AV)):AV.KW l=(l.map AV.wtL).sum:=by
 induction l with
 |nil=>rfl
 |cons x l ih=>simp[AV.KW,ih]
theorem aeg:∀(l:List (List AV))(ms:List Nat),ms.length=l.length->(∀(i:Nat)(x:List AV)(m:Nat),l[i]?=some x->ms[i]?=some m->AV.wtL x<=m)->AV.KW l<=ms.sum
 |[],ms,_,_=>by simp[AV.KW]
 |x::l,[],h,_=>by simp at h
 |x::l,m::ms,h,hi=>by have h0:=hi 0 x m rfl rfl;have ih:=aeg l ms (by simpa using h) λi y k hy hk=>hi (i+1) y k (by simpa using hy) (by simpa using hk);simp only[AV.KW,xH];omega
inductive AV.Small (M:Nat):AV->Prop|bool (b:Bool):AV.Small M (.bool b)|int (k:IntKind)(n:Int):AV.Small M (.int k n)|str (s:List UInt8):s.length<=M->AV.Small M (.str s)|sl (xs:List (List AV)):xs.length<=M->(∀ys,ys∈xs->∀y,y∈ys->AV.Small M y)->AV.Small M (.sl xs)
def LP (P:Program)(ts:List TypeId):Bool:=ts.all λt=>match P.underlying t with|some (.slice e)=>decide (0<P.bytesOf e)|_=>true
theorem uq {H:Type}{P:Program}{e:TypeId}:∀{ds:List (DataW H)}{d:DataW H}{n:Nat},d∈ds->n∈d.weights P e->n∈DataW.weightsAll P e ds|x::ds,d,n,h,hn=>by simp only[DataW.weightsAll,bh];rcases aQ.1 h with rfl|h;exact .inl hn;exact .inr (uq h hn)
theorem sK {H:Type}{P:Program}:∀{ts:List TypeId}{ds:List (DataW H)}{i:Nat}{t:TypeId}{d:DataW H}{n:Nat},ts[i]?=some t->ds[i]?=some d->n∈d.weights P t->n∈DataW.weightsEach P ts ds
 |[],ds,i,t,d,n,h1,h2,h3=>by simp at h1
 |u::ts,[],i,t,d,n,h1,h2,h3=>by simp at h2
 |u::ts,x::ds,0,t,d,n,h1,h2,h3=>by simp at h1 h2;subst h1;subst h2;simp[DataW.weightsEach,h3]
 |u::ts,x::ds,i+1,t,d,n,h1,h2,h3=>by simp only[DataW.weightsEach,bh];exact .inr (sK (by simpa using h1) (by simpa using h2) h3)
theorem iB.small {H:Type}{P:Program}{M:Nat}{ts:List TypeId}(hf:BM P ts=true)(hb:LP P ts=true){t:TypeId}{d:DataW H}{xs:List AV}(h:iB P t d xs):t∈ts->(∀n,n∈d.weights P t->n<=M)->∀x,x∈xs->AV.Small M x:=by
 induction h with
 |bool t b hu=>intro ht _ x hx;simp at hx;subst hx;exact .bool b
 |int t k n hu _=>intro ht _ x hx;simp at hx;subst hx;exact .int k n
 |str t s hu=>intro ht hw x hx;simp at hx;subst hx;exact .str s (hw _ (by simp[DataW.weights]))
 |nil t e hu=>intro ht _ x hx;simp at hx;subst hx;exact .sl [] (zL) (by simp)
 |slice t e ds sp ys hu hl _ ih=>
  intro ht hw x hx;simp at hx;subst hx;have hpos:0<P.bytesOf e:=by have :=bY.1 hb t ht;rw[hu]at this;simpa using this
  have he:e∈ts:=by have :=(Dv hf ht).2;unfold LK at this;rw[hu]at this;simp only[aW,Dw]at this;exact this.1
  simp only[DataW.weights,hu]at hw;refine .sl ys ?_ λzs hz y hy=>?_;have :=hw _ gq;have h2:(ds.length+sp.length)*1<=(ds.length+sp.length)*P.bytesOf e:=jv _ hpos;omega;obtain⟨i,hi⟩:=iP hz;have hlt:i<ds.length:=by rw[hl];exact(aG.1 hi).1
  refine ih i _ zs (av hlt) hi he (λn hn=>hw n ?_) y hy;exact bq _ (gY _ (uq (aK hlt) hn))
 |struct t fs ds pieces hu hl hp _ ih=>
  intro ht hw x hx;obtain⟨piece,hpm,hxp⟩:=xA.1 hx;obtain⟨i,hi⟩:=iP hpm;have hlt:i<ds.length:=by have :=(aG.1 hi).1;omega
  have hlf:i<fs.toList.length:=oO
  have he:(fs.toList[i]).type∈ts:=by have :=(Dv hf ht).2;unfold LK at this;rw[hu]at this;have :=bY.1 this _ (aK hlf);simpa using this
  simp only[DataW.weights,hu]at hw;exact ih i _ _ piece (av hlf) (av hlt) hi he (λn hn=>hw n (sK (t:=(fs.toList[i]).type) (by rw[aR,av hlf];rfl) (av hlt) hn)) x hxp
 |arr t e n ds pieces hu hl hp _ ih=>
  intro ht hw x hx;obtain⟨piece,hpm,hxp⟩:=xA.1 hx;obtain⟨i,hi⟩:=iP hpm;have hlt:i<ds.length:=by have :=(aG.1 hi).1;omega
  have he:e∈ts:=by have :=(Dv hf ht).2;unfold LK at this;rw[hu]at this;simpa using this
  simp only[DataW.weights,hu]at hw;exact ih i _ piece (av hlt) hi he (λn hn=>hw n (uq (aK hlt) hn)) x hxp
theorem AV.Small.jR {M:Nat}{s:List UInt8}(h:AV.Small M (.str s)):s.length<=M:=by cases h;assumption
theorem AV.Small.lD {M:Nat}{xs:List (List AV)}(h:AV.Small M (.sl xs)):xs.length<=M/\∀ys,ys∈xs->∀y,y∈ys->AV.Small M y:=by cases h;exact⟨by assumption,by assumption⟩
theorem IK {P:Program}{W:World}{n:String}{d:DataW Unit}:∀{l:List (String×DataW Unit)}{ps:List MemPlace},DataW.LaidVars P W l ps->(n,d)∈l->∃g t cs fuel p,P.globalNamed n=some g/\(P.globals[g]?).map (·.type)=some t/\W.var? P n=some cs/\DataW.trod (λ_=>()) P W 0 (λ_=>true) false fuel t cs.toList=some (d,p)|(m,e)::l,ps,⟨g,t,cs,fuel,p,q,h1,h2,h3,h4,h5,h6⟩,h=>by rcases aQ.1 h with h|h;cases h;exact⟨g,t,cs,fuel,p,h1,h2,h3,h4⟩;exact IK h5 h
theorem aeh {P:Program}{W:World}{l:List (String×DataW Unit)}{name:String}{k:IntKind}{zs:List Int}{g:Nat}{t e:TypeId}{n:Nat}(hg:P.globalNamed name=some g)(hty:(P.globals[g]?).map (·.type)=some t)(ht:P.underlying t=some (.array n e))(he:P.underlying e=some (.int k))(hce:P.cellsOf e=1)(hct:P.cellsOf t=n)(h:laidMet P l W)(hm:(name,Lib.tabData k zs)∈l):Lib.TabIs P W name k zs:=by obtain⟨ps,hl,_⟩:=h;obtain⟨g',t',cs,fuel,p,hg',ht',TK,hd⟩:=IK hl hm;obtain rfl:=au (hg.symm.trans hg');obtain rfl:=au (hty.symm.trans ht');unfold Lib.TabIs;rw[TK,<-Lib.cells_of_tab ht he hce hct hd]
theorem aei {P:Program}{W:World}{l:List (String×DataW Unit)}{name:String}{d:DataW Unit}{g:Nat}(hg:P.globalNamed name=some g)(h:laidMet P l W)(hm:(name,d)∈l):g<W.heap.size:=by
 obtain⟨ps,hl,_⟩:=h;obtain⟨g',t',cs,fuel,p,hg',ht',TK,hd⟩:=IK hl hm;obtain rfl:=au (hg.symm.trans hg');unfold World.var? at TK;rw[hg']at TK;simp only[nR]at TK;cases hh:W.heap[g]?with
 |none=>rw[hh]at TK;cases TK
 |some o=>exact(bB.1 hh).1
theorem Gr {H:Type}{enc:TypeId×Value->H}{P:Program}{w:World}{base:Nat}{held:Bool}{spare:Nat->Bool}:∀{us:List TypeId}{vs:List Value}{ds:List (DataW H)}{ps:List MemPlace},DataW.TrodAll enc P w base spare held us vs ds ps->ds.length=us.length|[],[],[],_,_=>rfl|_::us,_::vs,_::ds,_,⟨_,_,_,h,_⟩=>by simp[Gr h]
theorem tP {H:Type}{enc:TypeId×Value->H}{P:Program}{ts:List TypeId}{vars:List String}{apart:Bool}{w:World}{vs:List Value}{ds gs:List (DataW H)}{ps:List MemPlace}(h:DataW.Whole enc P ts vars apart w vs ds gs ps):ds.length=ts.length:=by obtain⟨_,_,hA,_⟩:=h;exact Gr hA
theorem qV {H:Type}{enc:TypeId×Value->H}{P:Program}{ts:List TypeId}{apart:Bool}{w:World}{vs:List Value}{ds gs:List (DataW H)}{ps:List MemPlace}(h:DataW.Whole enc P ts [] apart w vs ds gs ps):gs=[]:=by obtain⟨_,_,_,hV,_⟩:=h;exact(trodVars_none hV).1
theorem Ff {H:Type}{P:Program}{ts us:List TypeId}{ds gs:List (DataW H)}(h:(DataW.weightsEach P (ts++us) (ds++gs)).all (·<=reachBytes)=true){i:Nat}{t:TypeId}{d:DataW H}(h1:ts[i]?=some t)(h2:ds[i]?=some d):∀n,n∈d.weights P t->n<=reachBytes:=λn hn=>by have l1:i<ts.length:=(aG.1 h1).1;have l2:i<ds.length:=(aG.1 h2).1;have :=bY.1 h n (sK (i:=i) (t:=t) (d:=d) (by rw[cO l1,h1]) (by rw[cO l2,h2]) hn);simpa using this
end Qv
namespace Qv
open Go Go.RowKit
theorem IL {e:Bool}{f:Bool->FV}{K:FV->Prop}(h:Al λt:Bool=>t=e->K (f t)):∃v,(Al λt:Bool=>t=e->f t=v)/\K v:=⟨f e,⟨λt ht=>ht▸rfl⟩,h.out e rfl⟩
theorem tu {x:FV}{K:FV->Prop}(h:K x):∃v,x=v/\K v:=⟨x,rfl,h⟩
theorem AH {x:FV}{K:FV->Prop}(h:force x K):∃v,force x (λu=>u=v)/\K v:=by rw[force_eq]at h;exact⟨x,by rw[force_eq],h⟩
theorem aej {op:BinOp}{k:IntKind}{a b:Int}{K:FV->Prop}(h:PF op k a b K):∃v,PF op k a b (λu=>u=v)/\K v:=by unfold PF at h⊢;cases op<;>first|exact IL h|exact h.elim|(obtain⟨c,h1,h2⟩:=h;exact⟨_,⟨c,h1,rfl⟩,h2⟩)|(obtain⟨h0,c,h1,h2⟩:=h;exact⟨_,⟨h0,c,h1,rfl⟩,h2⟩)
theorem XM {op:BinOp}{k:IntKind}{a b:Int}{K:FV->Prop}(h:Cv op k a b K):∃v,Cv op k a b (λu=>u=v)/\K v:=by unfold Cv at h⊢;cases op<;>first|exact h.elim|(obtain⟨h0,c,h1,h2⟩:=h;exact⟨_,⟨h0,c,h1,rfl⟩,h2⟩)
theorem aek {op:BinOp}{a b:List UInt8}{K:FV->Prop}(h:PG op a b K):∃v,PG op a b (λu=>u=v)/\K v:=by unfold PG at h⊢;cases op<;>first|exact IL h|exact h.elim|(obtain⟨h0,h1⟩:=h;exact⟨_,⟨h0,rfl⟩,h1⟩)
theorem aaJ {C:Ctx}{aN:List (Nat×List FV)}{t:TypeId}{a:FV}{K:FV->Prop}(h:nt C aN t a K):∃v,nt C aN t a (λu=>u=v)/\K v:=by
 unfold nt at h⊢;repeat' split at h
 all_goals first|exact h.elim|exact tu h|skip
 all_goals obtain⟨A,ys,B,e1,e2,h⟩:=h;repeat' split at h
 all_goals first|exact h.elim|exact⟨_,⟨A,ys,B,e1,e2,by simp_all⟩,h⟩
theorem KX {C:Ctx}{s:TypeId}{x:FV}{f:Nat}{K:FV->Prop}(h:nu C s x f K):∃v,nu C s x f (λu=>u=v)/\K v:=by
 unfold nu at h⊢;repeat' split at h
 all_goals first|exact h.elim|exact tu h
theorem XN {C:Ctx}{s:TypeId}{x:FV}{f:Nat}{K:FV->Prop}(h:wR C s x f K):∃v,wR C s x f (λu=>u=v)/\K v:=by
 unfold wR at h⊢;repeat' split at h
 all_goals first|exact h.elim|exact tu h
theorem XO {C:Ctx}{t:TypeId}{x i:FV}{K:FV->Prop}(h:wT C t x i K):∃v,wT C t x i (λu=>u=v)/\K v:=by
 unfold wT at h⊢;repeat' split at h
 all_goals first|exact h.elim|(obtain⟨h0,c,h1,h2⟩:=h;exact⟨_,⟨h0,c,h1,rfl⟩,h2⟩)|skip
 all_goals obtain⟨m,e1,e2,h⟩:=h;repeat' split at h
 all_goals first|exact h.elim|exact⟨_,⟨m,e1,e2,by simp_all⟩,h⟩
theorem KY {C:Ctx}{aN:List (Nat×List FV)}{t:TypeId}{x i:FV}{K:FV->Prop}(h:jB C aN t x i K):∃v,jB C aN t x i (λu=>u=v)/\K v:=by
 unfold jB at h⊢;repeat' split at h
 all_goals first|exact h.elim|(obtain⟨m,base,e1,e2,e3,h⟩:=h;exact⟨_,⟨m,base,e1,e2,e3,rfl⟩,h⟩)|(obtain⟨g0,ys,g1,g2,h⟩:=h;exact⟨_,⟨g0,ys,g1,g2,rfl⟩,h⟩)|skip
 all_goals obtain⟨m,e1,e2,h⟩:=h;repeat' split at h
 all_goals first|exact h.elim|(obtain⟨base,g1,h⟩:=h;exact⟨_,⟨m,e1,e2,base,g1,rfl⟩,h⟩)|(obtain⟨ys,g1,h⟩:=h;exact⟨_,⟨m,e1,e2,ys,g1,rfl⟩,h⟩)|skip
 all_goals obtain⟨sym,h⟩:=h;cases sym
 exact⟨_,⟨m,e1,e2,false,rfl⟩,h⟩;obtain⟨base,g1,h⟩:=h;exact⟨_,⟨m,e1,e2,true,base,g1,rfl⟩,h⟩
theorem aaK {C:Ctx}{t:TypeId}{op:BinOp}{x y:FV}{K:FV->Prop}(h:EJ C t op x y K):∃v,EJ C t op x y (λu=>u=v)/\K v:=by
 unfold EJ at h⊢;repeat' split at h
 all_goals first|exact h.elim|skip
 all_goals obtain⟨L,e1,e2,e3,e4,h⟩:=h;repeat' split at h
 all_goals first|exact h.elim|(obtain⟨v,g1,g2⟩:=IL h;exact⟨v,⟨L,e1,e2,e3,e4,g1⟩,g2⟩)
theorem ael {C:Ctx}{t:TypeId}{op:BinOp}{x y:FV}{K:FV->Prop}(h:HR C t op x y K):∃v,HR C t op x y (λu=>u=v)/\K v:=by
 unfold HR at h⊢;repeat' split at h
 all_goals first|exact h.elim|exact XM h|exact aej h|exact aek h|exact tu h|exact IL h|exact aaK h
theorem aaL {C:Ctx}{t:TypeId}{op:BinOp}{x:FV}{K:FV->Prop}(h:BC C t op x K):∃v,BC C t op x (λu=>u=v)/\K v:=by
 unfold BC at h⊢;repeat' split at h
 all_goals first|exact h.elim|exact tu h
theorem ag2 {op:UnOp}{x:FV}{K:FV->Prop}(h:SY op x K):∃v,SY op x (λu=>u=v)/\K v:=by
 unfold SY at h⊢;repeat' split at h
 all_goals first|exact h.elim|exact IL h|(obtain⟨c,h1,h2⟩:=h;exact⟨_,⟨c,h1,rfl⟩,h2⟩)
theorem Rb {C:Ctx}{aN:List (Nat×List FV)}{b:Builtin}{args:List FV}{types:List TypeId}{K:FV->Prop}(h:jJ C aN b args types K):∃v,jJ C aN b args types (λu=>u=v)/\K v:=by
 unfold jJ at h⊢;repeat' split at h
 all_goals first|exact h.elim|exact tu h|(obtain⟨c,h1,h2⟩:=h;exact⟨_,⟨c,h1,rfl⟩,h2⟩)|(obtain⟨c,h1,h2⟩:=h;exact⟨_,⟨c,by simp_all<;>omega,rfl⟩,h2⟩)
def NS (C:Ctx)(f:FV)(args:List FV)(K:FV->Prop):Prop:=match f with
 |.p (.fn (.func g) first captured)=>match FV.fD args with|some xs=>∃x,ak C g (first++xs++captured) (λr=>r=.val x)/\K (.p x)|none=>False
 |.fn (.func g) first captured=>match FV.fD (first++args++captured)with|some xs=>∃x,ak C g xs (λr=>r=.val x)/\K (.p x)|none=>False
 |_=>False
theorem aaM {C:Ctx}{f:FV}{args:List FV}{K:FV->Prop}(h:NS C f args K):∃v,Av C f args (λu=>u=v)/\K v:=by unfold NS at h;split at h;simp only[Av];split at h;rename_i xs hx;simp only[hx];obtain⟨x,h1,h2⟩:=h;exact⟨_,⟨_,h1,λr hr=>by subst hr;rfl⟩,h2⟩;exact h.elim;simp only[Av];split at h;rename_i xs hx;simp only[hx];obtain⟨x,h1,h2⟩:=h;exact⟨_,⟨_,h1,λr hr=>by subst hr;rfl⟩,h2⟩;exact h.elim;exact h.elim
def ag3 (C:Ctx)(S:ai)(op:Op)(K:FV->Prop):Prop:=match op with
 |.move x=>force (S.val x) K
 |.assign x=>force (S.val x) K
 |.pick c a b=>match S.val c with|.p (.bool true)=>force (S.val a) K|.p (.bool false)=>force (S.val b) K|_=>False
 |.binOp op t x y _=>match Ng y with|true=>BC C t op (S.val x) K|false=>match Nh y with|true=>∃v,Ni C t op (S.val x) (λu=>u=v)/\K v|false=>HR C t op (S.val x) (S.val y) K
 |.unOp op _ x=>SY op (S.val x) K
 |.load t a=>nt C S.aN t (S.val a) K
 |.fieldAddr s x f=>nu C s (S.val x) f K
 |.field s x f=>wR C s (S.val x) f K
 |.indexAddr t x i=>jB C S.aN t (S.val x) (S.val i) K
 |.index t x i=>wT C t (S.val x) (S.val i) K
 |.call c=>match c.callee with|.builtin b=>jJ C S.aN b (c.args.toList.map S.val) c.argTypes.toList K|.value f=>NS C (S.val f) (c.args.toList.map S.val) K|.invoke _ _=>False
 |.nilCheck x=>match S.val x with|.ptr b off=>K (.ptr b off)|.p (.imp xs)=>K (.p (.imp xs))|.ij o base off=>K (.ij o base off)|.p (.fn (.func f) a b)=>K (.p (.fn (.func f) a b))|.fn (.func f) a b=>K (.fn (.func f) a b)|_=>False
 |.extract x i=>match S.val x with
  |.eV xs=>match fT i xs with|y::_=>K y|[]=>False
  |.p (.eV xs)=>match fT i xs with|y::_=>K (.p y)|[]=>False
  |_=>False
 |op=>∃v,ew C S op (λu=>u=v)/\K v
theorem Wa {C:Ctx}{S:ai}{op:Op}{K:FV->Prop}(h:ag3 C S op K):∃v,ew C S op (λu=>u=v)/\K v:=by
 unfold ag3 at h;split at h;exact AH h;exact AH h;simp only[ew];split at h;rename_i hc;simp only[hc];exact AH h;rename_i hc;simp only[hc];exact AH h;exact h.elim;simp only[ew];split at h;rename_i hc;simp only[hc];exact aaL h;rename_i hc;simp only[hc];split at h;rename_i hc2;simp only[hc2];exact h;rename_i hc2;simp only[hc2];exact ael h;exact ag2 h;exact aaJ h;exact KX h;exact XN h;exact KY h;exact XO h;simp only[ew];split at h;rename_i hc;simp only[hc];exact Rb h;rename_i hc;simp only[hc];exact aaM h;exact h.elim
 ·simp only[ew];split at h;all_goals first|exact h.elim|(rename_i hc;simp only[hc];exact tu h)
 simp only[ew];split at h;rename_i hc;simp only[hc];split at h;rename_i hd;simp only[hd];exact tu h;exact h.elim;rename_i hc;simp only[hc];split at h;rename_i hd;simp only[hd];exact tu h;exact h.elim;exact h.elim;exact h
def aem (C:Ctx)(o:Oper)(K:ai->Prop)(S:ai):Prop:=ag3 C S o.op λv=>K (S.put o.dst v)
def KZ (C:Ctx)(ops:Array Oper):List Oper->(ai->Prop)->ai->Prop
 |[],K,S=>K S
 |o::rest,K,S=>match o.guard with
  |none=>aem C o (KZ C ops rest K) S
  |some (j,want)=>match(ops[j]?).bind (·.dst)with
   |none=>False
   |some d=>match S.get d with
    |.p (.bool b)=>match HY b want with|true=>aem C o (KZ C ops rest K) S|false=>KZ C ops rest K (S.put o.dst (.p (.eV [])))
    |.p (.eV [])=>KZ C ops rest K (S.put o.dst (.p (.eV [])))
    |_=>False
theorem zO {C:Ctx}{ops:Array Oper}{K:ai->Prop}:∀(l:List Oper)(S:ai),KZ C ops l K S->Kv C ops l K S|[],S,h=>h|o::rest,S,h=>by unfold KZ at h;unfold Kv;split at h;rename_i hg;simp only[hg];unfold aem at h;obtain⟨v,h1,h2⟩:=Wa h;exact⟨v,h1,zO rest _ h2⟩;rename_i j want hg;simp only[hg];split at h;exact h.elim;rename_i d hd;simp only[hd];split at h;rename_i b hb;simp only[hb];split at h;rename_i hs;simp only[hs];unfold aem at h;obtain⟨v,h1,h2⟩:=Wa h;exact⟨v,h1,zO rest _ h2⟩;rename_i hs;simp only[hs];exact zO rest _ h;rename_i hb;simp only[hb];exact zO rest _ h;exact h.elim
theorem cm {C:Ctx}{call:iw}{Y:pE}{ops:Array Oper}{K:ai->Prop}{S:ai}(m:Nat)(hd:BE ops m=true)(h:KZ C ops (ops.toList.take m) (pK C call Y ops (ops.toList.drop m) K) S):lz C call Y ops true K S:=by unfold lz;exact⟨.lex m,hd,zO _ _ h⟩
theorem Wb {C:Ctx}{call:iw}{Y:pE}{ops:Array Oper}{K:ai->Prop}{S:ai}(x:FV)(d:Nat)(hd:BE ops ops.size=true)(hk:mT ops.toList=[d])(h:KZ C ops ops.toList (λS'=>S'.get d=x) S)(hK:K ((S.sG (dstsOf ops.toList)).put (some d) x)):lz C call Y ops true K S:=by
 unfold lz;refine⟨.keep (λvs=>vs=[x]),hd,?_,?_⟩;refine zO _ _ ?_;have e:(λS':ai=>getAll S' (mT ops.toList)=[x])=λS'=>S'.get d=x:=by funext S';rw[hk];show([S'.get d]=[x])=_;rw[ko];simp
 rw[e];exact h;rw[hk];exact⟨λv=>⟨λhv=>by have :v=x:=(eS hv).1;subst this;exact hK⟩⟩
theorem Rc {C:Ctx}{ops:Array Oper}{K:ai->Prop}{S:ai}(x:FV)(d:Nat)(hk:mT ops.toList=[d])(h:KZ C ops ops.toList (λS'=>S'.get d=x) S)(hK:K ((S.sG (dstsOf ops.toList)).put (some d) x)):Kv C ops ops.toList (λS'=>getAll S' (mT ops.toList)=[x]) S/\BD K (S.sG (dstsOf ops.toList)) (mT ops.toList) (λvs=>vs=[x]):=by
 refine⟨?_,?_⟩;refine zO _ _ ?_;have e:(λS':ai=>getAll S' (mT ops.toList)=[x])=λS'=>S'.get d=x:=by funext S';rw[hk];show([S'.get d]=[x])=_;rw[ko];simp
 rw[e];exact h;rw[hk];exact⟨λv=>⟨λhv=>by have :v=x:=(eS hv).1;subst this;exact hK⟩⟩
end Qv
