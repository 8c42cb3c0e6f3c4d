/- Part 18 of the proof: its lemmas. No condition. -/
import Derived.Test.YtiboombocnfngaaGreatDoorX6
import Derived.Test.YtiboombocnfngaaGreatDoorX7
import Derived.Test.YtiboombocnfngaaGreatDoorX8
import Derived.Test.YtiboombocnfngaaGreatDoorX9
set_option maxRecDepth 10000
set_option maxHeartbeats 80000000
set_option linter.all false
open Go Go.Proofs Go.RowKit
namespace Qv
theorem abC (file:bQ)(type:Int)(parent:bQ)(name:Bytes)(mode:Int)(data:Bytes)(cQ dc:bQ)(lines:List Bytes)(over:List bQ)(hl:lines.length<=2^47)(ho:over.length<=2^47):av C 295 [.agg (cC ⟨1,file,type,parent,name,mode,data,cQ,dc,lines,over⟩)] (λr=>r=.val (.bool (bG (eS ⟨1,file,type,parent,name,mode,data,cQ,dc,lines,over⟩)))):=by
 rw[show eS ⟨1,file,type,parent,name,mode,data,cQ,dc,lines,over⟩=_ from rfl];unfold eS;simp only[Int.reduceEq,if_true,if_false];refine bu qZ [] Tryz.func295 rfl rfl rfl ⟨[3],dA (cells:=[.p (.int .i64 1)]) (ys:=[.int .i64 1]) rfl rfl rfl ⟨none,cl (iO [1] 1 true dD dD).eG ?_⟩⟩;refine cl (iO [2,3,4,5,6] 1 false dD dD).eG ?_;refine pW (jw (a:=file) (b:=aP) ?_);by_cases xP:file=aP;rotate_left;rw[ai xP];show dJ.val (.bool false)=_;simp[bG,xP];rw[ah xP];refine cl (iO [2] 1 false dD dD).eG ?_;refine pW (jw (a:=parent) (b:=aP) ?_);by_cases fo:parent=aP;rotate_left;rw[ai fo];show dJ.val (.bool false)=_;simp[bG,fo];rw[ah fo];refine aC (λeo=>?_) (λeo=>?_);rotate_left;have eo:name≠[]:=eo;show dJ.val (.bool false)=_;simp[bG,eo];have eo:name=[]:=eo;refine cl (iO [3] 1 false dD dD).eG ?_;refine aC (λep=>?_) (λep=>?_);rotate_left;have ep:mode≠0:=ep;show dJ.val (.bool false)=_;simp[bG,ep];have ep:mode=0:=ep;refine cl (iO [4] 1 false dD dD).eG ?_;refine aC (λer=>?_) (λer=>?_);rotate_left;have er:data≠[]:=er;show dJ.val (.bool false)=_;simp[bG,er];have er:data=[]:=er;refine cl (iO [5,6] 1 false dD dD).eG ?_;refine pW (jw (a:=cQ) (b:=aP) ?_);by_cases nw:cQ=aP;rotate_left;rw[ai nw];show dJ.val (.bool false)=_;simp[bG,nw];rw[ah nw];refine pW (jw (a:=dc) (b:=aP) ?_);by_cases ny:dc=aP;rotate_left;rw[ai ny];show dJ.val (.bool false)=_;simp[bG,ny];rw[ah ny];refine cl (iO [5] 1 false dD dD).eG ?_;refine aC (λdm=>?_) (λdm=>?_);rotate_left;have dm:lines≠[]:=λe=>dm (by rw[e];rfl);show dJ.val (.bool false)=_;simp[bG,dm];have dm:lines=[]:=by have h:(((lines.map mL).length:Nat):Int)=0:=dm;rw[aj]at h;exact jM oO
 refine cl (iO [2,3,4,6,7] 1 false dD dD).eG ?_;refine aC (λpF=>?_) (λpF=>?_);rotate_left;have pF:over≠[]:=λe=>pF (by rw[e];rfl);show dJ.val (.bool false)=_;simp[bG,pF];have pF:over=[]:=by have h:(((over.map cI).length:Nat):Int)=0:=pF;rw[aj]at h;exact jM oO
 show dJ.val (.bool true)=_;simp[bG,xP,fo,eo,ep,er,nw,ny,dm,pF]
abbrev rN (s:List fD):Prop:=s.Pairwise λa b=>dy a.id b.id<0
theorem fE:∀{l:List Int},bf l=0↔∀e,e∈l->e=0|[]=>⟨λ_ e h=>(by cases h),λ_=>rfl⟩|a::l=>by by_cases h:a=0;rw[dz h,fE];constructor;intro g e he;rcases aL.1 he with rfl|he;exact h;exact g e he;exactλg e he=>g e (dG _ he);rw[ee h];exact⟨λg=>absurd g h,λg=>g a (by simp)⟩
structure OkS (s:List fD):Prop where
 few:s.length<=400
 Hy:rN s
 id:∀x,x∈s->jB x.pat=(x.id,0)
 cS:∀x,x∈s->∀d,d∈bC x.pat->d∈iz s
 order:(sJ s).length=s.length
 refs:∀x,x∈s->qE s x.pat x.id=0
theorem aho {s:List fD}(h:abv s=0):OkS s:=by
 unfold abv at h;by_cases h1:400<s.length;rw[ag h1]at h;exact absurd h dD;rw[af h1]at h;by_cases h2:bf ((List.range s.length).map (abu s))≠0;rw[ag h2]at h;exact absurd h h2;rw[af h2]at h;by_cases h3:s.all (λx=>mV (iz s) (bC x.pat))=false;rw[ag h3]at h;exact absurd h dD;rw[af h3]at h;by_cases h4:(sJ s).length<s.length;rw[ag h4]at h;exact absurd h dD;rw[af h4]at h;have h2:=fE.1 (cK.1 h2);have hst:∀(i:Nat)(hi:i<s.length),jB s[i].pat=(s[i].id,0)/\(0<i->dy (s.getD (i-1) vK).id s[i].id<0):=λi hi=>by have :=h2 (abu s i) (aJ.2 ⟨i,fO.2 hi,rfl⟩);unfold abu at this;rw[show s.getD i vK=s[i]from by simp[List.getD,hi]]at this;by_cases k1:(jB s[i].pat).2≠0;rw[ag k1]at this;exact absurd this k1;rw[af k1]at this;by_cases k2:(jB s[i].pat).1≠s[i].id;rw[ag k2]at this;exact absurd this dD;rw[af k2]at this;have k2:=cK.1 k2;refine⟨Prod.ext k2 (cK.1 k1),λh0=>?_⟩;rw[k2]at this;by_cases k3:0<i/\0<=dy (s.getD (i-1) vK).id s[i].id;rw[ag k3]at this;exact absurd this dD;omega
 refine⟨oO,?_,λx hx=>?_,λx hx d hd=>?_,?_,λx hx=>?_⟩;have step:∀(i:Nat)(h1:i+1<s.length),dy s[i].id s[i+1].id<0:=λi h1=>by have :=(hst (i+1) h1).2 (qL _);rw[tS,show s.getD i vK=s[i]from by simp[List.getD,show i<s.length by omega]]at this;exact this
 refine iH.2 ?_;intro i j hi hj hij;have :∀(k:Nat)(hk:i+1+k<s.length),dy s[i].id s[i+1+k].id<0:=λk=>by
  induction k with
  |zero=>exactλhk=>step i hk
  |succ k ih=>exactλhk=>gF (ih oO) (step (i+1+k) hk)
 have :=this (j-(i+1)) oO;rw[show s[i+1+(j-(i+1))]=s[j]from by congr 1;omega]at this;exact this;obtain⟨i,hi,rfl⟩:=fS hx;exact(hst i hi).1;have h3:s.all (λx=>mV (iz s) (bC x.pat))=true:=by simpa using h3
 have :=bD.1 h3 x hx;unfold mV at this;simpa using bD.1 this d hd;have :=TS s;omega;exact fE.1 h _ (jJ _ (aJ.2 ⟨x,hx,rfl⟩))
theorem Wa {s:List fD}(h:rN s):(iz s).Nodup:=by unfold iz;rw[List.nodup_iff_pairwise_ne];exact xY.2 (h.imp λ{a b} g e=>by rw[e]at g;exact ji _ g)
theorem OO {s:List fD}(h:rN s){x y:fD}(hx:x∈s)(hy:y∈s)(e:x.id=y.id):x=y:=by
 induction s with
 |nil=>cases hx
 |cons z s ih=>obtain⟨h1,h2⟩:=dS.1 h;rcases aL.1 hx with hxz|hx2;rcases aL.1 hy with hyz|hy2;rw[hxz,hyz];have :=h1 y hy2;rw[<-hxz,e]at this;exact absurd this (ji _);rcases aL.1 hy with hyz|hy2;have :=h1 x hx2;rw[<-hyz,e]at this;exact absurd this (ji _);exact ih h2 hx2 hy2
theorem sw {s:List fD}(h:rN s){x:fD}(hx:x∈s):wC s x.id=(x.pat,true):=by
 induction s with
 |nil=>cases hx
 |cons z s ih=>obtain⟨h1,h2⟩:=dS.1 h;unfold wC;rcases aL.1 hx with rfl|hx;rw[ag rfl];rw[af λe=>?_,ih h2 hx];have :=h1 x hx;rw[e]at this;exact ji _ this
theorem Fy {s:List fD}{d:Dg}(h:d∉iz s):wC s d=(VT,false):=by
 induction s with
 |nil=>rfl
 |cons z s ih=>unfold wC;rw[af λe=>h (by unfold iz;simp[e]),ih λg=>h (by unfold iz at*;simp at g⊢;exact .inr g)]
def uG (out:List Dg)(x:fD):Bool:=!decide (x.id∈out)&&mV out (bC x.pat)
def xZ (s:List fD):Nat->List Dg->List Dg|0,out=>out|n+1,out=>match s.find? (uG out)with|none=>out|some x=>xZ s n (out++[x.id])
theorem Gw {out:List Dg}{y:fD}:∀{l:List fD},(∀x,x∈l->dy y.id x.id<0)->Jj out l (some y)=some y|[],_=>rfl|x::l,h=>by unfold Jj;rw[af,Gw λz hz=>h z (dG _ hz)];unfold ag0;simp only[bn,decide_eq_true_eq,not_and];intro _ _ g;exact ji _ (gF g (h x (by simp)))
theorem Cv {out:List Dg}:∀{l:List fD},rN l->Jj out l none=l.find? (uG out)
 |[],_=>rfl
 |x::l,h=>by
  obtain⟨h1,h2⟩:=dS.1 h;unfold Jj;rw[qK,show ag0 out x none=uG out x from rfl];cases hq:uG out x with
  |true=>rw[ag rfl,Gw h1]
  |false=>rw[af dD,Cv h2]
theorem Hz {s:List fD}(h:rN s):∀(n:Nat)(out:List Dg),xZ s n out=rT s n out
 |0,_=>rfl
 |n+1,out=>by
  unfold xZ rT;rw[Cv h];cases s.find? (uG out)with
  |none=>rfl
  |some x=>exact Hz h n _
theorem Gx {s:List fD}(h:rN s):∀(n:Nat)(out:List Dg),out.Nodup->(∀d,d∈out->d∈iz s)->(rT s n out).Nodup/\(∀d,d∈rT s n out->d∈iz s)
 |0,out,h1,h2=>⟨h1,h2⟩
 |n+1,out,h1,h2=>by
  unfold rT;rw[Cv h];cases hq:s.find? (uG out)with
  |none=>exact⟨h1,h2⟩
  |some x=>have hx:=lD hq;have hn:=jN hq;unfold uG at hn;simp only[bn,ek,decide_eq_false_iff_not]at hn;refine Gx h n _ ?_ λd hd=>?_;rw[og];refine⟨h1,by simp,λa ha b hb e=>?_⟩;obtain rfl:=aO.1 hb;subst e;exact hn.1 ha;rcases bk.1 hd with hd|hd;exact h2 d hd;obtain rfl:=aO.1 hd;exact aJ.2 ⟨x,hx,rfl⟩
theorem JG {α:Type}[DecidableEq α]:∀{l m:List α},l.Nodup->(∀x,x∈l->x∈m)->l.length<=m.length|[],_,_,_=>zL|x::l,m,h1,h2=>by obtain⟨g1,g2⟩:=tI.1 h1;have hx:x∈m:=h2 x (by simp);have :=JG (m:=m.erase x) g2 λy hy=>(List.mem_erase_of_ne (λ(e:y=x)=>g1 (e▸hy))).2 (h2 y (dG _ hy));rw[List.length_erase_of_mem hx]at this;have hpos:=List.length_pos_of_mem hx;simp only[aW];omega
theorem JH {α:Type}[DecidableEq α]:∀{l m:List α},l.Nodup->(∀x,x∈l->x∈m)->m.length<=l.length->∀x,x∈m->x∈l:=by
 intro l m h1 h2 h3 x hx;refine iE λhn=>?_;have h4:(x::l).Nodup:=tI.2 ⟨hn,h1⟩;have h5:(x::l).length<=m.length:=JG h4 λy hy=>by rcases aL.1 hy with rfl|hy;exact hx;exact h2 y hy
 simp only[aW]at h5;omega
theorem AT {s:List fD}(h:OkS s)(d:Dg):d∈sJ s↔d∈iz s:=by
 obtain⟨h1,h2⟩:=Gx h.Hy s.length [] tU λd hd=>by cases hd
 exact⟨h2 d,JH h1 h2 (by rw[show(rT s s.length []).length=s.length from h.order];unfold iz;simp) d⟩
theorem oz.Ei {br:Nat->Nat->Prop}{B:Nat}{w':World}{v:Value}{T:TypeId}{bP:Nat}{xss:List (List AV)}{rest:List AV}(h:oz br B w' v (.own (some rest) T bP xss)):oz br B w' v (.val (.eN (.sl xss::rest))):=by
 obtain⟨b,c,cs,fr,us,rfl,hB,hbs,h0,hlen,Bs,hheap,hfr,hroom,hcells,qX⟩:=h;obtain⟨hl,hr⟩:=qX rest rfl;have hs:oz br B w' (.slice (some ⟨b,0,none⟩) xss.length c) (.val (.sl xss)):=oz.OL (T:=T) (bP:=bP) ⟨b,c,cs,fr,[],rfl,hB,hbs,h0,hlen,Bs,hheap,hfr,hroom,hcells,λr hr=>by cases hr⟩;show dH (lT br B) w' (.tuple (.slice (some ⟨b,0,none⟩) xss.length c::us).toArray) (.eN (.sl xss::rest));refine .eN _ _ (by simp[hl]) λi u x h1 h2=>?_;cases i with
 |zero=>simp at h1 h2;subst h1;subst h2;exact hs
 |succ i=>exact(hr i u x (by simpa using h1) (by simpa using h2)).keep (λb' o h=>h.imp id λq=>q.1) (λ_ _ _ _ h=>h) (.refl _ _)
theorem av.Ei {C:Ctx}{f:FuncId}{args:List AV}{T:TypeId}{bP:Nat}{xss:List (List AV)}{rest:List AV}(h:av C f args λr=>r=.own (some rest) T bP xss):av C f args λr=>r=.val (.eN (.sl xss::rest)):=⟨h.1,λbr w vs h1 h2 h3 h4 h5=>(h.2 br w vs h1 h2 h3 h4 h5).mono λe w' ⟨v,r,q1,q2,q3,q4⟩=>by subst q2;exact⟨v,_,q1,rfl,oz.Ei q3,q4⟩⟩
section
variable (N:gr->List Dg)
end
def ajp (s:List fD)(d:Dg):List Dg:=bC (wC s d).1
theorem Mv:∀{l:List bQ}{acc:List Dg},Lg acc->Lg (l.foldl xN acc)|[],_,h=>h|x::l,acc,h=>Mv (l:=l) (by unfold xN;split;exact h;exact RI h _)
theorem XX (p:gr):Lg (bC p):=by unfold bC;split;exact List.Pairwise.nil;exact Mv (XQ List.Pairwise.nil)
end Qv
