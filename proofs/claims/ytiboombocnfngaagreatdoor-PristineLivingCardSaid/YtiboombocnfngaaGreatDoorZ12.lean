/- Part 18 of the proof: its lemmas. No condition. -/
import Derived.Test.YtiboombocnfngaaGreatDoorZ4
import Derived.Test.YtiboombocnfngaaGreatDoorZ6
import Derived.Test.YtiboombocnfngaaGreatDoorZ7
import Derived.Test.YtiboombocnfngaaGreatDoorZ8
import Derived.Test.YtiboombocnfngaaGreatDoorZ9
set_option maxRecDepth 10000
set_option maxHeartbeats 80000000
set_option linter.all false
open Go Go.Proofs Go.RowKit
namespace Qv
theorem aaj (file:bB)(type:Int)(parent:bB)(name:Bytes)(mode:Int)(data:Bytes)(eH eY:bB)(lines:List Bytes)(over:List bB)(hl:lines.length<=2^47)(ho:over.length<=2^47):au C 295 [.agg (cC ⟨1,file,type,parent,name,mode,data,eH,eY,lines,over⟩)] (λr=>r=.val (.bool (bN (fI ⟨1,file,type,parent,name,mode,data,eH,eY,lines,over⟩)))):=by
 rw[show fI ⟨1,file,type,parent,name,mode,data,eH,eY,lines,over⟩=_ from rfl];unfold fI;simp only[Int.reduceEq,if_true,if_false];refine bn qz [] Tryz.func295 rfl rfl rfl ⟨[3],cZ (cells:=[.p (.int .i64 1)]) (ys:=[.int .i64 1]) rfl rfl rfl ⟨none,cl (iC [1] 1 true dD dD).dY ?_⟩⟩;refine cl (iC [2,3,4,5,6] 1 false dD dD).dY ?_;refine pZ (jH (a:=file) (b:=aM) ?_);by_cases wC:file=aM;rotate_left;rw[ah wC];show fN.val (.bool false)=_;simp[bN,wC];rw[ai wC];refine cl (iC [2] 1 false dD dD).dY ?_;refine pZ (jH (a:=parent) (b:=aM) ?_);by_cases eN:parent=aM;rotate_left;rw[ah eN];show fN.val (.bool false)=_;simp[bN,eN];rw[ai eN];refine aH (λdK=>?_) (λdK=>?_);rotate_left;have dK:name≠[]:=dK;show fN.val (.bool false)=_;simp[bN,dK];have dK:name=[]:=dK;refine cl (iC [3] 1 false dD dD).dY ?_;refine aH (λdL=>?_) (λdL=>?_);rotate_left;have dL:mode≠0:=dL;show fN.val (.bool false)=_;simp[bN,dL];have dL:mode=0:=dL;refine cl (iC [4] 1 false dD dD).dY ?_;refine aH (λdM=>?_) (λdM=>?_);rotate_left;have dM:data≠[]:=dM;show fN.val (.bool false)=_;simp[bN,dM];have dM:data=[]:=dM;refine cl (iC [5,6] 1 false dD dD).dY ?_;refine pZ (jH (a:=eH) (b:=aM) ?_);by_cases mE:eH=aM;rotate_left;rw[ah mE];show fN.val (.bool false)=_;simp[bN,mE];rw[ai mE];refine pZ (jH (a:=eY) (b:=aM) ?_);by_cases mF:eY=aM;rotate_left;rw[ah mF];show fN.val (.bool false)=_;simp[bN,mF];rw[ai mF];refine cl (iC [5] 1 false dD dD).dY ?_;refine aH (λcG=>?_) (λcG=>?_);rotate_left;have cG:lines≠[]:=λe=>cG (by rw[e];rfl);show fN.val (.bool false)=_;simp[bN,cG];have cG:lines=[]:=by have h:(((lines.map oL).length:Nat):Int)=0:=cG;rw[aj]at h;exact mh oO
 refine cl (iC [2,3,4,6,7] 1 false dD dD).dY ?_;refine aH (λoz=>?_) (λoz=>?_);rotate_left;have oz:over≠[]:=λe=>oz (by rw[e];rfl);show fN.val (.bool false)=_;simp[bN,oz];have oz:over=[]:=by have h:(((over.map cI).length:Nat):Int)=0:=oz;rw[aj]at h;exact mh oO
 show fN.val (.bool true)=_;simp[bN,wC,eN,dK,dL,dM,mE,mF,cG,oz]
abbrev qF (s:List fk):Prop:=s.Pairwise λa b=>dA a.id b.id<0
theorem iw:∀{l:List Int},bk l=0↔∀e,e∈l->e=0|[]=>⟨λ_ e h=>(by cases h),λ_=>rfl⟩|a::l=>by by_cases h:a=0;rw[ef h,iw];constructor;intro g e he;rcases aC.1 he with rfl|he;exact h;exact g e he;exactλg e he=>g e (cg _ he);rw[fW h];exact⟨λg=>absurd g h,λg=>g a (by simp)⟩
structure OkS (s:List fk):Prop where
 few:s.length<=400
 GL:qF s
 id:∀x,x∈s->mA x.pat=(x.id,0)
 dO:∀x,x∈s->∀d,d∈bU x.pat->d∈gO s
 order:(rG s).length=s.length
 refs:∀x,x∈s->pJ s x.pat x.id=0
theorem agl {s:List fk}(h:aab s=0):OkS s:=by
 unfold aab at h;by_cases h1:400<s.length;rw[af h1]at h;exact absurd h dD;rw[aa h1]at h;by_cases h2:bk ((List.range s.length).map (aaa s))≠0;rw[af h2]at h;exact absurd h h2;rw[aa h2]at h;by_cases h3:s.all (λx=>oM (gO s) (bU x.pat))=false;rw[af h3]at h;exact absurd h dD;rw[aa h3]at h;by_cases h4:(rG s).length<s.length;rw[af h4]at h;exact absurd h dD;rw[aa h4]at h;have h2:=iw.1 (cK.1 h2);have hst:∀(i:Nat)(hi:i<s.length),mA s[i].pat=(s[i].id,0)/\(0<i->dA (s.getD (i-1) uw).id s[i].id<0):=λi hi=>by have :=h2 (aaa s i) (aB.2 ⟨i,fA.2 hi,rfl⟩);unfold aaa at this;rw[show s.getD i uw=s[i]from by simp[List.getD,hi]]at this;by_cases k1:(mA s[i].pat).2≠0;rw[af k1]at this;exact absurd this k1;rw[aa k1]at this;by_cases k2:(mA s[i].pat).1≠s[i].id;rw[af k2]at this;exact absurd this dD;rw[aa k2]at this;have k2:=cK.1 k2;refine⟨Prod.ext k2 (cK.1 k1),λh0=>?_⟩;rw[k2]at this;by_cases k3:0<i/\0<=dA (s.getD (i-1) uw).id s[i].id;rw[af k3]at this;exact absurd this dD;omega
 refine⟨oO,?_,λx hx=>?_,λx hx d hd=>?_,?_,λx hx=>?_⟩;have step:∀(i:Nat)(h1:i+1<s.length),dA s[i].id s[i+1].id<0:=λi h1=>by have :=(hst (i+1) h1).2 (wP _);rw[sE,show s.getD i uw=s[i]from by simp[List.getD,show i<s.length by omega]]at this;exact this
 refine eR.2 ?_;intro i j hi hj hij;have :∀(k:Nat)(hk:i+1+k<s.length),dA s[i].id s[i+1+k].id<0:=λk=>by
  induction k with
  |zero=>exactλhk=>step i hk
  |succ k ih=>exactλhk=>ic (ih oO) (step (i+1+k) hk)
 have :=this (j-(i+1)) oO;rw[show s[i+1+(j-(i+1))]=s[j]from by congr 1;omega]at this;exact this;obtain⟨i,hi,rfl⟩:=dr hx;exact(hst i hi).1;have h3:s.all (λx=>oM (gO s) (bU x.pat))=true:=by simpa using h3
 have :=br.1 h3 x hx;unfold oM at this;simpa using br.1 this d hd;have :=SM s;omega;exact iw.1 h _ (jl _ (aB.2 ⟨x,hx,rfl⟩))
theorem Vc {s:List fk}(h:qF s):(gO s).Nodup:=by unfold gO;rw[Dv];exact Dw.2 (h.imp λ{a b} g e=>by rw[e]at g;exact iu _ g)
theorem NG {s:List fk}(h:qF s){x y:fk}(hx:x∈s)(hy:y∈s)(e:x.id=y.id):x=y:=by
 induction s with
 |nil=>cases hx
 |cons z s ih=>obtain⟨h1,h2⟩:=ct.1 h;rcases aC.1 hx with hxz|hx2;rcases aC.1 hy with hyz|hy2;rw[hxz,hyz];have :=h1 y hy2;rw[<-hxz,e]at this;exact absurd this (iu _);rcases aC.1 hy with hyz|hy2;have :=h1 x hx2;rw[<-hyz,e]at this;exact absurd this (iu _);exact ih h2 hx2 hy2
theorem rq {s:List fk}(h:qF s){x:fk}(hx:x∈s):uW s x.id=(x.pat,true):=by
 induction s with
 |nil=>cases hx
 |cons z s ih=>obtain⟨h1,h2⟩:=ct.1 h;unfold uW;rcases aC.1 hx with rfl|hx;rw[af rfl];rw[aa λe=>?_,ih h2 hx];have :=h1 x hx;rw[e]at this;exact iu _ this
theorem EL {s:List fk}{d:Dg}(h:d∉gO s):uW s d=(US,false):=by
 induction s with
 |nil=>rfl
 |cons z s ih=>unfold uW;rw[aa λe=>h (by unfold gO;simp[e]),ih λg=>h (by unfold gO at*;simp at g⊢;exact .inr g)]
def tE (out:List Dg)(x:fk):Bool:=!decide (x.id∈out)&&oM out (bU x.pat)
def wQ (s:List fk):Nat->List Dg->List Dg|0,out=>out|n+1,out=>match s.find? (tE out)with|none=>out|some x=>wQ s n (out++[x.id])
theorem FN {out:List Dg}{y:fk}:∀{l:List fk},(∀x,x∈l->dA y.id x.id<0)->Iz out l (some y)=some y|[],_=>rfl|x::l,h=>by unfold Iz;rw[aa,FN λz hz=>h z (cg _ hz)];unfold afY;simp only[aR,decide_eq_true_eq,not_and];intro _ _ g;exact iu _ (ic g (h x (by simp)))
theorem Bw {out:List Dg}:∀{l:List fk},qF l->Iz out l none=l.find? (tE out)
 |[],_=>rfl
 |x::l,h=>by
  obtain⟨h1,h2⟩:=ct.1 h;unfold Iz;rw[pO,show afY out x none=tE out x from rfl];cases hq:tE out x with
  |true=>rw[af rfl,FN h1]
  |false=>rw[aa dD,Bw h2]
theorem GM {s:List fk}(h:qF s):∀(n:Nat)(out:List Dg),wQ s n out=qM s n out
 |0,_=>rfl
 |n+1,out=>by
  unfold wQ qM;rw[Bw h];cases s.find? (tE out)with
  |none=>rfl
  |some x=>exact GM h n _
theorem FO {s:List fk}(h:qF s):∀(n:Nat)(out:List Dg),out.Nodup->(∀d,d∈out->d∈gO s)->(qM s n out).Nodup/\(∀d,d∈qM s n out->d∈gO s)
 |0,out,h1,h2=>⟨h1,h2⟩
 |n+1,out,h1,h2=>by
  unfold qM;rw[Bw h];cases hq:s.find? (tE out)with
  |none=>exact⟨h1,h2⟩
  |some x=>have hx:=kM hq;have hn:=jr hq;unfold tE at hn;simp only[aR,cE,decide_eq_false_iff_not]at hn;refine FO h n _ ?_ λd hd=>?_;rw[mc];refine⟨h1,by simp,λa ha b hb e=>?_⟩;obtain rfl:=aL.1 hb;subst e;exact hn.1 ha;rcases bf.1 hd with hd|hd;exact h2 d hd;obtain rfl:=aL.1 hd;exact aB.2 ⟨x,hx,rfl⟩
theorem IS {α:Type}[DecidableEq α]:∀{l m:List α},l.Nodup->(∀x,x∈l->x∈m)->l.length<=m.length|[],_,_,_=>zL|x::l,m,h1,h2=>by obtain⟨g1,g2⟩:=kA.1 h1;have hx:x∈m:=h2 x (by simp);have :=IS (m:=m.erase x) g2 λy hy=>(List.mem_erase_of_ne (λ(e:y=x)=>g1 (e▸hy))).2 (h2 y (cg _ hy));rw[List.length_erase_of_mem hx]at this;have hpos:=List.length_pos_of_mem hx;simp only[aS];omega
theorem Bx {α:Type}[DecidableEq α]:∀{l m:List α},l.Nodup->(∀x,x∈l->x∈m)->m.length<=l.length->∀x,x∈m->x∈l:=by
 intro l m h1 h2 h3 x hx;refine kI λhn=>?_;have h4:(x::l).Nodup:=kA.2 ⟨hn,h1⟩;have h5:(x::l).length<=m.length:=IS h4 λy hy=>by rcases aC.1 hy with rfl|hy;exact hx;exact h2 y hy
 simp only[aS]at h5;omega
theorem zQ {s:List fk}(h:OkS s)(d:Dg):d∈rG s↔d∈gO s:=by
 obtain⟨h1,h2⟩:=FO h.GL s.length [] nD λd hd=>by cases hd
 exact⟨h2 d,Bx h1 h2 (by rw[show(qM s s.length []).length=s.length from h.order];unfold gO;simp) d⟩
theorem nH.GN {bh:Nat->Nat->Prop}{B:Nat}{w':World}{v:Value}{T:TypeId}{bI:Nat}{xss:List (List AV)}{rest:List AV}(h:nH bh B w' v (.own (some rest) T bI xss)):nH bh B w' v (.val (.eS (.sl xss::rest))):=by
 obtain⟨b,c,cs,fr,us,rfl,hB,hbs,h0,hlen,Av,hheap,hfr,hroom,hcells,qe⟩:=h;obtain⟨hl,hr⟩:=qe rest rfl;have hs:nH bh B w' (.slice (some ⟨b,0,none⟩) xss.length c) (.val (.sl xss)):=nH.NC (T:=T) (bI:=bI) ⟨b,c,cs,fr,[],rfl,hB,hbs,h0,hlen,Av,hheap,hfr,hroom,hcells,λr hr=>by cases hr⟩;show dh (lq bh B) w' (.tuple (.slice (some ⟨b,0,none⟩) xss.length c::us).toArray) (.eS (.sl xss::rest));refine .eS _ _ (by simp[hl]) λi u x h1 h2=>?_;cases i with
 |zero=>simp at h1 h2;subst h1;subst h2;exact hs
 |succ i=>exact(hr i u x (by simpa using h1) (by simpa using h2)).keep (λb' o h=>h.imp id λq=>q.1) (λ_ _ _ _ h=>h) (.refl _ _)
theorem au.GN {C:Ctx}{f:FuncId}{args:List AV}{T:TypeId}{bI:Nat}{xss:List (List AV)}{rest:List AV}(h:au C f args λr=>r=.own (some rest) T bI xss):au C f args λr=>r=.val (.eS (.sl xss::rest)):=⟨h.1,λbh w vs h1 h2 h3 h4 h5=>(h.2 bh w vs h1 h2 h3 h4 h5).mono λe w' ⟨v,r,q1,q2,q3,q4⟩=>by subst q2;exact⟨v,_,q1,rfl,nH.GN q3,q4⟩⟩
section
variable (N:iA->List Dg)
end
def ain (s:List fk)(d:Dg):List Dg:=bU (uW s d).1
theorem Lw:∀{l:List bB}{acc:List Dg},Ko acc->Ko (l.foldl Kc acc)|[],_,h=>h|x::l,acc,h=>Lw (l:=l) (by unfold Kc;split;exact h;exact Qs h _)
theorem Xi (p:iA):Ko (bU p):=by unfold bU;split;exact List.Pairwise.nil;exact Lw (Xa List.Pairwise.nil)
abbrev Vx:=bB×Bytes×Bool
def Gm (v:Vx):List AV:=cI v.1++[.str v.2.1,.bool v.2.2]
def pY (e:Ed):List AV:=[.int .i64 e.1,.int .i64 e.2]
def cGr (g:List Vx×List Ed):List AV:=[.sl (g.1.map Gm),.sl (g.2.map pY)]
theorem GP {l:List Vx}:∀zs,zs∈l.map Gm->zs.length=35:=λzs h=>by obtain⟨x,-,rfl⟩:=aB.1 h;rfl
theorem wT {l:List Ed}:∀zs,zs∈l.map pY->zs.length=2:=λzs h=>by obtain⟨x,-,rfl⟩:=aB.1 h;rfl
def aiA:List gC:=FB++[.str,.bool]
theorem Xp:dZ Tryz.prog 40 123=some aiA:=kK
theorem zU:dZ Tryz.prog 40 125=some [.int .i64,.int .i64]:=kK
theorem aaU:Tryz.prog.eqGuardType Tryz.prog.depth 123=false:=kK
theorem DC:Tryz.prog.eqGuardType Tryz.prog.depth 125=false:=kK
theorem aeY (a b:Ed):sameAs (pY a) (pY b)=decide (a=b):=by obtain⟨a1,a2⟩:=a;obtain⟨b1,b2⟩:=b;show(nK (.int .i64 a1) (.int .i64 b1)&&(nK (.int .i64 a2) (.int .i64 b2)&&true))=_;simp only[nK,xI,VJ,iN,gw,pG];rw[jq];simp
theorem aiB (a b:Vx):sameAs (Gm a) (Gm b)=decide (a=b):=by obtain⟨a1,a2,a3⟩:=a;obtain⟨b1,b2,b3⟩:=b;show sameAs (cI a1++[.str a2,.bool a3]) (cI b1++[.str b2,.bool b3])=_;rw[yy (show(cI a1).length=(cI b1).length from rfl),UM];simp only[sameAs,nK,pG];rw[jq];simp
theorem aiC {a b:Ed}{K:Bool->Prop}(h:K (decide (a=b))):Al λt:Bool=>t=sameAs (pY a) (pY b)->K t:=⟨λt ht=>by rw[ht,aeY];exact h⟩
theorem aeZ {a b:Ed}{K:Bool->Prop}(h:K (!decide (a=b))):Al λt:Bool=>t=!sameAs (pY a) (pY b)->K t:=⟨λt ht=>by rw[ht,aeY];exact h⟩
theorem aiD {a b:Vx}{K:Bool->Prop}(h:K (!decide (a=b))):Al λt:Bool=>t=!sameAs (Gm a) (Gm b)->K t:=⟨λt ht=>by rw[ht,aiB];exact h⟩
def ES (l:List bB)(i:bB):Int:=if l.findIdx (λj=>decide (j=i))<l.length then((l.findIdx λj=>decide (j=i):Nat):Int)else-1
theorem agq {l:List bB}{i:bB}{k:Nat}(hk:k<l.length)(hn:i∉l.take k)(h:l[k]=i):ES l i=(k:Int):=by
 have :l.findIdx (λj=>decide (j=i))=k:=by rw[List.findIdx_eq hk];refine⟨ai h,λj hj=>ah λe=>hn ?_⟩;rw[<-e];exact List.mem_take_iff_getElem.2 ⟨j,oO,rfl⟩
 unfold ES;rw[this,af hk]
theorem agr {l:List bB}{i:bB}(h:i∉l):ES l i=-1:=by unfold ES;rw[aa λg=>by obtain⟨j,hj,e⟩:=DD.1 g;exact h (cL e▸hj)]
theorem Jb (g:List Vx×List Ed)(i:bB)(hl:g.1.length<=2^47):au C 73 [.agg (cGr g),.agg (cI i)] (λr=>r=.val (.int .i64 (ES (g.1.map λv=>v.1) i))):=by
 obtain⟨V,E⟩:=g;simp only at hl;unfold cGr;refine aq Tryz.func73 rfl rfl rfl (bW 22 (λk:Nat=>[(2,.ptr 2 0),(3,.ptr 3 0),(5,.p (.int .i64 k))]) (λ_=>[(2,[.p (.sl (V.map Gm)),.p (.sl (E.map pY))]),(3,aI (cI i))]) (λk=>k<=V.length/\i∉(V.map λv=>v.1).take k) (λk=>V.length-k) 0 ⟨zL,by simp⟩ kK wS oS ?_);rintro k ⟨hk,hn⟩;refine cu (λhlt=>?_) (λhge=>?_);have DU:k<(V.map λv=>v.1).length:=by rw[aj];exact hlt
 refine cw 7 kK (ix hlt (pZ (jH (a:=V[k].1) (b:=i) ?_)));by_cases h:V[k].1=i;rw[ai h,agq DU hn (by rw[mg];exact h)];exact rfl;rw[ah h];exact nx (k+1) (aU (k+1) ⟨hlt,sw DU hn (by rw[mg];exact h)⟩ oO kK wS oS);rw[agr (by rw[fe (by rw[aj];omega)]at hn;exact hn)];exact rfl
theorem Tq (a b:Ed):au C 144 [.agg (pY a),.agg (pY b)] (λr=>r=.val (.bool (eZ a b))):=by obtain⟨a1,a2⟩:=a;obtain⟨b1,b2⟩:=b;refine aq Tryz.func144 rfl rfl rfl ⟨none,aQ (λh=>?_) (λh=>?_)⟩;rw[(nE (a1,a2) (b1,b2)).2 (.inl h)];exact rfl;refine aH (λh2=>?_) (λh2=>?_);have h2:a1=b1:=h2;rw[show eZ (a1,a2) (b1,b2)=decide (a2<b2)by unfold eZ;simp[h2]];exact⟨λb hb=>by rw[hb];rfl⟩;have h2:a1≠b1:=h2;rw[show eZ (a1,a2) (b1,b2)=false by unfold eZ;have h:¬a1<b1:=h;simp[h2];omega];exact rfl
theorem Xq {l:List Ed}{e:Ed}{k:Nat}(hk:k<l.length)(ht:∀j (h:j<l.length),j<k->eZ l[j] e=true)(hb:eZ l[k] e=true):∀j (h:j<l.length),j<k+1->eZ l[j] e=true:=λj hj hjk=>by by_cases g:j=k;subst g;exact hb;exact ht j hj oO
theorem LF {l:List Ed}{e:Ed}{k:Nat}(hk:k<=l.length)(ht:∀j (h:j<l.length),j<k->eZ l[j] e=true)(h:∀h:k<l.length,eZ l[k] e=false):l.takeWhile (eZ · e)=l.take k/\l.dropWhile (eZ · e)=l.drop k:=by
 induction k generalizing l with
 |zero=>
  cases l with
  |nil=>exact⟨rfl,rfl⟩
  |cons a l=>have h:eZ a e=false:=h (by simp);simp[h]
 |succ k ih=>
  cases l with
  |nil=>exact⟨rfl,rfl⟩
  |cons a l=>have h0:eZ a e=true:=ht 0 (by simp) oO;have ih:=ih (l:=l) (by simpa using hk) (λj hj hjk=>by have :=ht (j+1) (by simpa using hj) oO;simpa using this) (λhj=>by have :=h (by simpa using hj);simpa using this);simp[h0,ih]
theorem QJ (l:List Ed)(e:Ed)(hl:l.length<=2^40):au C 72 [.sl (l.map pY),.agg (pY e)] (λr=>r=.val (.sl ((pS l e).map pY))):=by
 refine ia [6] Tryz.func72 rfl rfl rfl (bW 47 (λk:Nat=>[(0,.p (.sl (l.map pY))),(3,.ptr 3 0),(5,.p (.int .i64 k))]) (λ_=>[(3,aI (pY e))]) (λk=>k<=l.length/\∀j (h:j<l.length),j<k->eZ l[j] e=true) (λk=>l.length-k) 0 ⟨zL,λj _ h=>absurd h (kC _)⟩ kK wS oS ?_);rintro k ⟨hk,ht⟩;refine share (T:=?T1) (λH1=>?m1) ?r1;case m1=>
  refine cw 11 kK (cu (λhlt=>?_) (λhge=>?_));refine ix hlt ⟨_,(Tq l[k] e).cut,?_⟩;cases hb:eZ l[k] e with
  |true=>exact nx (k+1) (aU (k+1) ⟨hlt,Xq hlt ht hb⟩ oO kK wS oS)
  |false=>
   obtain⟨e1,e2⟩:=LF hk ht λ_=>hb;refine cw 11 kK (cu (λ_=>?_) (λg=>absurd hlt g));refine ix hlt ⟨_,zU,DC,rfl,rfl,aiC (a:=l[k]) (b:=e) ?_⟩;by_cases h:l[k]=e;rw[ai h];have :pS l e=l:=by unfold pS;rw[e2,bM hlt,h];exact af rfl
   rw[this];exact rfl;rw[ah h];have hI:pS l e=l.take k++[e]++l.drop k:=by unfold pS;rw[e2,e1,aa (by rw[List.head?_drop,an hlt];exactλq=>h (ak q)),bl];rfl
   refine ee 47 [(0,.p (.sl (l.map pY))),(3,.ptr 3 0),(5,.p (.int .i64 (k:Int)))] [(3,aI (pY e))] kK wS oS ?_;revert hI;exact H1.out
  obtain⟨e1,e2⟩:=LF hk ht λg=>absurd g hge;have hI:pS l e=l.take k++[e]++l.drop k:=by unfold pS;rw[e2,e1,aa (by rw[cQ (fM hge)];simp),bl];rfl
  refine cw 11 kK (cu (λg=>absurd g hge) (λ_=>ee 47 [(0,.p (.sl (l.map pY))),(3,.ptr 3 0),(5,.p (.int .i64 (k:Int)))] [(3,aI (pY e))] kK wS oS ?_));revert hI;exact H1.out
 case r1=>intro hI;rw[hI];refine⟨.plan ⟨[5,6],[4,7],[],[3]⟩ (.one 0 (.one 1 (.one 2 (.one 3 (.one 5 (.one 6 (.alt 4 (.alt 7 (.one 8 .fin) .stop) .stop))))))) none,kK,?_⟩;refine⟨_,rfl,_,rfl,_,rfl,?_⟩;refine⟨.p (.sl ((l.take k).map pY)),⟨k,rfl,zL,by rw[aj];exact hk,wT,(l.take k).map pY,by simp[rZ],rfl⟩,?_⟩;refine⟨_,rfl,rfl,_,rfl,rfl,rfl,?_⟩;refine⟨wT,by show((l.take k).map pY).length*16<=_;rw[aj,aN];omega,?_⟩;refine⟨rfl,?_⟩;refine⟨wT,wT (l:=[e]),by show(((l.take k).map pY).length+1)*16<=_;rw[aj,aN];omega,(l.take k++[e]).map pY,by rw[aF];rfl,?_⟩;refine⟨_,rfl,?_⟩;refine⟨k,rfl,by rw[aj];exact hk,av _,wT,(l.drop k).map pY,by rw[fe (av _),List.map_drop],?_⟩;refine⟨wT,wT,by show(((l.take k++[e]).map pY).length+((l.drop k).map pY).length)*16<=_;simp only[aj,ay,aN,eo,aS,bA];omega,(l.take k++[e]++l.drop k).map pY,by rw[<-aF],?_⟩;exact .inr rfl
theorem aaV (g h:List Vx×List Ed)(h1:g.1.length<=2^47)(h2:g.2.length<=2^47):au C 27 [.agg (cGr g),.agg (cGr h)] (λr=>r=.val (.bool (decide (g=h)))):=by
 obtain⟨V,E⟩:=g;obtain⟨V2,E2⟩:=h;simp only at h1 h2;unfold cGr;have no:¬(V=V2/\E=E2)->decide ((V,E)=(V2,E2))=false:=λq=>ah λe=>q (by injection e with e1 e2;exact⟨e1,e2⟩);refine aq Tryz.func27 rfl rfl rfl ⟨none,eD (λq=>?_) (λq=>?_)⟩;rw[no λg=>q (by rw[g.1])];exact rfl;have l1:V.length=V2.length:=by have q:((V.map Gm).length:Int)=((V2.map Gm).length:Int):=q;rw[aj,aj]at q;omega
 refine eD (λq=>?_) (λq=>?_);rw[no λg=>q (by rw[g.2])];exact rfl;have l2:E.length=E2.length:=by have q:((E.map pY).length:Int)=((E2.map pY).length:Int):=q;rw[aj,aj]at q;omega
 refine bW 59 (λk:Nat=>[(2,.ptr 2 0),(3,.ptr 3 0),(5,.p (.int .i64 (k:Int)))]) (λ_=>[(2,[.p (.sl (V.map Gm)),.p (.sl (E.map pY))]),(3,[.p (.sl (V2.map Gm)),.p (.sl (E2.map pY))])]) (λk=>k<=V.length/\V.take k=V2.take k) (λk=>V.length-k) 0 ⟨zL,rfl⟩ kK wS oS ?_;rintro k ⟨hk,he⟩;refine cu (λhlt=>?_) (λhge=>?_);have dw:k<V2.length:=oO
 refine cw 10 kK (ix hlt (ix dw ⟨aiA,Xp,aaU,rfl,rfl,aiD (a:=V[k]) (b:=V2[k]) ?_⟩));by_cases h:V[k]=V2[k];rw[ai h];exact nx (k+1) (aU (k+1) ⟨hlt,by rw[bQ hlt,bQ dw,he,h]⟩ oO kK wS oS);rw[ah h,no λg=>h (by simp only[g.1])];exact rfl;obtain rfl:k=V.length:=oO
 rw[aP,l1,aP]at he;subst he;refine bW 59 (λk:Nat=>[(2,.ptr 2 0),(3,.ptr 3 0),(6,.p (.int .i64 (k:Int)))]) (λ_=>[(2,[.p (.sl (V.map Gm)),.p (.sl (E.map pY))]),(3,[.p (.sl (V.map Gm)),.p (.sl (E2.map pY))])]) (λk=>k<=E.length/\E.take k=E2.take k) (λk=>E.length-k) 0 ⟨zL,rfl⟩ kK wS oS ?_;rintro k ⟨hk,he⟩;refine cu (λhlt=>?_) (λhge=>?_);have dw:k<E2.length:=oO
 refine cw 10 kK (ix hlt (ix dw ⟨_,zU,DC,rfl,rfl,aeZ (a:=E[k]) (b:=E2[k]) ?_⟩));by_cases h:E[k]=E2[k];rw[ai h];exact nx (k+1) (aU (k+1) ⟨hlt,by rw[bQ hlt,bQ dw,he,h]⟩ oO kK wS oS);rw[ah h,no λg=>h (by simp only[g.2])];exact rfl;obtain rfl:k=E.length:=oO
 rw[aP,l2,aP]at he;subst he;rw[ai rfl];exact rfl
end Qv
open Go Go.Proofs Go.RowKit Go.Sort
namespace Qv
theorem Rj (g:FuncId):au C 202 [.sl [],.int .i64 0,.int .i64 0,.fn (.func g) [] []] (λr=>r=.val (.eS [])):=by refine aq Tryz.func202 rfl rfl rfl ⟨1,rfl,bW 53 (λ_:Unit=>[(2,.p (.int .i64 0)),(8,.p (.int .i64 1))]) (λ_=>[]) (λ_=>True) (λ_=>0) () trivial rfl wS trivial ?_⟩;intro _ _;refine aQ (λh=>absurd h dD) (λ_=>?_);exact rfl
theorem Rk (g:FuncId):au C 142 [.sl [],.int .i64 0,.int .i64 0,.int .i64 0,.fn (.func g) [] []] (λr=>r=.val (.eS [])):=by refine aq Tryz.func142 rfl rfl rfl (bW 148 (λ_:Unit=>[(0,.p (.sl [])),(1,.p (.int .i64 0)),(2,.p (.int .i64 0)),(4,.p (.fn (.func g) [] []))]) (λ_=>[]) (λ_=>True) (λ_=>0) () trivial rfl wS trivial ?_);intro _ _;refine⟨0,rfl,aQ (λ_=>?_) (λh=>absurd (show(0:Int)<=12 by decide) h)⟩;exact cl (Rj g) rfl
theorem Rl (g:FuncId):au C 68 [.sl [],.fn (.func g) [] []] (λr=>r=.val (.eS [])):=by exact aq Tryz.func68 rfl rfl rfl ⟨0,rfl,cl yV (cl (Rk g) rfl)⟩
abbrev EdS:={e:Ed//(-1<=e.1/\e.1<=2^30)/\(-1<=e.2/\e.2<=2^30)}
instance:Inhabited EdS:=⟨⟨(0,0),dD⟩⟩
def Vn (e:EdS):List AV:=pY e.1
def EW (a b:EdS):Int:=To a.1 b.1
theorem ad0 (x:EdS):ady (Vn x):=by intro y hy;have :=br.1 (show(Vn x).all (λy=>match y with|.int _ _=>true|_=>false)=true from rfl) y hy;cases y<;>first|exact⟨_,_,rfl⟩|cases this
theorem alc:SWO (Proofs.ltOf EW):=⟨λx=>by unfold Proofs.ltOf EW;exact ah λh=>ER x.1 ((qO _ _).1 h),λx y z h1 h2=>by unfold Proofs.ltOf EW at*;exact ai ((qO _ _).2 (DA ((qO _ _).1 (cL h1)) ((qO _ _).1 (cL h2)))),λx y z h1 h2=>by unfold Proofs.ltOf EW at*;refine ah λh=>?_;have h1:=pN h1;have h2:=pN h2;rw[qO,nE]at h h1 h2;omega⟩
theorem ad1 (a b:EdS)(W:World):Calls Tryz.prog 69 #[.agg (va Vn a).toArray,.agg (va Vn b).toArray] W λe w'=>e=.returned (.int .i64 (EW a b))/\∃q os',w'=grow (W.drewN q) os':=by
 obtain⟨⟨a1,a2⟩,⟨h1,h2⟩,h3,h4⟩:=a;obtain⟨⟨b1,b2⟩,⟨g1,g2⟩,g3,g4⟩:=b;simp only at h1 h2 h3 h4 g1 g2 g3 g4;have e:EW ⟨(a1,a2),⟨h1,h2⟩,h3,h4⟩ ⟨(b1,b2),⟨g1,g2⟩,g3,g4⟩=if a1≠b1 then a1-b1 else a2-b2:=rfl;rw[e];show Calls Tryz.prog 69 #[.agg #[.int .i64 a1,.int .i64 a2],.agg #[.int .i64 b1,.int .i64 b2]] W _;clear e;by_cases h:a1=b1
 ·subst h;rw[aa (λg=>g rfl)];have w1:IntKind.i64.wrap (a2-b2)=a2-b2:=wrap64 oO oO;go_enter Tryz.func69,Tryz.ntmps69;go_wp2;go_ret;exact⟨rfl,0,#[.cells #[.int .i64 a1,.int .i64 a2] 125,.cells #[.int .i64 a1,.int .i64 b2] 125],rfl⟩
 rw[af h];have hne:(a1==b1)=false:=CL.2 h;have akV:(a1 !=b1)=true:=by simpa using h
 have w1:IntKind.i64.wrap (a1-b1)=a1-b1:=wrap64 oO oO;go_enter Tryz.func69,Tryz.ntmps69;go_wp2;go_ret;exact⟨rfl,0,#[.cells #[.int .i64 a1,.int .i64 a2] 125,.cells #[.int .i64 b1,.int .i64 b2] 125],rfl⟩
theorem XJ (Cx:Ctx)(hP:Cx.P=Tryz.prog)(l:List EdS)(hl:l.length<=2^40):VI Cx 68 125 2 (l.map Vn).flatten [.fn (.func 69) [] []] (λr ys=>r=false/\ys=((l.mergeSort λx y=>!decide (EW y x<0)).map Vn).flatten):=EF Vn 2 (λ_=>rfl) ad0 Tryz.sortE dD Tryz.isAgg125 Tryz.sizeOf125 EW alc (λx y h1 h2=>wu (EP x.1 y.1 (λg=>h1 ((qO _ _).2 g)) (λg=>h2 ((qO _ _).2 g)))) 69 (enters_of Tryz.func69 kK rfl) ad1 Cx hP ⟨_,Tryz.func68,rfl,rfl⟩ 125 l oO
end Qv
open Go Go.Proofs Go.RowKit
namespace Qv
end Qv
