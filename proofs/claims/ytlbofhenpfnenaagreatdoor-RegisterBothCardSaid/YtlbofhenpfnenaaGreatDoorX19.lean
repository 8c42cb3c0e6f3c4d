/- Part 26 of the proof: its lemmas. No condition. -/
import Derived.Test.YtlbofhenpfnenaaGreatDoorX7
import Derived.Test.YtlbofhenpfnenaaGreatDoorX8
import Derived.Test.YtlbofhenpfnenaaGreatDoorX13
import Derived.Test.YtlbofhenpfnenaaGreatDoorX14
set_option maxRecDepth 10000
set_option maxHeartbeats 80000000
set_option linter.all false
open Go Go.Proofs Go.RowKit
namespace Qv
theorem abD (file:bf)(type:Int)(parent:bf)(name:Bytes)(mode:Int)(data:Bytes)(dc dy:bf)(lines:List Bytes)(over:List bf)(hl:lines.length<=2^47)(ho:over.length<=2^47):aj C 214 [.agg (cC ⟨3,file,type,parent,name,mode,data,dc,dy,lines,over⟩)] (λr=>r=.val (.bool (bG (eE ⟨3,file,type,parent,name,mode,data,dc,dy,lines,over⟩)))):=by
 rw[show eE ⟨3,file,type,parent,name,mode,data,dc,dy,lines,over⟩=_ from rfl];unfold eE;simp only[Int.reduceEq,if_true,if_false];refine bn uO [] Tryz.func214 rfl rfl rfl ?_;refine⟨[3],bZ (cells:=[.p (.int .i64 3)]) (ys:=[.int .i64 3]) rfl rfl rfl ?_⟩;refine⟨none,?_⟩;refine cl (iz [1] 3 false dD dD).dL ?_;refine aD (λdY=>?_) (λdY=>?_);rotate_left;have dY:type≠0:=dY;show dh.val (.bool false)=_;simp[bG,dY];have dY:type=0:=dY;refine cl (iz [2,3,4,5,6] 3 true dD dD).dL ?_;refine cl (iz [2] 3 false dD dD).dL ?_;refine rB ?_;refine jK (a:=parent) (b:=aT) ?_;by_cases eF:parent=aT;rotate_left;rw[ak eF];show dh.val (.bool false)=_;simp[bG,eF];rw[av eF];refine aD (λdS=>?_) (λdS=>?_);rotate_left;have dS:name≠[]:=dS;show dh.val (.bool false)=_;simp[bG,dS];have dS:name=[]:=dS;refine cl (iz [3] 3 true dD dD).dL ?_;refine cl (iz [4] 3 false dD dD).dL ?_;refine aD (λdW=>?_) (λdW=>?_);rotate_left;have dW:data≠[]:=dW;show dh.val (.bool false)=_;simp[bG,dW];have dW:data=[]:=dW;refine cl (iz [5,6] 3 false dD dD).dL ?_;refine rB ?_;refine jK (a:=dc) (b:=aT) ?_;by_cases mT:dc=aT;rotate_left;rw[ak mT];show dh.val (.bool false)=_;simp[bG,mT];rw[av mT];refine rB ?_;refine jK (a:=dy) (b:=aT) ?_;by_cases mU:dy=aT;rotate_left;rw[ak mU];show dh.val (.bool false)=_;simp[bG,mU];rw[av mU];refine cl (iz [5] 3 false dD dD).dL ?_;refine aD (λcT=>?_) (λcT=>?_);rotate_left;have cT:lines≠[]:=λe=>cT (by rw[e];rfl);show dh.val (.bool false)=_;simp[bG,cT];have cT:lines=[]:=by have h:(((lines.map oo).length:Nat):Int)=0:=cT;rw[ai]at h;exact iO oO
 refine cl (iz [2,3,4,6,7] 3 true dD dD).dL ?_;show dh.val (.bool true)=_;simp[bG,dY,eF,dS,dW,mT,mU,cT]
abbrev qn (s:List bK):Prop:=s.Pairwise λa b=>eZ a.id b.id<0
theorem lR:∀{l:List Int},ep l=0↔∀e,e∈l->e=0|[]=>⟨λ_ e h=>(by cases h),λ_=>rfl⟩|a::l=>by by_cases h:a=0;rw[eW h,lR];constructor;intro g e he;rcases aG.1 he with rfl|he;exact h;exact g e he;exactλg e he=>g e (bh _ he);rw[eA h];exact⟨λg=>absurd g h,λg=>g a (by simp)⟩
structure OkS (s:List bK):Prop where
 JR:s.length<=400
 AJ:qn s
 id:∀x,x∈s->mL x.pat=(x.id,0)
 FY:∀x,x∈s->∀d,d∈cu x.pat->d∈dJ s
 order:(bB s).length=s.length
 refs:∀x,x∈s->ux s x.pat x.id=0
theorem ab6 {s:List bK}(h:xo s=0):OkS s:=by
 unfold xo at h;by_cases h1:400<s.length;rw[af h1]at h;exact absurd h dD;rw[aa h1]at h;by_cases h2:ep ((List.range s.length).map (EE s))≠0;rw[af h2]at h;exact absurd h h2;rw[aa h2]at h;by_cases h3:s.all (λx=>sP (dJ s) (cu x.pat))=false;rw[af h3]at h;exact absurd h dD;rw[aa h3]at h;by_cases h4:(bB s).length<s.length;rw[af h4]at h;exact absurd h dD;rw[aa h4]at h;have h2:=lR.1 (ee.1 h2);have hst:∀(i:Nat)(hi:i<s.length),mL s[i].pat=(s[i].id,0)/\(0<i->eZ (s.getD (i-1) qQ).id s[i].id<0):=λi hi=>by have :=h2 (EE s i) (aA.2 ⟨i,iL.2 hi,rfl⟩);unfold EE at this;rw[show s.getD i qQ=s[i]from by simp[List.getD,hi]]at this;by_cases k1:(mL s[i].pat).2≠0;rw[af k1]at this;exact absurd this k1;rw[aa k1]at this;by_cases k2:(mL s[i].pat).1≠s[i].id;rw[af k2]at this;exact absurd this dD;rw[aa k2]at this;have k2:=ee.1 k2;refine⟨Prod.ext k2 (ee.1 k1),λh0=>?_⟩;rw[k2]at this;by_cases k3:0<i/\0<=eZ (s.getD (i-1) qQ).id s[i].id;rw[af k3]at this;exact absurd this dD;omega
 refine⟨oO,?_,λx hx=>?_,λx hx d hd=>?_,?_,λx hx=>?_⟩;have step:∀(i:Nat)(h1:i+1<s.length),eZ s[i].id s[i+1].id<0:=λi h1=>by have :=(hst (i+1) h1).2 (Nat.succ_pos _);rw[DC,show s.getD i qQ=s[i]from by simp[List.getD,show i<s.length by omega]]at this;exact this
 refine qp.2 ?_;intro i j hi hj hij;have :∀(k:Nat)(hk:i+1+k<s.length),eZ s[i].id s[i+1+k].id<0:=λk=>by
  induction k with
  |zero=>exactλhk=>step i hk
  |succ k ih=>exactλhk=>kD (ih oO) (step (i+1+k) hk)
 have :=this (j-(i+1)) oO;rw[show s[i+1+(j-(i+1))]=s[j]from by congr 1;omega]at this;exact this;obtain⟨i,hi,rfl⟩:=ia hx;exact(hst i hi).1;have h3:s.all (λx=>sP (dJ s) (cu x.pat))=true:=by simpa using h3
 have :=bU.1 h3 x hx;unfold sP at this;simpa using bU.1 this d hd;have :=qR s;omega;exact lR.1 h _ (fG _ (aA.2 ⟨x,hx,rfl⟩))
theorem Oh {s:List bK}(h:qn s):(dJ s).Nodup:=by unfold dJ;rw[DG];exact DH.2 (h.imp λ{a b} g e=>by rw[e]at g;exact kr _ g)
theorem Jb {s:List bK}(h:qn s){x y:bK}(hx:x∈s)(hy:y∈s)(e:x.id=y.id):x=y:=by
 induction s with
 |nil=>cases hx
 |cons z s ih=>obtain⟨h1,h2⟩:=de.1 h;rcases aG.1 hx with hxz|hx2;rcases aG.1 hy with hyz|hy2;rw[hxz,hyz];have :=h1 y hy2;rw[<-hxz,e]at this;exact absurd this (kr _);rcases aG.1 hy with hyz|hy2;have :=h1 x hx2;rw[<-hyz,e]at this;exact absurd this (kr _);exact ih h2 hx2 hy2
theorem kz {s:List bK}(h:qn s){x:bK}(hx:x∈s):gh s x.id=(x.pat,true):=by
 induction s with
 |nil=>cases hx
 |cons z s ih=>obtain⟨h1,h2⟩:=de.1 h;unfold gh;rcases aG.1 hx with rfl|hx;rw[af rfl];rw[aa λe=>?_,ih h2 hx];have :=h1 x hx;rw[e]at this;exact kr _ this
theorem EW {s:List bK}{d:Dg}(h:d∉dJ s):gh s d=(Dn,false):=by
 induction s with
 |nil=>rfl
 |cons z s ih=>unfold gh;rw[aa λe=>h (by unfold dJ;simp[e]),ih λg=>h (by unfold dJ at*;simp at g⊢;exact .inr g)]
def qE (out:List Dg)(x:bK):Bool:=!decide (x.id∈out)&&sP out (cu x.pat)
def tP (s:List bK):Nat->List Dg->List Dg|0,out=>out|n+1,out=>match s.find? (qE out)with|none=>out|some x=>tP s n (out++[x.id])
theorem FZ {out:List Dg}{y:bK}:∀{l:List bK},(∀x,x∈l->eZ y.id x.id<0)->oE out l (some y)=some y|[],_=>rfl|x::l,h=>by unfold oE;rw[aa,FZ λz hz=>h z (bh _ hz)];unfold IF;simp only[aY,decide_eq_true_eq,not_and];intro _ _ g;exact kr _ (kD g (h x (by simp)))
theorem BK {out:List Dg}:∀{l:List bK},qn l->oE out l none=l.find? (qE out)
 |[],_=>rfl
 |x::l,h=>by
  obtain⟨h1,h2⟩:=de.1 h;unfold oE;rw[mo,show IF out x none=qE out x from rfl];cases hq:qE out x with
  |true=>rw[af rfl,FZ h1]
  |false=>rw[aa dD,BK h2]
theorem DI {s:List bK}(h:qn s):∀(n:Nat)(out:List Dg),tP s n out=oJ s n out
 |0,_=>rfl
 |n+1,out=>by
  unfold tP oJ;rw[BK h];cases s.find? (qE out)with
  |none=>rfl
  |some x=>exact DI h n _
theorem zN {s:List bK}(h:qn s):∀(n:Nat)(out:List Dg),out.Nodup->(∀d,d∈out->d∈dJ s)->(oJ s n out).Nodup/\(∀d,d∈oJ s n out->d∈dJ s)
 |0,out,h1,h2=>⟨h1,h2⟩
 |n+1,out,h1,h2=>by
  unfold oJ;rw[BK h];cases hq:s.find? (qE out)with
  |none=>exact⟨h1,h2⟩
  |some x=>have hx:=nY hq;have hn:=mq hq;unfold qE at hn;simp only[aY,eP,decide_eq_false_iff_not]at hn;refine zN h n _ ?_ λd hd=>?_;rw[gW];refine⟨h1,by simp,λa ha b hb e=>?_⟩;obtain rfl:=aO.1 hb;subst e;exact hn.1 ha;rcases aW.1 hd with hd|hd;exact h2 d hd;obtain rfl:=aO.1 hd;exact aA.2 ⟨x,hx,rfl⟩
theorem rS {α:Type}[DecidableEq α]:∀{l m:List α},l.Nodup->(∀x,x∈l->x∈m)->l.length<=m.length|[],_,_,_=>zL|x::l,m,h1,h2=>by obtain⟨g1,g2⟩:=jh.1 h1;have hx:x∈m:=h2 x (by simp);have :=rS (m:=m.erase x) g2 λy hy=>(List.mem_erase_of_ne (λ(e:y=x)=>g1 (e▸hy))).2 (h2 y (bh _ hy));rw[List.length_erase_of_mem hx]at this;have hpos:=List.length_pos_of_mem hx;simp only[aI];omega
theorem Uk {α:Type}[DecidableEq α]:∀{l m:List α},l.Nodup->(∀x,x∈l->x∈m)->m.length<=l.length->∀x,x∈m->x∈l:=by
 intro l m h1 h2 h3 x hx;refine gR λhn=>?_;have h4:(x::l).Nodup:=jh.2 ⟨hn,h1⟩;have h5:(x::l).length<=m.length:=rS h4 λy hy=>by rcases aG.1 hy with rfl|hy;exact hx;exact h2 y hy
 simp only[aI]at h5;omega
theorem jQ {s:List bK}(h:OkS s)(d:Dg):d∈bB s↔d∈dJ s:=by
 obtain⟨h1,h2⟩:=zN h.AJ s.length [] qq λd hd=>by cases hd
 exact⟨h2 d,Uk h1 h2 (by rw[show(oJ s s.length []).length=s.length from h.order];unfold dJ;simp) d⟩
def vQ (s:List bK)(d:Dg):List Dg:=cu (gh s d).1
def ab9 (s:List bK)(out:List Dg):List Dg:=(out.flatMap (vQ s)).foldl nS out
def qu (s:List bK):Nat->List Dg->List Dg|0,out=>out|n+1,out=>ab9 s (qu s n out)
def VY (s:List bK)(d:Dg):List Dg:=qu s s.length [d]
theorem LZ:∀{l:List bf}{acc:List Dg},BD acc->BD (l.foldl xk acc)|[],_,h=>h|x::l,acc,h=>LZ (l:=l) (by unfold xk;split;exact h;exact Rx h _)
theorem Ma (p:fW):BD (cu p):=by unfold cu;split;exact List.Pairwise.nil;exact LZ (LQ List.Pairwise.nil)
theorem Ye {s:List bK}(hc:∀x,x∈s->∀d,d∈cu x.pat->d∈dJ s)(hA:qn s){out:List Dg}(h1:BD out)(h2:∀d,d∈out->d∈dJ s)(l:List Dg)(hl:∀d,d∈l->d∈dJ s):BD (l.foldl nS out)/\(∀d,d∈l.foldl nS out->d∈dJ s):=by refine⟨LQ h1,λd hd=>?_⟩;rcases EO.1 hd with h|h;exact hl d h;exact h2 d h
theorem Mb {s:List bK}(hc:∀x,x∈s->∀d,d∈cu x.pat->d∈dJ s)(hA:qn s){e:Dg}(he:e∈dJ s):∀d,d∈vQ s e->d∈dJ s:=by intro d hd;obtain⟨x,hx,rfl⟩:=aA.1 he;unfold vQ at hd;rw[kz hA hx]at hd;exact hc x hx d hd
theorem xH {s:List bK}(hc:∀x,x∈s->∀d,d∈cu x.pat->d∈dJ s)(hA:qn s){out:List Dg}(h1:BD out)(h2:∀d,d∈out->d∈dJ s):∀n,BD (qu s n out)/\∀d,d∈qu s n out->d∈dJ s|0=>⟨h1,h2⟩|n+1=>by obtain⟨a,b⟩:=xH hc hA h1 h2 n;refine Ye hc hA a b _ λd hd=>?_;obtain⟨e,he,hd⟩:=dH.1 hd;exact Mb hc hA (b e he) d hd
theorem RJ {s:List bK}{l:List Dg}(h1:BD l)(h2:∀d,d∈l->d∈dJ s):l.length<=s.length:=by
 have h3:l.Nodup:=h1.imp λ{a b} h e=>by subst e;exact kr a h
 have :=rS h3 h2;rwa[dJ,ai]at this
def nE (s:List bK)(p q:Dg):Bool:=decide (q∈dJ s)&&decide (q∈VY s p)
def fV (s:List bK)(x:bf):List bf:=if(uy (cq s) x).2=true then sr (pL s) x else[]
theorem ng.DJ {aZ:Nat->Nat->Prop}{B:Nat}{w':World}{v:Value}{T:TypeId}{bN:Nat}{xss:List (List AV)}{rest:List AV}(h:ng aZ B w' v (.own (some rest) T bN xss)):ng aZ B w' v (.val (.eY (.sl xss::rest))):=by
 obtain⟨b,c,cs,fr,us,rfl,hB,hbs,h0,hlen,AR,hheap,hfr,hroom,hcells,qB⟩:=h;obtain⟨hl,hr⟩:=qB rest rfl;have hs:ng aZ B w' (.slice (some ⟨b,0,none⟩) xss.length c) (.val (.sl xss)):=ng.zK (T:=T) (bN:=bN) ⟨b,c,cs,fr,[],rfl,hB,hbs,h0,hlen,AR,hheap,hfr,hroom,hcells,λr hr=>by cases hr⟩;show cZ (mz aZ B) w' (.tuple (.slice (some ⟨b,0,none⟩) xss.length c::us).toArray) (.eY (.sl xss::rest));refine .eY _ _ (by simp[hl]) λi u x h1 h2=>?_;cases i with
 |zero=>simp at h1 h2;subst h1;subst h2;exact hs
 |succ i=>exact(hr i u x (by simpa using h1) (by simpa using h2)).keep (λb' o h=>h.imp id λq=>q.1) (λ_ _ _ _ h=>h) (.refl _ _)
theorem aj.DJ {C:Ctx}{f:FuncId}{args:List AV}{T:TypeId}{bN:Nat}{xss:List (List AV)}{rest:List AV}(h:aj C f args λr=>r=.own (some rest) T bN xss):aj C f args λr=>r=.val (.eY (.sl xss::rest)):=⟨h.1,λaZ w vs h1 h2 h3 h4 h5=>(h.2 aZ w vs h1 h2 h3 h4 h5).mono λe w' ⟨v,r,q1,q2,q3,q4⟩=>by subst q2;exact⟨v,_,q1,rfl,ng.DJ q3,q4⟩⟩
def Jc (out:List Dg)(d:Dg):List Dg:=if d∈out then out else out++[d]
def uS (out l:List Dg):List Dg:=l.foldl Jc out
theorem ab7 {out:List Dg}{d x:Dg}:x∈Jc out d↔x=d\/x∈out:=by unfold Jc;split;rename_i h;exact⟨.inr,λg=>g.elim (λe=>e▸h) id⟩;rw[aW,aO];exact⟨λg=>g.elim .inr .inl,λg=>g.elim .inr .inl⟩
theorem vP {l out:List Dg}{x:Dg}:x∈uS out l↔x∈l\/x∈out:=by
 unfold uS;induction l generalizing out with
 |nil=>simp
 |cons d l ih=>rw[eD,ih,ab7,aG];constructor;rintro(h|h|h);exact .inl (.inr h);exact .inl (.inl h);exact .inr h;rintro((h|h)|h);exact .inr (.inl h);exact .inl h;exact .inr (.inr h)
theorem Ul {out:List Dg}(h:out.Nodup)(d:Dg):(Jc out d).Nodup:=by unfold Jc;split;exact h;rename_i hd;rw[gW];exact⟨h,by simp,λa ha b hb e=>hd (by rw[aO.1 hb]at e;exact e▸ha)⟩
theorem ab8 (out:List Dg)(d:Dg):∃t,Jc out d=out++t:=by unfold Jc;split;exact⟨[],(bg _).symm⟩;exact⟨[d],rfl⟩
theorem RH (l:List Dg):∀out:List Dg,∃t,uS out l=out++t:=by
 unfold uS;induction l with
 |nil=>exactλout=>⟨[],(bg _).symm⟩
 |cons d l ih=>intro out;obtain⟨t,ht⟩:=ab8 out d;obtain⟨u,hu⟩:=ih (Jc out d);exact⟨t++u,by rw[eD,hu,ht,br]⟩
theorem BL {l:List Dg}:∀{out:List Dg},out.Nodup->(uS out l).Nodup:=by
 unfold uS;induction l with
 |nil=>exactλh=>h
 |cons d l ih=>exactλh=>ih (Ul h d)
theorem Yd {l:List Dg}{j:Nat}(h:j<l.length)(out:List Dg):uS out (l.take (j+1))=Jc (uS out (l.take j)) l[j]:=by unfold uS;rw[ef h,xh];rfl
def mV (N:fW->List Dg)(s:List bK)(d:Dg):List Dg:=((s.find? λx=>decide (x.id=d)).map λx=>N x.pat).getD []
def oK (N:fW->List Dg)(s:List bK):Nat->Nat->List Dg->List Dg|0,_,out=>out|n+1,i,out=>if h:i<out.length then oK N s n (i+1) (uS out (mV N s out[i]))else out
def qt (N:fW->List Dg)(s:List bK)(d:Dg):List Dg:=oK N s s.length 0 [d]
section
variable (N:fW->List Dg)
theorem KC (s:List bK)(p:Dg)(hp:p∈s.map λx=>x.id)(hn:(s.map λx=>x.id).Nodup)(hc:∀x,x∈s->∀d,d∈N x.pat->d∈s.map λx=>x.id)(hl:s.length<=2^30)(hNl:∀x,x∈s->(N x.pat).length<=2^40):aj C 195 [.mp (Ui s) (Uj N s),.sl (jJ [p])] (λr=>r=.own (some [.bool true]) 31 32 (jJ (tO (qt N s p)))):=by
 have hfind:∀d,d∈(s.map λx=>x.id)->∃x,x∈s/\s.find? (λx=>decide (x.id=d))=some x:=λd hd=>by obtain⟨x,hx,rfl⟩:=aA.1 hd;exact⟨x,hx,GL hn hx⟩
 refine bn {opens:=[33],Be:=[],full:=false,inl:=[238],rel:=[238]} [] Tryz.func195 rfl rfl rfl ?_;refine⟨[],?_⟩;refine .inl ⟨_,Tryz.func238,rfl,rfl,rfl,?_⟩;obtain⟨xp,hxp,hfp⟩:=hfind p hp;refine vz 35 1000 (λx:Nat×Bool=>[(0,.p (.sl (jJ [p]))),(1,.ptr 2 0),(2,.ptr 6 0),(3,.ptr 7 0),(10,.p (.sl (jJ [p]))),(11,.p (.int .i64 1)),(12,.p (.int .i64 x.1))]) (λx=>match x.2 with|true=>[(2,[.p (.mp (Ui s) (Uj N s))]),(6,[.fK 10]),(7,[.fc 1033 31 32]),(1033,cM [p])]|false=>[(2,[.p (.mp (Ui s) (Uj N s))]),(6,[.fK 10]),(7,[.full []])]) (λ_=>[(33,0,[(2,.ptr 2 0),(6,.ptr 6 0),(7,.ptr 7 0),(8,.fn (.func 238) [] [.ptr 2 0,.ptr 6 0,.ptr 7 0])])]) [] (λ_=>[]) (λx=>[(10,dE (match x.2 with|true=>[p]|false=>[]))]) (λ_=>[]) (λx=>(x.1=0/\x.2=false)\/(x.1=1/\x.2=true)) (λx=>1-x.1) (0,false) (.inl ⟨rfl,rfl⟩) kK wS oS ⟨rfl,wS,trivial⟩ trivial ⟨nv kK,trivial⟩ trivial ?_;rintro⟨j,b⟩ hjb;rcases hjb with⟨hj,hb⟩|⟨hj,hb⟩;obtain rfl:j=0:=hj;obtain rfl:b=false:=hb;refine az (λ_=>?_) (λh=>absurd (show((0:Nat):Int)<1 by decide) h);refine⟨dD,cD p,rfl,rfl,?_⟩;refine⟨yw,dR,rfl,(by rw[xG];exact DD N s),some (.p (.sl (jJ (mV N s p)))),(by rw[xG];exact(GK N s p).trans (by unfold mV;rw[hfp];rfl)),?_⟩;refine bq ?_;refine⟨yw,dR,rfl,(λq hq=>nomatch hq),none,rfl,.bool false,kK,?_⟩;refine bq ?_;refine⟨yw,dR,rfl,(λq hq=>nomatch hq),dE [p],rfl,?_⟩;refine⟨mj _ _,(λzs h=>by rw[aO.1 h];rfl),(show 1*32<=140737488355328 by decide),cM [p],rfl,?_⟩;exact⟨1,dD,mN (1,true) (.inr ⟨rfl,rfl⟩) dD kK wS oS ⟨rfl,wS,trivial⟩ trivial ⟨nv kK,trivial⟩ trivial⟩;obtain rfl:j=1:=hj;obtain rfl:b=true:=hb;refine az (λh=>absurd h dD) (λ_=>?_);refine aiG 33 0 [(2,.ptr 2 0),(6,.ptr 6 0),(7,.ptr 7 0),(8,.fn (.func 238) [] [.ptr 2 0,.ptr 6 0,.ptr 7 0]),(14,.p (.bool true))] [(2,[.p (.mp (Ui s) (Uj N s))]),(6,[.fK 10]),(7,[.fc 1033 31 32]),(1033,cM [p])] [] [] [] [(10,dE [p])] [] kK wS oS trivial trivial ⟨nv kK,trivial⟩ trivial ?_;refine bq ?_;refine vz 33 0 (λx:Nat×List Dg=>[(2,.ptr 2 0),(6,.ptr 6 0),(7,.ptr 7 0),(8,.fn (.func 238) [] [.ptr 2 0,.ptr 6 0,.ptr 7 0]),(9,.p (.int .i64 x.1))]) (λx=>[(2,[.p (.mp (Ui s) (Uj N s))]),(6,[.fK 10]),(7,[.fc 1033 31 32]),(1033,cM x.2)]) (λ_=>[]) [] (λ_=>[]) (λx=>[(10,dE x.2)]) (λ_=>[]) (λx=>x.1<=x.2.length/\x.2.Nodup/\(∀d,d∈x.2->d∈s.map λx=>x.id)/\qt N s p=oK N s (s.length-x.1) x.1 x.2) (λx=>s.length-x.1) (0,[p]) ⟨zL,by simp,λd hd=>by rw[aO.1 hd];exact hp,rfl⟩ kK wS oS trivial trivial ⟨nv kK,trivial⟩ trivial ?_;rintro⟨i,out⟩ ⟨hi,El,hin,hE⟩;have hi:i<=out.length:=hi;have hE:qt N s p=oK N s (s.length-i) i out:=hE;have VG:out.length<=s.length:=by have :=rS El hin;rw[ai]at this;exact this
 refine⟨out.length,by exact dm out,?_⟩;refine az (λhlt=>?_) (λhge=>?_);rotate_left;obtain rfl:i=out.length:=by have :¬(i:Int)<(out.length:Int):=hge;omega
 have hE:qt N s p=out:=by
  rw[hE];cases s.length-out.length with
  |zero=>rfl
  |succ n=>unfold oK;rw[dif_neg (sR _)]
 rw[hE];refine .inr (.inr (zM rfl rfl (bl _) (BF _ rfl out oO) λr ys hr=>?_));obtain⟨rfl,rfl⟩:=hr;exact⟨jJ (tO out),sU,bl _,rfl⟩;have hlt:i<out.length:=by have :(i:Int)<(out.length:Int):=hlt;omega
 have hE:qt N s p=oK N s (s.length-(i+1)) (i+1) (uS out (mV N s out[i])):=by
  rw[hE,show s.length-i=(s.length-(i+1))+1 from oO];conv=>lhs;unfold oK
  rw[dif_pos hlt]
 obtain⟨xi,hxi,hfi⟩:=hfind out[i] (hin _ (aL _));have hne:mV N s out[i]=N xi.pat:=by unfold mV;rw[hfi];rfl
 have jE:=hc xi hxi;have hnl:=hNl xi hxi;rw[<-hne]at jE hnl;have hrow:=Dz hlt;refine cG 7 kK ?_;refine⟨i,i*32,rfl,rfl,by rw[show(cM out).length=out.length*32 from dm out];omega,?_⟩;refine⟨_,aF (cD out[i]),_,hrow,by rw[dm,aH];congr 1;omega,?_⟩;refine⟨.p (.sl (jJ (mV N s out[i]))),⟨yw,dR,rfl,(by rw[xG];exact DD N s),some (.p (.sl (jJ (mV N s out[i])))),(by rw[xG];exact(GK N s out[i]).trans (by unfold mV;rw[hfi];rfl)),rfl⟩,?_⟩;generalize mV N s out[i]=l at hE jE hnl⊢;clear hrow hfi hne;refine .inl ⟨_,Tryz.func238,rfl,rfl,rfl,?_⟩;refine vz 35 1000 (λj:Nat=>[(0,.p (.sl (l.map cD))),(1,.ptr 2 0),(2,.ptr 6 0),(3,.ptr 7 0),(10,.p (.sl (l.map cD))),(11,.p (.int .i64 ((l.map cD).length:Int))),(12,.p (.int .i64 j))]) (λj=>[(2,[.p (.mp (Ui s) (Uj N s))]),(6,[.fK 10]),(7,[.fc 1033 31 32]),(1033,cM (uS out (l.take j)))]) (λ_=>[(33,0,[(2,.ptr 2 0),(6,.ptr 6 0),(7,.ptr 7 0),(8,.fn (.func 238) [] [.ptr 2 0,.ptr 6 0,.ptr 7 0]),(9,.p (.int .i64 i))])]) [] (λ_=>[]) (λj=>[(10,dE (uS out (l.take j)))]) (λ_=>[]) (λj=>j<=l.length) (λj=>l.length-j) 0 (zL) kK wS oS ⟨rfl,wS,trivial⟩ trivial ⟨nv kK,trivial⟩ trivial ?_;intro j hj;refine bY (l:=l) (f:=cD) (λeH=>?_) (λvC=>?_);have jc:(l.map cD)[((j:Nat):Int).toNat]?=some (cD l[j]):=cO rfl eH;have uJ:=Yd eH out;obtain⟨xd,hxd,hfd⟩:=hfind l[j] (jE _ (aL _));have alK:∀x,x∈uS out (l.take j)->x∈s.map λx=>x.id:=λx hx=>by rcases vP.1 hx with h|h;exact jE x (Cu h);exact hin x h
 have alL:(uS out (l.take j)).length<=s.length:=by have :=rS (BL (l:=l.take j) El) alK;rw[ai]at this;exact this
 generalize l[j]=d at jc uJ hfd;generalize uS out (l.take j)=M at uJ alL⊢;refine⟨oO,_,jc,rfl,?_⟩;refine⟨yw,dR,rfl,(by rw[xG];exact DD N s),some (.p (.sl (jJ (mV N s d)))),(by rw[xG];exact(GK N s d).trans (by unfold mV;rw[hfd];rfl)),?_⟩;refine bq ?_;by_cases hm:d∈M;rw[Jc,af hm]at uJ;refine⟨yw,dR,rfl,(by simp only[rF];exact uA _),some (.p (.bool true)),(by simp only[rF];exact(As M d).trans (af hm)),?_⟩;refine bq ?_;exact nx (j+1) (mN (j+1) eH oO kK wS ⟨aB kK,aB kK,aB kK,(by rw[uJ];exact LW 1007 kK),trivial⟩ ⟨rfl,wS,trivial⟩ trivial ⟨(by rw[uJ];exact dP rfl (by simp only[rF])),trivial⟩ trivial);rw[Jc,aa hm]at uJ;refine⟨yw,dR,rfl,(by simp only[rF];exact uA _),none,(by simp only[rF];exact(As M d).trans (aa hm)),.bool false,kK,?_⟩;refine bq ?_;refine⟨yw,dR,rfl,(by simp only[rF];exact uA _),dE (M++[d]),(by simp only[rF];exact ab5 hm),?_⟩;refine⟨M.length,by rw[kE,kE];exact dm M,(λzs h=>by rw[aO.1 h];rfl),by show(M.length+1)*32<=_;omega,cM (M++[d]),by rw[kE,kE];exact Aq _ _ _,?_⟩;exact nx (j+1) (mN (j+1) eH oO kK wS ⟨aB kK,aB kK,aB kK,(by rw[uJ];exact aB kK),trivial⟩ ⟨rfl,wS,trivial⟩ trivial ⟨(by rw[uJ];exact dP rfl (by simp only[rF])),trivial⟩ trivial);obtain rfl:j=l.length:=oO
 rw[aP];obtain⟨t,ht⟩:=RH l out;have ajp:∀x,x∈uS out l->x∈s.map λx=>x.id:=λx hx=>by rcases vP.1 hx with h|h;exact jE x h;exact hin x h
 have ajq:=BL (l:=l) El;have ajr:out.length<=(uS out l).length:=by rw[ht,au];omega
 generalize uS out l=M at hE ajp ajq ajr⊢;refine aiG 33 0 [(2,.ptr 2 0),(6,.ptr 6 0),(7,.ptr 7 0),(8,.fn (.func 238) [] [.ptr 2 0,.ptr 6 0,.ptr 7 0]),(9,.p (.int .i64 i))] [(2,[.p (.mp (Ui s) (Uj N s))]),(6,[.fK 10]),(7,[.fc 1033 31 32]),(1033,cM M)] [] [] [] [(10,dE M)] [] kK wS oS trivial trivial ⟨nv kK,trivial⟩ trivial ?_;exact nx (i+1) (mN (i+1,M) ⟨by show i+1<=M.length;omega,ajq,ajp,hE⟩ (by show s.length-(i+1)<s.length-i;omega) kK wS oS trivial trivial ⟨nv kK,trivial⟩ trivial)
theorem KD (s:List bK)(p:Dg)(hN:DE N s)(hp:p∈s.map λx=>x.id)(hn:(s.map λx=>x.id).Nodup)(hc:∀x,x∈s->∀d,d∈N x.pat->d∈s.map λx=>x.id)(hl:s.length<=2^30)(hNl:∀x,x∈s->(N x.pat).length<=2^40):aj C 155 [.sl (cU s),.sl (jJ [p])] (λr=>r=.val (.eY [.sl (jJ (tO (qt N s p))),.int .i64 0])):=by refine bn {opens:=[],Be:=[],full:=false} [] Tryz.func155 rfl rfl rfl ?_;refine cl (FX N s hN hn oO).dL ?_;refine cl (KC N s p hp hn hc hl hNl).DJ.dL ?_;refine bq ?_;exact rfl
theorem RI (s:List bK)(p q:Dg)(hN:DE N s)(hp:p∈s.map λx=>x.id)(hn:(s.map λx=>x.id).Nodup)(hc:∀x,x∈s->∀d,d∈N x.pat->d∈s.map λx=>x.id)(hl:s.length<=2^30)(hNl:∀x,x∈s->(N x.pat).length<=2^40)(hrl:(qt N s p).length<=2^40):aj C 126 [.sl (cU s),.agg (cD p),.agg (cD q)] (λr=>r=.val (.bool (decide (q∈qt N s p)))):=by refine bn {opens:=[],Be:=[],full:=false} [] Tryz.func126 rfl rfl rfl ?_;refine cl (KD N s p hN hp hn hc hl hNl).dL ?_;refine⟨none,?_⟩;refine aD (λ_=>?_) (λg=>absurd rfl g);refine cl (Ja (tO (qt N s p)) q (by rw[ES];omega)).dL ?_;rw[show decide (q∈tO (qt N s p))=decide (q∈qt N s p)from decide_eq_decide.2 LR];exact rfl
end
end Qv
