/- Part 30 of the proof: its lemmas. No condition. -/
import Derived.Test.YtlbofhenpfnenaaGreatDoorV1
set_option maxRecDepth 10000
set_option maxHeartbeats 80000000
set_option linter.all false
open Go Go.Proofs Go.RowKit
namespace Qv
def dr (n:Int):bg:=⟨bF,n⟩
def sk (file:bg)(f:Nat)(ls:List Bytes)(i:Nat):bD:=⟨dr ((f+i:Nat):Int),5,file,0,aU,[],0,[],ls.getD i [],aU,aU,[]⟩
def nD (file dm dG:bg)(f k i:Nat):bD:=⟨dr ((f+k+i:Nat):Int),6,file,0,aU,[],0,[],[],if 0<i then dr ((f+i-1:Nat):Int)else dm,if i<k then dr ((f+i:Nat):Int)else dG,[]⟩
def od (c:eG)(f:Nat):bD:=if c.kind=1 then⟨dr f,1,dr f,c.type,aU,[],0,[],[],aU,aU,[]⟩else if c.kind=2 then⟨dr f,2,c.file,0,c.parent,c.name,0,[],[],aU,aU,c.over⟩else if c.kind=3 then⟨dr f,3,c.file,0,aU,[],c.mode,[],[],aU,aU,c.over⟩else if c.kind=4 then⟨dr f,4,c.file,0,aU,[],0,c.data,[],aU,aU,c.over⟩else if c.kind=6 then⟨dr f,6,c.file,0,aU,[],0,[],[],c.dm,c.dG,c.over⟩else⟨dr f,7,aU,0,aU,[],0,[],[],aU,aU,c.over⟩
def fc (c:eG)(f:Nat):List bD:=if c.kind=5 then(List.range c.lines.length).map (sk c.file f c.lines)++(List.range (c.lines.length+1)).map (nD c.file c.dm c.dG f c.lines.length)else[od c f]
theorem abw (c:eG)(f:Nat)(hk:c.kind=1):fc c f=[⟨dr f,1,dr f,c.type,aU,[],0,[],[],aU,aU,[]⟩]:=by unfold fc od;rw[aa (show¬c.kind=5 by omega)];rw[af hk]
theorem abx (c:eG)(f:Nat)(hk:c.kind=1):ak C 142 [.agg (cC c),.int .i64 (f:Int)] (λr=>r=.val (.sl (eU (fc c f)))):=by
 rw[abw c f hk];cases c with
 |mk kind file type parent name mode data dm dG lines over=>simp only at hk⊢;subst hk;refine ag Tryz.func142 rfl rfl rfl ?_;refine aA (λ_=>?_) (λh=>absurd (show(1:Int)=1 by decide) h);exact .inr rfl
theorem aby (c:eG)(f:Nat)(hk:c.kind=2):fc c f=[⟨dr f,2,c.file,0,c.parent,c.name,0,[],[],aU,aU,c.over⟩]:=by unfold fc od;rw[aa (show¬c.kind=5 by omega)];rw[aa (show¬c.kind=1 by omega)];rw[af hk]
theorem abz (c:eG)(f:Nat)(hk:c.kind=2):ak C 142 [.agg (cC c),.int .i64 (f:Int)] (λr=>r=.val (.sl (eU (fc c f)))):=by
 rw[aby c f hk];cases c with
 |mk kind file type parent name mode data dm dG lines over=>simp only at hk⊢;subst hk;refine ag Tryz.func142 rfl rfl rfl ?_;refine aA (λh=>absurd (show(2:Int)=1 from h) dD) (λ_=>?_);refine aA (λ_=>?_) (λh=>absurd (show(2:Int)=2 by decide) h);exact .inr rfl
theorem abA (c:eG)(f:Nat)(hk:c.kind=3):fc c f=[⟨dr f,3,c.file,0,aU,[],c.mode,[],[],aU,aU,c.over⟩]:=by unfold fc od;rw[aa (show¬c.kind=5 by omega)];rw[aa (show¬c.kind=1 by omega)];rw[aa (show¬c.kind=2 by omega)];rw[af hk]
theorem abB (c:eG)(f:Nat)(hk:c.kind=3):ak C 142 [.agg (cC c),.int .i64 (f:Int)] (λr=>r=.val (.sl (eU (fc c f)))):=by
 rw[abA c f hk];cases c with
 |mk kind file type parent name mode data dm dG lines over=>simp only at hk⊢;subst hk;refine ag Tryz.func142 rfl rfl rfl ?_;refine aA (λh=>absurd (show(3:Int)=1 from h) dD) (λ_=>?_);refine aA (λh=>absurd (show(3:Int)=2 from h) dD) (λ_=>?_);refine aA (λ_=>?_) (λh=>absurd (show(3:Int)=3 by decide) h);exact .inr rfl
theorem abC (c:eG)(f:Nat)(hk:c.kind=4):fc c f=[⟨dr f,4,c.file,0,aU,[],0,c.data,[],aU,aU,c.over⟩]:=by unfold fc od;rw[aa (show¬c.kind=5 by omega)];rw[aa (show¬c.kind=1 by omega)];rw[aa (show¬c.kind=2 by omega)];rw[aa (show¬c.kind=3 by omega)];rw[af hk]
theorem abD (c:eG)(f:Nat)(hk:c.kind=4):ak C 142 [.agg (cC c),.int .i64 (f:Int)] (λr=>r=.val (.sl (eU (fc c f)))):=by
 rw[abC c f hk];cases c with
 |mk kind file type parent name mode data dm dG lines over=>simp only at hk⊢;subst hk;refine ag Tryz.func142 rfl rfl rfl ?_;refine aA (λh=>absurd (show(4:Int)=1 from h) dD) (λ_=>?_);refine aA (λh=>absurd (show(4:Int)=2 from h) dD) (λ_=>?_);refine aA (λh=>absurd (show(4:Int)=3 from h) dD) (λ_=>?_);refine aA (λ_=>?_) (λh=>absurd (show(4:Int)=4 by decide) h);exact .inr rfl
theorem abE (c:eG)(f:Nat)(hk:c.kind=6):fc c f=[⟨dr f,6,c.file,0,aU,[],0,[],[],c.dm,c.dG,c.over⟩]:=by unfold fc od;rw[aa (show¬c.kind=5 by omega)];rw[aa (show¬c.kind=1 by omega)];rw[aa (show¬c.kind=2 by omega)];rw[aa (show¬c.kind=3 by omega)];rw[aa (show¬c.kind=4 by omega)];rw[af hk]
theorem abF (c:eG)(f:Nat)(hk:c.kind=6):ak C 142 [.agg (cC c),.int .i64 (f:Int)] (λr=>r=.val (.sl (eU (fc c f)))):=by
 rw[abE c f hk];cases c with
 |mk kind file type parent name mode data dm dG lines over=>simp only at hk⊢;subst hk;refine ag Tryz.func142 rfl rfl rfl ?_;refine aA (λh=>absurd (show(6:Int)=1 from h) dD) (λ_=>?_);refine aA (λh=>absurd (show(6:Int)=2 from h) dD) (λ_=>?_);refine aA (λh=>absurd (show(6:Int)=3 from h) dD) (λ_=>?_);refine aA (λh=>absurd (show(6:Int)=4 from h) dD) (λ_=>?_);refine aA (λ_=>?_) (λh=>absurd (show(6:Int)=6 by decide) h);exact .inr rfl
theorem abG (c:eG)(f:Nat)(hk:c.kind=7):fc c f=[⟨dr f,7,aU,0,aU,[],0,[],[],aU,aU,c.over⟩]:=by unfold fc od;rw[aa (show¬c.kind=5 by omega)];rw[aa (show¬c.kind=1 by omega)];rw[aa (show¬c.kind=2 by omega)];rw[aa (show¬c.kind=3 by omega)];rw[aa (show¬c.kind=4 by omega)];rw[aa (show¬c.kind=6 by omega)]
theorem abH (c:eG)(f:Nat)(hk:c.kind=7):ak C 142 [.agg (cC c),.int .i64 (f:Int)] (λr=>r=.val (.sl (eU (fc c f)))):=by
 rw[abG c f hk];cases c with
 |mk kind file type parent name mode data dm dG lines over=>simp only at hk⊢;subst hk;refine ag Tryz.func142 rfl rfl rfl ?_;refine aA (λh=>absurd (show(7:Int)=1 from h) dD) (λ_=>?_);refine aA (λh=>absurd (show(7:Int)=2 from h) dD) (λ_=>?_);refine aA (λh=>absurd (show(7:Int)=3 from h) dD) (λ_=>?_);refine aA (λh=>absurd (show(7:Int)=4 from h) dD) (λ_=>?_);refine aA (λh=>absurd (show(7:Int)=6 from h) dD) (λ_=>?_);refine aA (λ_=>?_) (λh=>absurd (show(7:Int)=7 by decide) h);exact .inr rfl
theorem abI (c:eG)(f:Nat)(hk:c.kind=5):fc c f=(List.range c.lines.length).map (sk c.file f c.lines)++(List.range (c.lines.length+1)).map (nD c.file c.dm c.dG f c.lines.length):=by unfold fc;rw[af hk]
theorem jk {l:List bD}:∀zs,zs∈l.map cA->zs.length=172:=by intro zs h;obtain⟨x,-,rfl⟩:=aI.1 h;exact ag5 x
theorem Jc {α:Type}(g:Nat->α)(k:Nat):(List.range (k+1)).map g=(List.range k).map g++[g k]:=by rw[xR,aM];rfl
theorem TY (a:List bD)(x:bD):a.map cA++[cA x]=(a++[x]).map cA:=by rw[aM];rfl
theorem abJ (c:eG)(f:Nat)(hk:c.kind=5)(hf:f<=2^30)(hl:c.lines.length<=2^30):ak C 142 [.agg (cC c),.int .i64 (f:Int)] (λr=>r=.val (.sl (eU (fc c f)))):=by
 rw[abI c f hk];cases c with
 |mk kind file type parent name mode data dm dG lines over=>
  simp only at hk hl⊢;subst hk;refine ag Tryz.func142 rfl rfl rfl ?_;refine aA (λh=>absurd (show(5:Int)=1 from h) dD) (λ_=>?_);refine aA (λh=>absurd (show(5:Int)=2 from h) dD) (λ_=>?_);refine aA (λh=>absurd (show(5:Int)=3 from h) dD) (λ_=>?_);refine aA (λh=>absurd (show(5:Int)=4 from h) dD) (λ_=>?_);refine aA (λh=>absurd (show(5:Int)=6 from h) dD) (λ_=>?_);refine aA (λh=>absurd (show(5:Int)=7 from h) dD) (λ_=>?_);obtain⟨L1,hL1⟩:∃L,(List.range lines.length).map (sk file f lines)=L:=⟨_,rfl⟩;have aok:L1.length=lines.length:=by rw[<-hL1];simp
  refine bu 141 (λk:Nat=>[(1,.p (.int .i64 (f:Int))),(2,.ptr 2 0),(6,.eH 78 48 172 (((List.range k).map (sk file f lines)).map cA)),(7,.p (.int .i64 (lines.length:Int))),(8,.p (.int .i64 k))]) (λ_=>[(2,aH (cC ⟨5,file,type,parent,name,mode,data,dm,dG,lines,over⟩))]) (λk=>k<=lines.length) (λk=>lines.length-k) 0 (zL) rfl ⟨aF.refl _,aF.refl _,aF.refl _,aF.eq (by show FV.p (.int .i64 ((lines.map oA).length:Int))=_;rw[aj]),aF.refl _,trivial⟩ oS ?_;intro k hk;refine az (λhlt=>?_) (λhge=>?_);have hlt:k<lines.length:=by have :(k:Int)<(lines.length:Int):=hlt;omega
  refine cm 14 kK ?_;refine nx (f+k) ?_;refine⟨_,rfl,?_⟩;refine ix hlt ?_;refine⟨_,rfl,?_⟩;refine⟨_,rfl,?_⟩;have hg:lines.getD k []=lines[k]:=by simp[List.getD,hlt]
  refine⟨jk,jk (l:=[⟨dr ((f+k:Nat):Int),5,file,0,aU,[],0,[],lines[k],aU,aU,[]⟩]),by show((((List.range k).map (sk file f lines)).map cA).length+1)*296<=_;rw[aj,aj,tf];omega,((List.range (k+1)).map (sk file f lines)).map cA,by rw[Jc,<-TY];unfold sk;rw[hg];rfl,?_⟩;exact nx (k+1) (aO (k+1) hlt oO rfl wS oS);obtain rfl:k=lines.length:=by have :¬(k:Int)<(lines.length:Int):=hge;omega
  rw[hL1];refine bu 141 (λk:Nat=>[(1,.p (.int .i64 (f:Int))),(2,.ptr 2 0),(6,.eH 78 48 172 ((L1++(List.range k).map (nD file dm dG f lines.length)).map cA)),(7,.p (.int .i64 (lines.length:Int))),(9,.p (.int .i64 k))]) (λ_=>[(2,aH (cC ⟨5,file,type,parent,name,mode,data,dm,dG,lines,over⟩))]) (λk=>k<=lines.length+1) (λk=>lines.length+1-k) 0 (zL) rfl ⟨aF.refl _,aF.refl _,aF.eq (by simp;rfl),aF.refl _,aF.refl _,trivial⟩ oS ?_;intro k hk;refine az (λhlt=>?_) (λhge=>?_);have hlt:k<=lines.length:=by have :(k:Int)<=(lines.length:Int):=hlt;omega
  refine nx (f+lines.length) ?_;refine nx (f+lines.length+k) ?_;have fin:∀e,e=nD file dm dG f lines.length k->(L1++(List.range k).map (nD file dm dG f lines.length)).map cA++[cA e]=(L1++(List.range (k+1)).map (nD file dm dG f lines.length)).map cA:=λe he=>by rw[Jc,he,TY,bf]
  have bd:(((L1++(List.range k).map (nD file dm dG f lines.length)).map cA).length+1)*296<=140737488355328:=by rw[aj,aq,aj,tf];omega
  refine az (λh0=>?_) (λh0=>?_);have h0:0<k:=by have :(k:Int)>0:=h0;omega
  refine nx (f+k) ?_;refine nx (f+k-1) ?_;refine az (λh1=>?_) (λh1=>?_);have h1:k<lines.length:=by have :(k:Int)<(lines.length:Int):=h1;omega
  refine nx (f+k) ?_;have he:(⟨dr ((f+lines.length+k:Nat):Int),6,file,0,aU,[],0,[],[],dr ((f+k-1:Nat):Int),dr ((f+k:Nat):Int),[]⟩:bD)=nD file dm dG f lines.length k:=by unfold nD;rw[af h0,af h1]
  refine⟨jk,jk (l:=[⟨dr ((f+lines.length+k:Nat):Int),6,file,0,aU,[],0,[],[],dr ((f+k-1:Nat):Int),dr ((f+k:Nat):Int),[]⟩]),bd,_,fin _ he,?_⟩;exact nx (k+1) (aO (k+1) (by show k+1<=_;omega) oO rfl wS oS);have h1:¬k<lines.length:=by have :¬(k:Int)<(lines.length:Int):=h1;omega
  have he:(⟨dr ((f+lines.length+k:Nat):Int),6,file,0,aU,[],0,[],[],dr ((f+k-1:Nat):Int),dG,[]⟩:bD)=nD file dm dG f lines.length k:=by unfold nD;rw[af h0,aa h1]
  refine⟨jk,jk (l:=[⟨dr ((f+lines.length+k:Nat):Int),6,file,0,aU,[],0,[],[],dr ((f+k-1:Nat):Int),dG,[]⟩]),bd,_,fin _ he,?_⟩;exact nx (k+1) (aO (k+1) (by show k+1<=_;omega) oO rfl wS oS);have h0:¬0<k:=by have :¬(k:Int)>0:=h0;omega
  refine az (λh1=>?_) (λh1=>?_);have h1:k<lines.length:=by have :(k:Int)<(lines.length:Int):=h1;omega
  refine nx (f+k) ?_;have he:(⟨dr ((f+lines.length+k:Nat):Int),6,file,0,aU,[],0,[],[],dm,dr ((f+k:Nat):Int),[]⟩:bD)=nD file dm dG f lines.length k:=by unfold nD;rw[aa h0,af h1]
  refine⟨jk,jk (l:=[⟨dr ((f+lines.length+k:Nat):Int),6,file,0,aU,[],0,[],[],dm,dr ((f+k:Nat):Int),[]⟩]),bd,_,fin _ he,?_⟩;exact nx (k+1) (aO (k+1) (by show k+1<=_;omega) oO rfl wS oS);have h1:¬k<lines.length:=by have :¬(k:Int)<(lines.length:Int):=h1;omega
  have he:(⟨dr ((f+lines.length+k:Nat):Int),6,file,0,aU,[],0,[],[],dm,dG,[]⟩:bD)=nD file dm dG f lines.length k:=by unfold nD;rw[aa h0,aa h1]
  refine⟨jk,jk (l:=[⟨dr ((f+lines.length+k:Nat):Int),6,file,0,aU,[],0,[],[],dm,dG,[]⟩]),bd,_,fin _ he,?_⟩;exact nx (k+1) (aO (k+1) (by show k+1<=_;omega) oO rfl wS oS);obtain rfl:k=lines.length+1:=by have :¬(k:Int)<=(lines.length:Int):=hge;omega
  exact .inr (by rw[<-hL1];rfl)
structure Hid (T:Prop):Prop where
 out:T
theorem share {T G:Prop}(h:Hid T->G)(t:T):G:=h ⟨t⟩
def eo:List Int->Int|[]=>0|e::l=>if e≠0 then e else eo l
theorem eu {e:Int}{l:List Int}(h:e≠0):eo (e::l)=e:=af h
theorem eZ {e:Int}{l:List Int}(h:e=0):eo (e::l)=eo l:=aa (λg=>g h)
theorem jZ {p:Prop}[Decidable p]{e:Int}{l:List Int}(h:¬p):eo ((if p then e else 0)::l)=eo l:=by rw[aa h];exact eZ rfl
theorem qY {p:Prop}[Decidable p]{e:Int}{l:List Int}(h:p):eo ((if p then e else 0)::l)=eo (e::l):=by rw[af h]
def Be (x:bD):Bool:=decide (x.kind=1)&&decide (x.type=4)
def Ru (c:eG)(own:List bD):List Int:=(if 2<=c.kind/\c.kind<=6 then uG c.file own.length (er c.kind (mo own c.file))else 0)::(if c.kind=2/\c.parent≠qK then uG c.parent own.length (Be (mo own c.parent))else 0)::(if gM c.kind=true then uG c.dm own.length (decide (c.dm=c.file)||lI c.file (mo own c.dm))else 0)::(if gM c.kind=true then uG c.dG own.length (decide (c.dG=c.file)||lI c.file (mo own c.dG))else 0)::((c.over.map λx=>uG x own.length (fG c.kind c.file (mo own x)))++[if c.kind=2/\c.parent=c.file then 20 else 0,if gM c.kind=true/\c.dm=c.dG/\(c.kind=6\/c.dm≠c.file)then 1 else 0])
def mY (c:eG)(own:List bD):Int:=eo (Ru c own)
def Jd (c:eG)(k:Nat):bg:=if k=0 then c.dm else c.dG
def ahi (c:eG)(own:List bD):Nat->List Int|0=>[uG c.dm own.length (decide (c.dm=c.file)||lI c.file (mo own c.dm)),uG c.dG own.length (decide (c.dG=c.file)||lI c.file (mo own c.dG))]|1=>[uG c.dG own.length (decide (c.dG=c.file)||lI c.file (mo own c.dG))]|_=>[]
theorem Ye (c:eG)(own:List bD){k:Nat}(h:k<2):ahi c own k=uG (Jd c k) own.length (decide (Jd c k=c.file)||lI c.file (mo own (Jd c k)))::ahi c own (k+1):=by
 match k,h with
  |0,_=>rfl
  |1,_=>rfl
theorem ahj (c:eG){k:Nat}(h:k<2):[cI c.dm,cI c.dG][((k:Nat):Int).toNat]?=some (cI (Jd c k)):=by
 match k,h with
  |0,_=>rfl
  |1,_=>rfl
theorem oP {α β:Type}{g:α->β}{l:List α}{k:Nat}(h:k<l.length)(r:List β):(l.drop k).map g++r=g l[k]::((l.drop (k+1)).map g++r):=by rw[bL h,cS,eB]
theorem aeT (c:eG)(own:List bD)(hl:own.length<=2^47)(ho:c.over.length<=2^47):ak C 141 [.agg (cC c),.sl (eU own)] (λr=>r=.val (.int .i64 (mY c own))):=by
 have hE:mY c own=eo (Ru c own):=rfl;unfold Ru at hE;refine dM [5,10,18,24,26] Tryz.func141 rfl rfl rfl ?_;refine⟨none,?_⟩;refine share (T:=?T1) (λH1=>?m1) ?r1;case m1=>refine az (λh1=>az (λh2=>?_) (λh2=>?_)) (λh1=>?_);rw[qY (show 2<=c.kind/\c.kind<=6 from⟨h1,h2⟩)]at hE;refine cm 10 kK ?_;refine⟨_,(Of own c.file hl).cut,?_⟩;refine⟨_,(Gy c.kind (mo own c.file)).cut,?_⟩;refine cl (BV c.file own (er c.kind (mo own c.file))).cut ?_;refine cF (λh=>?_) (λh=>?_);rw[hE,eu h];exact rfl;rw[eZ h]at hE;refine dL 163 [(1,.p (.sl (eU own))),(2,.ptr 2 0)] [(2,aH (cC c))] rfl wS oS ?_;revert hE;exact H1.out;rw[jZ (show¬(2<=c.kind/\c.kind<=6)fromλh=>h2 h.2)]at hE;refine dL 163 [(1,.p (.sl (eU own))),(2,.ptr 2 0)] [(2,aH (cC c))] rfl wS oS ?_;revert hE;exact H1.out;rw[jZ (show¬(2<=c.kind/\c.kind<=6)fromλh=>h1 h.1)]at hE;refine dL 163 [(1,.p (.sl (eU own))),(2,.ptr 2 0)] [(2,aH (cC c))] rfl wS oS ?_;revert hE;exact H1.out
 case r1=>
  intro hE;refine share (T:=?T2) (λH2=>?m2) ?r2;case m2=>
   refine cm 9 kK ?_;refine aA (λh1=>?_) (λh1=>?_);rotate_left;rw[jZ (show¬(c.kind=2/\c.parent≠qK)fromλh=>h1 h.1)]at hE;refine dL 163 [(1,.p (.sl (eU own))),(2,.ptr 2 0)] [(2,aH (cC c))] rfl wS oS ?_;revert hE;exact H2.out;refine⟨_,Od.cut,?_⟩;refine ou ?_;refine DA (a:=c.parent) (b:=qK) ?_;by_cases hp:c.parent=qK;rw[an hp];rw[jZ (show¬(c.kind=2/\c.parent≠qK)fromλh=>h.2 hp)]at hE;refine dL 163 [(1,.p (.sl (eU own))),(2,.ptr 2 0)] [(2,aH (cC c))] rfl wS oS ?_;revert hE;exact H2.out;rw[ah hp];rw[qY (show c.kind=2/\c.parent≠qK from⟨h1,hp⟩)]at hE;refine cl (Of own c.parent hl).cut ?_;refine⟨none,?_⟩;refine aA (λh2=>aA (λh3=>?_) (λh3=>?_)) (λh2=>?_);have e:Be (mo own c.parent)=true:=by have h2:(mo own c.parent).kind=1:=h2;have h3:(mo own c.parent).type=4:=h3;simp[Be,h2,h3]
   rw[e]at hE;refine cl (BV c.parent own true).cut ?_;refine cF (λh=>?_) (λh=>?_);rw[hE,eu h];exact rfl;rw[eZ h]at hE;refine dL 163 [(1,.p (.sl (eU own))),(2,.ptr 2 0)] [(2,aH (cC c))] rfl wS oS ?_;revert hE;exact H2.out;have e:Be (mo own c.parent)=false:=by have h3:¬(mo own c.parent).type=4:=h3;simp[Be,h3]
   rw[e]at hE;refine cl (BV c.parent own false).cut ?_;refine cF (λh=>?_) (λh=>?_);rw[hE,eu h];exact rfl;rw[eZ h]at hE;refine dL 163 [(1,.p (.sl (eU own))),(2,.ptr 2 0)] [(2,aH (cC c))] rfl wS oS ?_;revert hE;exact H2.out;have e:Be (mo own c.parent)=false:=by have h2:¬(mo own c.parent).kind=1:=h2;simp[Be,h2]
   rw[e]at hE;refine cl (BV c.parent own false).cut ?_;refine cF (λh=>?_) (λh=>?_);rw[hE,eu h];exact rfl;rw[eZ h]at hE;refine dL 163 [(1,.p (.sl (eU own))),(2,.ptr 2 0)] [(2,aH (cC c))] rfl wS oS ?_;revert hE;exact H2.out
  case r2=>
   intro hE;refine share (T:=?T3) (λH3=>?m3) ?r3;case m3=>
    refine cl (Oe c.kind).cut ?_;cases ht:gM c.kind with
    |false=>rw[ht,jZ dD,jZ dD]at hE;rw[<-ht]at hE;refine dL 163 [(1,.p (.sl (eU own))),(2,.ptr 2 0)] [(2,aH (cC c))] rfl wS oS ?_;revert hE;exact H3.out
    |true=>
     refine bu 163 (λk:Nat=>[(1,.p (.sl (eU own))),(2,.ptr 2 0),(8,.eH 70 33 33 [cI c.dm,cI c.dG]),(9,.p (.int .i64 k))]) (λ_=>[(2,aH (cC c))]) (λk=>k<=2/\mY c own=eo (ahi c own k++(c.over.map (λx=>uG x own.length (fG c.kind c.file (mo own x)))++[if c.kind=2/\c.parent=c.file then 20 else 0,if gM c.kind=true/\c.dm=c.dG/\(c.kind=6\/c.dm≠c.file)then 1 else 0]))) (λk=>2-k) 0 ⟨zL,by rw[hE,af ht,af ht];rfl⟩ rfl wS oS ?_;rintro k ⟨hk2,hE⟩;have hk2:k<=2:=hk2;refine az (λhlt=>?_) (λhge=>?_);have hlt:k<2:=by have :(k:Int)<2:=hlt;omega
     rw[Ye c own hlt,eB]at hE;refine cm 23 kK ?_;refine⟨oO,_,ahj c hlt,rfl,?_⟩;refine⟨oO,_,ahj c hlt,rfl,?_⟩;refine ou ?_;refine iu (a:=Jd c k) (b:=c.file) ?_;by_cases hf:Jd c k=c.file;rw[an hf];rw[an hf,tE]at hE;refine cl (BV (Jd c k) own true).cut ?_;refine cF (λh=>?_) (λh=>?_);rw[hE,eu h];exact rfl;rw[eZ h]at hE;exact nx (k+1) (aO (k+1) ⟨hlt,hE⟩ oO rfl wS oS);rw[ah hf];rw[ah hf,iW]at hE;refine⟨oO,_,ahj c hlt,rfl,?_⟩;refine⟨_,(Of own (Jd c k) hl).cut,?_⟩;refine⟨_,(Ja c.file (mo own (Jd c k))).cut,?_⟩;refine cl (BV (Jd c k) own (lI c.file (mo own (Jd c k)))).cut ?_;refine cF (λh=>?_) (λh=>?_);rw[hE,eu h];exact rfl;rw[eZ h]at hE;exact nx (k+1) (aO (k+1) ⟨hlt,hE⟩ oO rfl wS oS);obtain rfl:k=2:=by have :¬(k:Int)<2:=hge;omega
     have hE:mY c own=eo (c.over.map (λx=>uG x own.length (fG c.kind c.file (mo own x)))++[if c.kind=2/\c.parent=c.file then 20 else 0,if gM c.kind=true/\c.dm=c.dG/\(c.kind=6\/c.dm≠c.file)then 1 else 0]):=hE;refine dL 163 [(1,.p (.sl (eU own))),(2,.ptr 2 0)] [(2,aH (cC c))] rfl wS oS ?_;revert hE;exact H3.out
   case r3=>
    intro hE;refine bu 163 (λk:Nat=>[(1,.p (.sl (eU own))),(2,.ptr 2 0),(11,.p (.int .i64 k))]) (λ_=>[(2,aH (cC c))]) (λk=>k<=c.over.length/\mY c own=eo ((c.over.drop k).map (λx=>uG x own.length (fG c.kind c.file (mo own x)))++[if c.kind=2/\c.parent=c.file then 20 else 0,if gM c.kind=true/\c.dm=c.dG/\(c.kind=6\/c.dm≠c.file)then 1 else 0])) (λk=>c.over.length-k) 0 ⟨zL,hE⟩ rfl wS oS ?_;rintro k ⟨hk,hE⟩;refine bQ (l:=c.over) (f:=cI) (λhlt=>?_) (λhge=>?_);rw[oP hlt]at hE;refine cm 18 kK ?_;refine ix hlt ?_;refine ix hlt ?_;refine⟨_,(Of own c.over[k] hl).cut,?_⟩;refine⟨_,(Gx c.kind c.file (mo own c.over[k])).cut,?_⟩;refine cl (BV c.over[k] own (fG c.kind c.file (mo own c.over[k]))).cut ?_;refine cF (λh=>?_) (λh=>?_);rw[hE,eu h];exact rfl;rw[eZ h]at hE;exact nx (k+1) (aO (k+1) ⟨hlt,hE⟩ oO rfl wS oS);rw[cU oO,iN,nN]at hE;refine dL 163 [(1,.p (.sl (eU own))),(2,.ptr 2 0)] [(2,aH (cC c))] rfl wS oS ?_;refine⟨none,?_⟩;refine share (T:=?T4) (λH4=>?m4) ?r4;case m4=>refine aA (λh1=>?_) (λh1=>?_);rotate_left;rw[jZ (show¬(c.kind=2/\c.parent=c.file)fromλh=>h1 h.1)]at hE;refine dL 163 [(1,.p (.sl (eU own))),(2,.ptr 2 0)] [(2,aH (cC c))] rfl wS oS ?_;revert hE;exact H4.out;refine ou ?_;refine iu (a:=c.parent) (b:=c.file) ?_;by_cases hp:c.parent=c.file;rw[an hp];rw[qY (show c.kind=2/\c.parent=c.file from⟨h1,hp⟩),eu dD]at hE;rw[hE];exact rfl;rw[ah hp];rw[jZ (show¬(c.kind=2/\c.parent=c.file)fromλh=>hp h.2)]at hE;refine dL 163 [(1,.p (.sl (eU own))),(2,.ptr 2 0)] [(2,aH (cC c))] rfl wS oS ?_;revert hE;exact H4.out
    case r4=>
     intro hE;refine⟨none,?_⟩;refine cl (Oe c.kind).cut ?_;have no:¬(gM c.kind=true/\c.dm=c.dG/\(c.kind=6\/c.dm≠c.file))->cQ.val (.int .i64 0)=cQ.val (.int .i64 (mY c own)):=λh=>by rw[hE,jZ h];rfl
     have yes:(gM c.kind=true/\c.dm=c.dG/\(c.kind=6\/c.dm≠c.file))->cQ.val (.int .i64 1)=cQ.val (.int .i64 (mY c own)):=λh=>by rw[hE,qY h,eu dD]
     cases ht:gM c.kind with
     |false=>exact no λh=>by rw[ht]at h;exact absurd h.1 dD
     |true=>refine ou ?_;refine iu (a:=c.dm) (b:=c.dG) ?_;by_cases hab:c.dm=c.dG;rw[an hab];refine aA (λh6=>?_) (λh6=>?_);exact yes ⟨ht,hab,.inl h6⟩;refine ou ?_;refine DA (a:=c.dm) (b:=c.file) ?_;by_cases haf:c.dm=c.file;rw[an haf];exact no λh=>h.2.2.elim h6 λg=>g haf;rw[ah haf];exact yes ⟨ht,hab,.inr haf⟩;rw[ah hab];exact no λh=>hab h.2.1
def zW (l:List Bytes):Int:=if l.length=0 then 1 else if 2000<l.length then 4 else if l.all qk=true then 0 else 3
theorem rQ {α:Type}{f:α->Bool}{l:List α}{k:Nat}(hk:k<l.length)(h:(l.take k).all f=true)(h2:f l[k]=true):(l.take (k+1)).all f=true:=by rw[<-dn hk,List.all_append,h];simp[h2]
theorem Ol {α:Type}{f:α->Bool}{l:List α}{k:Nat}(hk:k<l.length)(h2:f l[k]=false):l.all f=false:=List.all_eq_false.2 ⟨_,aK hk,by rw[h2];decide⟩
theorem Yf (l:List Bytes)(hl:SzS l):ak C 172 [Hf l] (λr=>r=.val (.int .i64 (zW l))):=by
 have hlen:=hl.len;have he:(((l.map oA).length:Nat):Int)=(l.length:Int):=by rw[aj]
 refine ag Tryz.func172 rfl rfl rfl ?_;refine aA (λh=>?_) (λh=>?_);have :l.length=0:=by have :(((l.map oA).length:Nat):Int)=0:=h;omega
 show cQ.val _=_;rw[zW,af this];have h0:¬l.length=0:=λe=>h (by rw[he,e];rfl);refine az (λh=>?_) (λh=>?_);have :2000<l.length:=by have :(((l.map oA).length:Nat):Int)>2000:=h;omega
 show cQ.val _=_;rw[zW,aa h0,af this];have h1:¬2000<l.length:=by have :¬(((l.map oA).length:Nat):Int)>2000:=h;omega
 refine bu 22 (λk:Nat=>[(0,.p (Hf l)),(3,.p (.int .i64 k))]) (λ_=>[]) (λk=>k<=l.length/\(l.take k).all qk=true) (λk=>l.length-k) 0 ⟨zL,rfl⟩ rfl wS trivial ?_;rintro k ⟨hk,hall⟩;refine bQ (λhlt=>?_) (λhge=>?_);refine ix hlt ?_;refine cl (XW l[k] (hl.each _ (aK _))) ?_;refine bl ?_;cases hv:qk l[k]with
 |false=>have :l.all qk=false:=Ol hlt hv;show cQ.val _=_;rw[zW,aa h0,aa h1,aa (by rw[this];decide)]
 |true=>exact nx (k+1) (aO (k+1) ⟨hlt,rQ hlt hall hv⟩ oO rfl wS trivial)
 have :l.all qk=true:=by rw[ck oO]at hall;exact hall
 show cQ.val _=_;rw[zW,aa h0,aa h1,af this]
def zY (l:List Dg)(i:Nat):Int:=if l.getD i bF=bF then 1 else if 0<i/\0<=eY (l.getD (i-1) bF) (l.getD i bF)then 9 else 0
def mZ (l:List Dg):Int:=if 100<l.length then 4 else eo ((List.range l.length).map (zY l))
theorem xS (g:Nat->Int)(n k:Nat)(hk:k<n)(h:∀i,i<k->g i=0)(h2:g k≠0):eo ((List.range n).map g)=g k:=by
 have e:List.range n=List.range k++(k::(List.range (n-k-1)).map (·+(k+1))):=by apply List.ext_getElem;simp;omega;intro i h1 h3;simp only[List.getElem_range,List.getElem_append,tf,List.getElem_cons,xT];split;rfl;split;omega;omega
 rw[e,aM,cS];have :∀(l:List Nat)(r:List Int),(∀i,i∈l->g i=0)->eo (l.map g++r)=eo r:=by
  intro l;induction l with
  |nil=>intro r _;rfl
  |cons a l ih=>intro r hr;rw[cS,eB,eZ (hr a (by simp))];exact ih r λi hi=>hr i (by simp[hi])
 rw[this _ _ λi hi=>h i (iR.1 hi),eu h2]
theorem vq (g:Nat->Int)(n:Nat)(h:∀i,i<n->g i=0):eo ((List.range n).map g)=0:=by
 have :∀(l:List Nat),(∀i,i∈l->g i=0)->eo (l.map g)=0:=by
  intro l;induction l with
  |nil=>intro _;rfl
  |cons a l ih=>intro hr;rw[cS,eZ (hr a (by simp))];exact ih λi hi=>hr i (by simp[hi])
 exact this _ λi hi=>h i (iR.1 hi)
theorem Om {l:List Dg}{k:Nat}(h:k<l.length):zY l k=if l[k]=bF then 1 else if 0<k/\0<=eY (l.getD (k-1) bF) l[k]then 9 else 0:=by
 have :l.getD k bF=l[k]:=by simp[List.getD,h]
 unfold zY;rw[this]
theorem aeU (l:List Dg)(hl:l.length<=2^47):ak C 111 [.sl (jo l)] (λr=>r=.val (.int .i64 (mZ l))):=by
 unfold jo;have he:(((l.map cD).length:Nat):Int)=(l.length:Int):=by rw[aj]
 refine ag Tryz.func111 rfl rfl rfl ?_;refine az (λh=>?_) (λh=>?_);have :100<l.length:=by have :(((l.map cD).length:Nat):Int)>100:=h;omega
 show cQ.val _=_;rw[mZ,af this];have h1:¬100<l.length:=by have :¬(((l.map cD).length:Nat):Int)>100:=h;omega
 refine bu 33 (λk:Nat=>[(0,.p (.sl (l.map cD))),(3,.p (.int .i64 k))]) (λ_=>[]) (λk=>k<=l.length/\∀i,i<k->zY l i=0) (λk=>l.length-k) 0 ⟨zL,λi h=>absurd h (ia _)⟩ rfl wS trivial ?_;rintro k ⟨hk,hall⟩;refine bQ (λhlt=>?_) (λhge=>?_)
 ·have hb:=Om hlt;have bad:zY l k≠0->cQ.val (.int .i64 (zY l k))=cQ.val (.int .i64 (mZ l)):=λh=>by rw[mZ,aa h1,xS (zY l) l.length k hlt hall h]
  have next:zY l k=0->k+1<=l.length/\∀i,i<k+1->zY l i=0:=λh=>⟨hlt,λi hi=>by by_cases hik:i=k;rw[hik];exact h;exact hall i oO⟩;refine ix hlt ?_;refine cl (xL l[k]) ?_;by_cases hz:l[k]=bF;rw[an hz];rw[af hz]at hb;have :=bad (by rw[hb];decide);rw[hb]at this;exact this;rw[ah hz];rw[aa hz]at hb;refine cm 12 kK ?_;refine az (λh0=>?_) (λh0=>?_)
  ·have h0:0<k:=by have :(k:Int)>0:=h0;omega
   have hlt':k-1<l.length:=oO
   have hg:l.getD (k-1) bF=l[k-1]:=by simp[List.getD,hlt']
   rw[hg]at hb;refine nx (k-1) ?_;refine ix hlt' ?_;refine ix hlt ?_;refine cl (pP l[k-1] l[k]) ?_;refine az (λh2=>?_) (λh2=>?_);rw[af ⟨h0,h2⟩]at hb;have :=bad (by rw[hb];decide);rw[hb]at this;exact this;rw[aa λh=>h2 h.2]at hb;exact nx (k+1) (aO (k+1) (next hb) oO rfl wS trivial)
  have h0:¬0<k:=by have :¬(k:Int)>0:=h0;omega
  rw[aa λh=>h0 h.1]at hb;exact nx (k+1) (aO (k+1) (next hb) oO rfl wS trivial)
 have :mZ l=0:=by rw[mZ,aa h1];exact vq _ _ λi hi=>hall i oO
 rw[this];exact rfl
def dc (c:eG):Int:=if c.kind<1\/7<c.kind then 8 else if bI (eD c)=false then 1 else if c.kind=1/\(c.type<1\/4<c.type)then 8 else if c.kind=2/\iC c.name=false then 5 else if c.kind=3/\(c.mode<0\/511<c.mode)then 2 else if 65536<c.data.length then 4 else if c.kind=5 then zW c.lines else if c.kind=7/\c.over.length=0 then 1 else if 400<c.over.length then 4 else if yS c.over=false then 9 else 0
theorem TZ (c:eG)(hz:SzC c):ak C 140 [.agg (cC c)] (λr=>r=.val (.int .i64 (dc c))):=by
 obtain⟨E,hE⟩:∃E,dc c=E:=⟨_,rfl⟩;rw[hE];have hE:E=dc c:=hE.symm;unfold dc at hE;have Ua:(((iq c.over).length:Nat):Int)=(c.over.length:Int):=by simp[iq]
 refine dM [7,9,11,17] Tryz.func140 rfl rfl rfl ?_;refine⟨none,?_⟩;refine az (λh=>?_) (λh1=>az (λh=>?_) (λh2=>?_));rw[af (show c.kind<1\/7<c.kind from .inl h)]at hE;rw[hE];exact rfl;rw[af (show c.kind<1\/7<c.kind from .inr h)]at hE;rw[hE];exact rfl;have h1:¬c.kind<1:=h1;have h2:¬7<c.kind:=h2;rw[aa (show¬(c.kind<1\/7<c.kind)fromλh=>h.elim h1 h2)]at hE;refine cl (aeS c oO oO).cut ?_;refine cl (abv (eD c)).cut ?_;refine bl ?_;cases he:bI (eD c)with
 |false=>rw[he,af rfl]at hE;rw[hE];exact rfl
 |true=>
  rw[he,aa dD]at hE;refine⟨none,?_⟩;refine share (T:=?T1) (λH1=>?m1) ?r1;case m1=>refine aA (λh1=>az (λh2=>?_) (λh2=>az (λh3=>?_) (λh3=>?_))) (λh1=>?_);rw[af (show(c.kind=1/\(c.type<1\/4<c.type))from⟨h1,.inl h2⟩)]at hE;rw[hE];exact rfl;rw[af (show(c.kind=1/\(c.type<1\/4<c.type))from⟨h1,.inr h3⟩)]at hE;rw[hE];exact rfl;rw[aa (show¬(c.kind=1/\(c.type<1\/4<c.type))fromλh=>h.2.elim h2 h3)]at hE;refine dL 77 [(1,.ptr 1 0)] [(1,aH (cC c))] rfl wS oS ?_;revert hE;exact H1.out;rw[aa (show¬(c.kind=1/\(c.type<1\/4<c.type))fromλh=>h1 h.1)]at hE;refine dL 77 [(1,.ptr 1 0)] [(1,aH (cC c))] rfl wS oS ?_;revert hE;exact H1.out
  case r1=>
   intro hE;refine⟨none,?_⟩;refine share (T:=?T2) (λH2=>?m2) ?r2;case m2=>
    refine aA (λh1=>?_) (λh1=>?_);refine cl (IU c.name (by have :=hz.name;omega)).cut ?_;refine bl ?_;cases hn:iC c.name with
    |false=>rw[af (show c.kind=2/\iC c.name=false from⟨h1,hn⟩)]at hE;rw[hE];exact rfl
    |true=>rw[aa (show¬(c.kind=2/\iC c.name=false)fromλh=>by rw[hn]at h;exact absurd h.2 dD)]at hE;refine dL 77 [(1,.ptr 1 0)] [(1,aH (cC c))] rfl wS oS ?_;revert hE;exact H2.out
    rw[aa (show¬(c.kind=2/\iC c.name=false)fromλh=>h1 h.1)]at hE;refine dL 77 [(1,.ptr 1 0)] [(1,aH (cC c))] rfl wS oS ?_;revert hE;exact H2.out
   case r2=>
    intro hE;refine⟨none,?_⟩;refine share (T:=?T3) (λH3=>?m3) ?r3;case m3=>refine aA (λh1=>az (λh2=>?_) (λh2=>az (λh3=>?_) (λh3=>?_))) (λh1=>?_);rw[af (show(c.kind=3/\(c.mode<0\/511<c.mode))from⟨h1,.inl h2⟩)]at hE;rw[hE];exact rfl;rw[af (show(c.kind=3/\(c.mode<0\/511<c.mode))from⟨h1,.inr h3⟩)]at hE;rw[hE];exact rfl;rw[aa (show¬(c.kind=3/\(c.mode<0\/511<c.mode))fromλh=>h.2.elim h2 h3)]at hE;refine dL 77 [(1,.ptr 1 0)] [(1,aH (cC c))] rfl wS oS ?_;revert hE;exact H3.out;rw[aa (show¬(c.kind=3/\(c.mode<0\/511<c.mode))fromλh=>h1 h.1)]at hE;refine dL 77 [(1,.ptr 1 0)] [(1,aH (cC c))] rfl wS oS ?_;revert hE;exact H3.out
    case r3=>
     intro hE;refine az (λh=>?_) (λh=>?_);rw[af (show 65536<c.data.length by have :(c.data.length:Int)>65536:=h;omega)]at hE;rw[hE];exact rfl;rw[aa (show¬65536<c.data.length by have :¬(c.data.length:Int)>65536:=h;omega)]at hE;refine aA (λh5=>?_) (λh5=>?_);rw[af (show c.kind=5 from h5)]at hE;refine cl (Yf c.lines hz.lines).cut ?_;rw[hE];exact rfl;rw[aa (show¬c.kind=5 from h5)]at hE;refine⟨none,?_⟩;refine share (T:=?T4) (λH4=>?m4) ?r4;case m4=>refine aA (λh1=>?_) (λh1=>?_);refine aA (λh=>?_) (λh=>?_);have h:(((iq c.over).length:Nat):Int)=0:=h;rw[af (show c.kind=7/\c.over.length=0 from⟨h1,oO⟩)]at hE;rw[hE];exact rfl;have h:¬(((iq c.over).length:Nat):Int)=0:=h;rw[aa (show¬(c.kind=7/\c.over.length=0)fromλg=>h oO)]at hE;refine dL 77 [(1,.ptr 1 0)] [(1,aH (cC c))] rfl wS oS ?_;revert hE;exact H4.out;rw[aa (show¬(c.kind=7/\c.over.length=0)fromλh=>h1 h.1)]at hE;refine dL 77 [(1,.ptr 1 0)] [(1,aH (cC c))] rfl wS oS ?_;revert hE;exact H4.out
     case r4=>
      intro hE;refine az (λh=>?_) (λh=>?_);rw[af (show 400<c.over.length by have :(((iq c.over).length:Nat):Int)>400:=h;omega)]at hE;rw[hE];exact rfl;rw[aa (show¬400<c.over.length by have :¬(((iq c.over).length:Nat):Int)>400:=h;omega)]at hE;refine cl (aex c.over hz.over).cut ?_;refine bl ?_;cases ha:yS c.over with
      |false=>rw[ha,af rfl]at hE;rw[hE];exact rfl
      |true=>rw[ha,aa dD]at hE;rw[hE];exact rfl
end Qv
