/- Part 14 of the proof: its lemmas. No condition. -/
import Derived.Test.YtiboombocnfngaaGreatDoorX1
import Derived.Test.YtiboombocnfngaaGreatDoorX3
import Derived.Test.YtiboombocnfngaaGreatDoorX5
import Derived.Test.YtiboombocnfngaaGreatDoorX6
set_option maxRecDepth 10000
set_option maxHeartbeats 80000000
set_option linter.all false
open Go Go.Proofs Go.RowKit
namespace Qv
def cw (n:Int):bQ:=⟨aZ,n⟩
def nK (file:bQ)(f:Nat)(ls:List Bytes)(i:Nat):bR:=⟨cw ((f+i:Nat):Int),5,file,0,aP,[],0,[],ls.getD i [],aP,aP,[]⟩
def kD (file cQ dc:bQ)(f k i:Nat):bR:=⟨cw ((f+k+i:Nat):Int),6,file,0,aP,[],0,[],[],if 0<i then cw ((f+i-1:Nat):Int)else cQ,if i<k then cw ((f+i:Nat):Int)else dc,[]⟩
def dU (c:dw)(f:Nat):bR:=if c.kind=1 then⟨cw f,1,cw f,c.type,aP,[],0,[],[],aP,aP,[]⟩else if c.kind=2 then⟨cw f,2,c.file,0,c.parent,c.name,0,[],[],aP,aP,c.over⟩else if c.kind=3 then⟨cw f,3,c.file,0,aP,[],c.mode,[],[],aP,aP,c.over⟩else if c.kind=4 then⟨cw f,4,c.file,0,aP,[],0,c.data,[],aP,aP,c.over⟩else if c.kind=6 then⟨cw f,6,c.file,0,aP,[],0,[],[],c.cQ,c.dc,c.over⟩else⟨cw f,7,aP,0,aP,[],0,[],[],aP,aP,c.over⟩
def cu (c:dw)(f:Nat):List bR:=if c.kind=5 then(List.range c.lines.length).map (nK c.file f c.lines)++(List.range (c.lines.length+1)).map (kD c.file c.cQ c.dc f c.lines.length)else[dU c f]
theorem aa4 (c:dw)(f:Nat)(hk:c.kind=1):cu c f=[⟨cw f,1,cw f,c.type,aP,[],0,[],[],aP,aP,[]⟩]:=by unfold cu dU;rw[af (show¬c.kind=5 by omega)];rw[ag hk]
theorem aa5 (c:dw)(f:Nat)(hk:c.kind=1):av C 57 [.agg (cC c),.int .i64 (f:Int)] (λr=>r=.val (.sl (gI (cu c f)))):=by
 rw[aa4 c f hk];cases c with
 |mk kind file type parent name mode data cQ dc lines over=>simp only at hk⊢;subst hk;refine ak Tryz.func57 rfl rfl rfl (aC (λ_=>?_) (λh=>absurd (show(1:Int)=1 by decide) h));exact .inr rfl
theorem aa6 (c:dw)(f:Nat)(hk:c.kind=2):cu c f=[⟨cw f,2,c.file,0,c.parent,c.name,0,[],[],aP,aP,c.over⟩]:=by unfold cu dU;rw[af (show¬c.kind=5 by omega)];rw[af (show¬c.kind=1 by omega)];rw[ag hk]
theorem aa7 (c:dw)(f:Nat)(hk:c.kind=2):av C 57 [.agg (cC c),.int .i64 (f:Int)] (λr=>r=.val (.sl (gI (cu c f)))):=by
 rw[aa6 c f hk];cases c with
 |mk kind file type parent name mode data cQ dc lines over=>simp only at hk⊢;subst hk;refine ak Tryz.func57 rfl rfl rfl (aC (λh=>absurd (show(2:Int)=1 from h) dD) (λ_=>?_));refine aC (λ_=>?_) (λh=>absurd (show(2:Int)=2 by decide) h);exact .inr rfl
theorem aa8 (c:dw)(f:Nat)(hk:c.kind=3):cu c f=[⟨cw f,3,c.file,0,aP,[],c.mode,[],[],aP,aP,c.over⟩]:=by unfold cu dU;rw[af (show¬c.kind=5 by omega)];rw[af (show¬c.kind=1 by omega)];rw[af (show¬c.kind=2 by omega)];rw[ag hk]
theorem aa9 (c:dw)(f:Nat)(hk:c.kind=3):av C 57 [.agg (cC c),.int .i64 (f:Int)] (λr=>r=.val (.sl (gI (cu c f)))):=by
 rw[aa8 c f hk];cases c with
 |mk kind file type parent name mode data cQ dc lines over=>simp only at hk⊢;subst hk;refine ak Tryz.func57 rfl rfl rfl (aC (λh=>absurd (show(3:Int)=1 from h) dD) (λ_=>?_));refine aC (λh=>absurd (show(3:Int)=2 from h) dD) (λ_=>?_);refine aC (λ_=>?_) (λh=>absurd (show(3:Int)=3 by decide) h);exact .inr rfl
theorem aba (c:dw)(f:Nat)(hk:c.kind=4):cu c f=[⟨cw f,4,c.file,0,aP,[],0,c.data,[],aP,aP,c.over⟩]:=by unfold cu dU;rw[af (show¬c.kind=5 by omega)];rw[af (show¬c.kind=1 by omega)];rw[af (show¬c.kind=2 by omega)];rw[af (show¬c.kind=3 by omega)];rw[ag hk]
theorem abb (c:dw)(f:Nat)(hk:c.kind=4):av C 57 [.agg (cC c),.int .i64 (f:Int)] (λr=>r=.val (.sl (gI (cu c f)))):=by
 rw[aba c f hk];cases c with
 |mk kind file type parent name mode data cQ dc lines over=>simp only at hk⊢;subst hk;refine ak Tryz.func57 rfl rfl rfl (aC (λh=>absurd (show(4:Int)=1 from h) dD) (λ_=>?_));refine aC (λh=>absurd (show(4:Int)=2 from h) dD) (λ_=>?_);refine aC (λh=>absurd (show(4:Int)=3 from h) dD) (λ_=>?_);refine aC (λ_=>?_) (λh=>absurd (show(4:Int)=4 by decide) h);exact .inr rfl
theorem abc (c:dw)(f:Nat)(hk:c.kind=6):cu c f=[⟨cw f,6,c.file,0,aP,[],0,[],[],c.cQ,c.dc,c.over⟩]:=by unfold cu dU;rw[af (show¬c.kind=5 by omega)];rw[af (show¬c.kind=1 by omega)];rw[af (show¬c.kind=2 by omega)];rw[af (show¬c.kind=3 by omega)];rw[af (show¬c.kind=4 by omega)];rw[ag hk]
theorem abd (c:dw)(f:Nat)(hk:c.kind=6):av C 57 [.agg (cC c),.int .i64 (f:Int)] (λr=>r=.val (.sl (gI (cu c f)))):=by
 rw[abc c f hk];cases c with
 |mk kind file type parent name mode data cQ dc lines over=>simp only at hk⊢;subst hk;refine ak Tryz.func57 rfl rfl rfl (aC (λh=>absurd (show(6:Int)=1 from h) dD) (λ_=>?_));refine aC (λh=>absurd (show(6:Int)=2 from h) dD) (λ_=>?_);refine aC (λh=>absurd (show(6:Int)=3 from h) dD) (λ_=>?_);refine aC (λh=>absurd (show(6:Int)=4 from h) dD) (λ_=>?_);refine aC (λ_=>?_) (λh=>absurd (show(6:Int)=6 by decide) h);exact .inr rfl
theorem abe (c:dw)(f:Nat)(hk:c.kind=7):cu c f=[⟨cw f,7,aP,0,aP,[],0,[],[],aP,aP,c.over⟩]:=by unfold cu dU;rw[af (show¬c.kind=5 by omega)];rw[af (show¬c.kind=1 by omega)];rw[af (show¬c.kind=2 by omega)];rw[af (show¬c.kind=3 by omega)];rw[af (show¬c.kind=4 by omega)];rw[af (show¬c.kind=6 by omega)]
theorem abf (c:dw)(f:Nat)(hk:c.kind=7):av C 57 [.agg (cC c),.int .i64 (f:Int)] (λr=>r=.val (.sl (gI (cu c f)))):=by
 rw[abe c f hk];cases c with
 |mk kind file type parent name mode data cQ dc lines over=>simp only at hk⊢;subst hk;refine ak Tryz.func57 rfl rfl rfl (aC (λh=>absurd (show(7:Int)=1 from h) dD) (λ_=>?_));refine aC (λh=>absurd (show(7:Int)=2 from h) dD) (λ_=>?_);refine aC (λh=>absurd (show(7:Int)=3 from h) dD) (λ_=>?_);refine aC (λh=>absurd (show(7:Int)=4 from h) dD) (λ_=>?_);refine aC (λh=>absurd (show(7:Int)=6 from h) dD) (λ_=>?_);refine aC (λ_=>?_) (λh=>absurd (show(7:Int)=7 by decide) h);exact .inr rfl
theorem abg (c:dw)(f:Nat)(hk:c.kind=5):cu c f=(List.range c.lines.length).map (nK c.file f c.lines)++(List.range (c.lines.length+1)).map (kD c.file c.cQ c.dc f c.lines.length):=by unfold cu;rw[ag hk]
theorem fR {l:List bR}:∀zs,zs∈l.map cA->zs.length=172:=by intro zs h;obtain⟨x,-,rfl⟩:=aJ.1 h;exact agQ x
theorem IZ {α:Type}(g:Nat->α)(k:Nat):(List.range (k+1)).map g=(List.range k).map g++[g k]:=by rw[xL,aD];rfl
theorem TM (a:List bR)(x:bR):a.map cA++[cA x]=(a++[x]).map cA:=by rw[aD];rfl
theorem abh (c:dw)(f:Nat)(hk:c.kind=5)(hf:f<=2^30)(hl:c.lines.length<=2^30):av C 57 [.agg (cC c),.int .i64 (f:Int)] (λr=>r=.val (.sl (gI (cu c f)))):=by
 rw[abg c f hk];cases c with
 |mk kind file type parent name mode data cQ dc lines over=>
  simp only at hk hl⊢;subst hk;refine ak Tryz.func57 rfl rfl rfl (aC (λh=>absurd (show(5:Int)=1 from h) dD) (λ_=>?_));refine aC (λh=>absurd (show(5:Int)=2 from h) dD) (λ_=>?_);refine aC (λh=>absurd (show(5:Int)=3 from h) dD) (λ_=>?_);refine aC (λh=>absurd (show(5:Int)=4 from h) dD) (λ_=>?_);refine aC (λh=>absurd (show(5:Int)=6 from h) dD) (λ_=>?_);refine aC (λh=>absurd (show(5:Int)=7 from h) dD) (λ_=>?_);obtain⟨L1,hL1⟩:∃L,(List.range lines.length).map (nK file f lines)=L:=⟨_,rfl⟩;have aov:L1.length=lines.length:=by rw[<-hL1];simp
  refine bJ 141 (λk:Nat=>[(1,.p (.int .i64 (f:Int))),(2,.ptr 2 0),(6,.gd 78 109 172 (((List.range k).map (nK file f lines)).map cA)),(7,.p (.int .i64 (lines.length:Int))),(8,.p (.int .i64 k))]) (λ_=>[(2,aH (cC ⟨5,file,type,parent,name,mode,data,cQ,dc,lines,over⟩))]) (λk=>k<=lines.length) (λk=>lines.length-k) 0 (zL) rfl ⟨bw.refl _,bw.refl _,bw.refl _,bw.eq (by show FV.p (.int .i64 ((lines.map mL).length:Int))=_;rw[aj]),bw.refl _,trivial⟩ oS ?_;intro k hk;refine aF (λhlt=>?_) (λhge=>?_);have hlt:k<lines.length:=by have :(k:Int)<(lines.length:Int):=hlt;omega
  refine bZ 14 kK (nx (f+k) ⟨_,rfl,ix hlt ⟨_,rfl,_,rfl,?_⟩⟩);have hg:lines.getD k []=lines[k]:=by simp[List.getD,hlt]
  refine⟨fR,fR (l:=[⟨cw ((f+k:Nat):Int),5,file,0,aP,[],0,[],lines[k],aP,aP,[]⟩]),by show((((List.range k).map (nK file f lines)).map cA).length+1)*296<=_;rw[aj,aj,fe];omega,((List.range (k+1)).map (nK file f lines)).map cA,by rw[IZ,<-TM];unfold nK;rw[hg];rfl,?_⟩;exact nx (k+1) (aT (k+1) hlt oO rfl wS oS);obtain rfl:k=lines.length:=by have :¬(k:Int)<(lines.length:Int):=hge;omega
  rw[hL1];refine bJ 141 (λk:Nat=>[(1,.p (.int .i64 (f:Int))),(2,.ptr 2 0),(6,.gd 78 109 172 ((L1++(List.range k).map (kD file cQ dc f lines.length)).map cA)),(7,.p (.int .i64 (lines.length:Int))),(9,.p (.int .i64 k))]) (λ_=>[(2,aH (cC ⟨5,file,type,parent,name,mode,data,cQ,dc,lines,over⟩))]) (λk=>k<=lines.length+1) (λk=>lines.length+1-k) 0 (zL) rfl ⟨bw.refl _,bw.refl _,bw.eq (by simp;rfl),bw.refl _,bw.refl _,trivial⟩ oS ?_;intro k hk;refine aF (λhlt=>?_) (λhge=>?_);have hlt:k<=lines.length:=by have :(k:Int)<=(lines.length:Int):=hlt;omega
  refine nx (f+lines.length) (nx (f+lines.length+k) ?_);have fin:∀e,e=kD file cQ dc f lines.length k->(L1++(List.range k).map (kD file cQ dc f lines.length)).map cA++[cA e]=(L1++(List.range (k+1)).map (kD file cQ dc f lines.length)).map cA:=λe he=>by rw[IZ,he,TM,bq]
  have bd:(((L1++(List.range k).map (kD file cQ dc f lines.length)).map cA).length+1)*296<=140737488355328:=by rw[aj,aA,aj,fe];omega
  refine aF (λh0=>?_) (λh0=>?_);have h0:0<k:=by have :(k:Int)>0:=h0;omega
  refine nx (f+k) (nx (f+k-1) (aF (λh1=>?_) (λh1=>?_)));have h1:k<lines.length:=by have :(k:Int)<(lines.length:Int):=h1;omega
  refine nx (f+k) ?_;have he:(⟨cw ((f+lines.length+k:Nat):Int),6,file,0,aP,[],0,[],[],cw ((f+k-1:Nat):Int),cw ((f+k:Nat):Int),[]⟩:bR)=kD file cQ dc f lines.length k:=by unfold kD;rw[ag h0,ag h1]
  exact⟨fR,fR (l:=[⟨cw ((f+lines.length+k:Nat):Int),6,file,0,aP,[],0,[],[],cw ((f+k-1:Nat):Int),cw ((f+k:Nat):Int),[]⟩]),bd,_,fin _ he,nx (k+1) (aT (k+1) (by show k+1<=_;omega) oO rfl wS oS)⟩;have h1:¬k<lines.length:=by have :¬(k:Int)<(lines.length:Int):=h1;omega
  have he:(⟨cw ((f+lines.length+k:Nat):Int),6,file,0,aP,[],0,[],[],cw ((f+k-1:Nat):Int),dc,[]⟩:bR)=kD file cQ dc f lines.length k:=by unfold kD;rw[ag h0,af h1]
  exact⟨fR,fR (l:=[⟨cw ((f+lines.length+k:Nat):Int),6,file,0,aP,[],0,[],[],cw ((f+k-1:Nat):Int),dc,[]⟩]),bd,_,fin _ he,nx (k+1) (aT (k+1) (by show k+1<=_;omega) oO rfl wS oS)⟩;have h0:¬0<k:=by have :¬(k:Int)>0:=h0;omega
  refine aF (λh1=>?_) (λh1=>?_);have h1:k<lines.length:=by have :(k:Int)<(lines.length:Int):=h1;omega
  refine nx (f+k) ?_;have he:(⟨cw ((f+lines.length+k:Nat):Int),6,file,0,aP,[],0,[],[],cQ,cw ((f+k:Nat):Int),[]⟩:bR)=kD file cQ dc f lines.length k:=by unfold kD;rw[af h0,ag h1]
  exact⟨fR,fR (l:=[⟨cw ((f+lines.length+k:Nat):Int),6,file,0,aP,[],0,[],[],cQ,cw ((f+k:Nat):Int),[]⟩]),bd,_,fin _ he,nx (k+1) (aT (k+1) (by show k+1<=_;omega) oO rfl wS oS)⟩;have h1:¬k<lines.length:=by have :¬(k:Int)<(lines.length:Int):=h1;omega
  have he:(⟨cw ((f+lines.length+k:Nat):Int),6,file,0,aP,[],0,[],[],cQ,dc,[]⟩:bR)=kD file cQ dc f lines.length k:=by unfold kD;rw[af h0,af h1]
  exact⟨fR,fR (l:=[⟨cw ((f+lines.length+k:Nat):Int),6,file,0,aP,[],0,[],[],cQ,dc,[]⟩]),bd,_,fin _ he,nx (k+1) (aT (k+1) (by show k+1<=_;omega) oO rfl wS oS)⟩;obtain rfl:k=lines.length+1:=by have :¬(k:Int)<=(lines.length:Int):=hge;omega
  exact .inr (by rw[<-hL1];rfl)
structure Hid (T:Prop):Prop where
 out:T
theorem share {T G:Prop}(h:Hid T->G)(t:T):G:=h ⟨t⟩
def bf:List Int->Int|[]=>0|e::l=>if e≠0 then e else bf l
theorem ee {e:Int}{l:List Int}(h:e≠0):bf (e::l)=e:=ag h
theorem dz {e:Int}{l:List Int}(h:e=0):bf (e::l)=bf l:=af (λg=>g h)
theorem kI {p:Prop}[Decidable p]{e:Int}{l:List Int}(h:¬p):bf ((if p then e else 0)::l)=bf l:=by rw[af h];exact dz rfl
theorem rH {p:Prop}[Decidable p]{e:Int}{l:List Int}(h:p):bf ((if p then e else 0)::l)=bf (e::l):=by rw[ag h]
def jg (x:bR):Bool:=decide (x.kind=1)&&decide (x.type=4)
def vr (c:dw)(own:List bR):List Int:=(if 2<=c.kind/\c.kind<=6 then pY c.file own.length (bg c.kind (lM own c.file))else 0)::(if c.kind=2/\c.parent≠iS then pY c.parent own.length (jg (lM own c.parent))else 0)::(if fC c.kind=true then pY c.cQ own.length (decide (c.cQ=c.file)||fk c.file (lM own c.cQ))else 0)::(if fC c.kind=true then pY c.dc own.length (decide (c.dc=c.file)||fk c.file (lM own c.dc))else 0)::((c.over.map λx=>pY x own.length (dR c.kind c.file (lM own x)))++[if c.kind=2/\c.parent=c.file then 20 else 0,if fC c.kind=true/\c.cQ=c.dc/\(c.kind=6\/c.cQ≠c.file)then 1 else 0])
def jA (c:dw)(own:List bR):Int:=bf (vr c own)
def Ja (c:dw)(k:Nat):bQ:=if k=0 then c.cQ else c.dc
def agX (c:dw)(own:List bR):Nat->List Int|0=>[pY c.cQ own.length (decide (c.cQ=c.file)||fk c.file (lM own c.cQ)),pY c.dc own.length (decide (c.dc=c.file)||fk c.file (lM own c.dc))]|1=>[pY c.dc own.length (decide (c.dc=c.file)||fk c.file (lM own c.dc))]|_=>[]
theorem XA (c:dw)(own:List bR){k:Nat}(h:k<2):agX c own k=pY (Ja c k) own.length (decide (Ja c k=c.file)||fk c.file (lM own (Ja c k)))::agX c own (k+1):=by
 match k,h with
  |0,_=>rfl
  |1,_=>rfl
theorem agY (c:dw){k:Nat}(h:k<2):[cI c.cQ,cI c.dc][((k:Nat):Int).toNat]?=some (cI (Ja c k)):=by
 match k,h with
  |0,_=>rfl
  |1,_=>rfl
theorem By {α β:Type}{g:α->β}{l:List α}{k:Nat}(h:k<l.length)(r:List β):(l.drop k).map g++r=g l[k]::((l.drop (k+1)).map g++r):=by rw[bY h,bB,cr]
theorem aeu (c:dw)(own:List bR)(hl:own.length<=2^47)(ho:c.over.length<=2^47):av C 273 [.agg (cC c),.sl (gI own)] (λr=>r=.val (.int .i64 (jA c own))):=by
 have hE:jA c own=bf (vr c own):=rfl;unfold vr at hE;refine dY [5,10,18,24,26] Tryz.func273 rfl rfl rfl ⟨none,share (T:=?T1) (λH1=>?m1) ?r1⟩;case m1=>refine aF (λh1=>aF (λh2=>?_) (λh2=>?_)) (λh1=>?_);rw[rH (show 2<=c.kind/\c.kind<=6 from⟨h1,h2⟩)]at hE;refine bZ 10 kK ⟨_,(Oh own c.file hl).cut,_,(Ri c.kind (lM own c.file)).cut,cl (Cg c.file own (bg c.kind (lM own c.file))).cut (cm (λh=>?_) (λh=>?_))⟩;rw[hE,ee h];exact rfl;rw[dz h]at hE;refine de 163 [(1,.p (.sl (gI own))),(2,.ptr 2 0)] [(2,aH (cC c))] rfl wS oS ?_;revert hE;exact H1.out;rw[kI (show¬(2<=c.kind/\c.kind<=6)fromλh=>h2 h.2)]at hE;refine de 163 [(1,.p (.sl (gI own))),(2,.ptr 2 0)] [(2,aH (cC c))] rfl wS oS ?_;revert hE;exact H1.out;rw[kI (show¬(2<=c.kind/\c.kind<=6)fromλh=>h1 h.1)]at hE;refine de 163 [(1,.p (.sl (gI own))),(2,.ptr 2 0)] [(2,aH (cC c))] rfl wS oS ?_;revert hE;exact H1.out
 case r1=>
  intro hE;refine share (T:=?T2) (λH2=>?m2) ?r2;case m2=>
   refine bZ 9 kK (aC (λh1=>?_) (λh1=>?_));rotate_left;rw[kI (show¬(c.kind=2/\c.parent≠iS)fromλh=>h1 h.1)]at hE;refine de 163 [(1,.p (.sl (gI own))),(2,.ptr 2 0)] [(2,aH (cC c))] rfl wS oS ?_;revert hE;exact H2.out;refine⟨_,DT.cut,pW (zO (a:=c.parent) (b:=iS) ?_)⟩;by_cases hp:c.parent=iS;rw[ah hp];rw[kI (show¬(c.kind=2/\c.parent≠iS)fromλh=>h.2 hp)]at hE;refine de 163 [(1,.p (.sl (gI own))),(2,.ptr 2 0)] [(2,aH (cC c))] rfl wS oS ?_;revert hE;exact H2.out;rw[ai hp];rw[rH (show c.kind=2/\c.parent≠iS from⟨h1,hp⟩)]at hE;refine cl (Oh own c.parent hl).cut ⟨none,aC (λh2=>aC (λh3=>?_) (λh3=>?_)) (λh2=>?_)⟩;have e:jg (lM own c.parent)=true:=by have h2:(lM own c.parent).kind=1:=h2;have h3:(lM own c.parent).type=4:=h3;simp[jg,h2,h3]
   rw[e]at hE;refine cl (Cg c.parent own true).cut (cm (λh=>?_) (λh=>?_));rw[hE,ee h];exact rfl;rw[dz h]at hE;refine de 163 [(1,.p (.sl (gI own))),(2,.ptr 2 0)] [(2,aH (cC c))] rfl wS oS ?_;revert hE;exact H2.out;have e:jg (lM own c.parent)=false:=by have h3:¬(lM own c.parent).type=4:=h3;simp[jg,h3]
   rw[e]at hE;refine cl (Cg c.parent own false).cut (cm (λh=>?_) (λh=>?_));rw[hE,ee h];exact rfl;rw[dz h]at hE;refine de 163 [(1,.p (.sl (gI own))),(2,.ptr 2 0)] [(2,aH (cC c))] rfl wS oS ?_;revert hE;exact H2.out;have e:jg (lM own c.parent)=false:=by have h2:¬(lM own c.parent).kind=1:=h2;simp[jg,h2]
   rw[e]at hE;refine cl (Cg c.parent own false).cut (cm (λh=>?_) (λh=>?_));rw[hE,ee h];exact rfl;rw[dz h]at hE;refine de 163 [(1,.p (.sl (gI own))),(2,.ptr 2 0)] [(2,aH (cC c))] rfl wS oS ?_;revert hE;exact H2.out
  case r2=>
   intro hE;refine share (T:=?T3) (λH3=>?m3) ?r3;case m3=>
    refine cl (Og c.kind).cut ?_;cases ht:fC c.kind with
    |false=>rw[ht,kI dD,kI dD]at hE;rw[<-ht]at hE;refine de 163 [(1,.p (.sl (gI own))),(2,.ptr 2 0)] [(2,aH (cC c))] rfl wS oS ?_;revert hE;exact H3.out
    |true=>
     refine bJ 163 (λk:Nat=>[(1,.p (.sl (gI own))),(2,.ptr 2 0),(8,.gd 70 54 33 [cI c.cQ,cI c.dc]),(9,.p (.int .i64 k))]) (λ_=>[(2,aH (cC c))]) (λk=>k<=2/\jA c own=bf (agX c own k++(c.over.map (λx=>pY x own.length (dR c.kind c.file (lM own x)))++[if c.kind=2/\c.parent=c.file then 20 else 0,if fC c.kind=true/\c.cQ=c.dc/\(c.kind=6\/c.cQ≠c.file)then 1 else 0]))) (λk=>2-k) 0 ⟨zL,by rw[hE,ag ht,ag ht];rfl⟩ rfl wS oS ?_;rintro k ⟨hk2,hE⟩;have hk2:k<=2:=hk2;refine aF (λhlt=>?_) (λhge=>?_);have hlt:k<2:=by have :(k:Int)<2:=hlt;omega
     rw[XA c own hlt,cr]at hE;refine bZ 23 kK ⟨oO,_,agY c hlt,rfl,?_⟩;refine⟨oO,_,agY c hlt,rfl,?_⟩;refine pW (jw (a:=Ja c k) (b:=c.file) ?_);by_cases hf:Ja c k=c.file;rw[ah hf];rw[ah hf,xM]at hE;refine cl (Cg (Ja c k) own true).cut (cm (λh=>?_) (λh=>?_));rw[hE,ee h];exact rfl;rw[dz h]at hE;exact nx (k+1) (aT (k+1) ⟨hlt,hE⟩ oO rfl wS oS);rw[ai hf];rw[ai hf,gA]at hE;refine⟨oO,_,agY c hlt,rfl,?_⟩;refine⟨_,(Oh own (Ja c k) hl).cut,_,(IX c.file (lM own (Ja c k))).cut,cl (Cg (Ja c k) own (fk c.file (lM own (Ja c k)))).cut (cm (λh=>?_) (λh=>?_))⟩;rw[hE,ee h];exact rfl;rw[dz h]at hE;exact nx (k+1) (aT (k+1) ⟨hlt,hE⟩ oO rfl wS oS);obtain rfl:k=2:=by have :¬(k:Int)<2:=hge;omega
     have hE:jA c own=bf (c.over.map (λx=>pY x own.length (dR c.kind c.file (lM own x)))++[if c.kind=2/\c.parent=c.file then 20 else 0,if fC c.kind=true/\c.cQ=c.dc/\(c.kind=6\/c.cQ≠c.file)then 1 else 0]):=hE;refine de 163 [(1,.p (.sl (gI own))),(2,.ptr 2 0)] [(2,aH (cC c))] rfl wS oS ?_;revert hE;exact H3.out
   case r3=>
    intro hE;refine bJ 163 (λk:Nat=>[(1,.p (.sl (gI own))),(2,.ptr 2 0),(11,.p (.int .i64 k))]) (λ_=>[(2,aH (cC c))]) (λk=>k<=c.over.length/\jA c own=bf ((c.over.drop k).map (λx=>pY x own.length (dR c.kind c.file (lM own x)))++[if c.kind=2/\c.parent=c.file then 20 else 0,if fC c.kind=true/\c.cQ=c.dc/\(c.kind=6\/c.cQ≠c.file)then 1 else 0])) (λk=>c.over.length-k) 0 ⟨zL,hE⟩ rfl wS oS ?_;rintro k ⟨hk,hE⟩;refine cq (l:=c.over) (f:=cI) (λhlt=>?_) (λhge=>?_);rw[By hlt]at hE;refine bZ 18 kK (ix hlt (ix hlt ⟨_,(Oh own c.over[k] hl).cut,_,(Rh c.kind c.file (lM own c.over[k])).cut,cl (Cg c.over[k] own (dR c.kind c.file (lM own c.over[k]))).cut (cm (λh=>?_) (λh=>?_))⟩));rw[hE,ee h];exact rfl;rw[dz h]at hE;exact nx (k+1) (aT (k+1) ⟨hlt,hE⟩ oO rfl wS oS);rw[cZ oO,fM,dM]at hE;refine de 163 [(1,.p (.sl (gI own))),(2,.ptr 2 0)] [(2,aH (cC c))] rfl wS oS ⟨none,share (T:=?T4) (λH4=>?m4) ?r4⟩;case m4=>refine aC (λh1=>?_) (λh1=>?_);rotate_left;rw[kI (show¬(c.kind=2/\c.parent=c.file)fromλh=>h1 h.1)]at hE;refine de 163 [(1,.p (.sl (gI own))),(2,.ptr 2 0)] [(2,aH (cC c))] rfl wS oS ?_;revert hE;exact H4.out;refine pW (jw (a:=c.parent) (b:=c.file) ?_);by_cases hp:c.parent=c.file;rw[ah hp];rw[rH (show c.kind=2/\c.parent=c.file from⟨h1,hp⟩),ee dD]at hE;rw[hE];exact rfl;rw[ai hp];rw[kI (show¬(c.kind=2/\c.parent=c.file)fromλh=>hp h.2)]at hE;refine de 163 [(1,.p (.sl (gI own))),(2,.ptr 2 0)] [(2,aH (cC c))] rfl wS oS ?_;revert hE;exact H4.out
    case r4=>
     intro hE;refine⟨none,cl (Og c.kind).cut ?_⟩;have no:¬(fC c.kind=true/\c.cQ=c.dc/\(c.kind=6\/c.cQ≠c.file))->dJ.val (.int .i64 0)=dJ.val (.int .i64 (jA c own)):=λh=>by rw[hE,kI h];rfl
     have yes:(fC c.kind=true/\c.cQ=c.dc/\(c.kind=6\/c.cQ≠c.file))->dJ.val (.int .i64 1)=dJ.val (.int .i64 (jA c own)):=λh=>by rw[hE,rH h,ee dD]
     cases ht:fC c.kind with
     |false=>exact no λh=>by rw[ht]at h;exact absurd h.1 dD
     |true=>refine pW (jw (a:=c.cQ) (b:=c.dc) ?_);by_cases hab:c.cQ=c.dc;rw[ah hab];refine aC (λh6=>?_) (λh6=>?_);exact yes ⟨ht,hab,.inl h6⟩;refine pW (zO (a:=c.cQ) (b:=c.file) ?_);by_cases haf:c.cQ=c.file;rw[ah haf];exact no λh=>h.2.2.elim h6 λg=>g haf;rw[ai haf];exact yes ⟨ht,hab,.inr haf⟩;rw[ai hab];exact no λh=>hab h.2.1
def zU (l:List Bytes):Int:=if l.length=0 then 1 else if 2000<l.length then 4 else if l.all oP=true then 0 else 3
theorem Bz {α:Type}{f:α->Bool}{l:List α}{k:Nat}(hk:k<l.length)(h:(l.take k).all f=true)(h2:f l[k]=true):(l.take (k+1)).all f=true:=by rw[<-gB hk,List.all_append,h];simp[h2]
theorem abj {α:Type}{f:α->Bool}{l:List α}{k:Nat}(hk:k<l.length)(h2:f l[k]=false):l.all f=false:=DS.2 ⟨_,aQ hk,by rw[h2];decide⟩
theorem XB (l:List Bytes)(hl:SzS l):av C 307 [QL l] (λr=>r=.val (.int .i64 (zU l))):=by
 have hlen:=hl.len;have he:(((l.map mL).length:Nat):Int)=(l.length:Int):=by rw[aj]
 refine ak Tryz.func307 rfl rfl rfl (aC (λh=>?_) (λh=>?_));have :l.length=0:=by have :(((l.map mL).length:Nat):Int)=0:=h;omega
 show dJ.val _=_;rw[zU,ag this];have h0:¬l.length=0:=λe=>h (by rw[he,e];rfl);refine aF (λh=>?_) (λh=>?_);have :2000<l.length:=by have :(((l.map mL).length:Nat):Int)>2000:=h;omega
 show dJ.val _=_;rw[zU,af h0,ag this];have h1:¬2000<l.length:=by have :¬(((l.map mL).length:Nat):Int)>2000:=h;omega
 refine bJ 22 (λk:Nat=>[(0,.p (QL l)),(3,.p (.int .i64 k))]) (λ_=>[]) (λk=>k<=l.length/\(l.take k).all oP=true) (λk=>l.length-k) 0 ⟨zL,rfl⟩ rfl wS trivial ?_;rintro k ⟨hk,hall⟩;refine cq (λhlt=>?_) (λhge=>?_);refine ix hlt (cl (LY l[k] (hl.each _ (aQ _))) (bF ?_));cases hv:oP l[k]with
 |false=>have :l.all oP=false:=abj hlt hv;show dJ.val _=_;rw[zU,af h0,af h1,af (by rw[this];decide)]
 |true=>exact nx (k+1) (aT (k+1) ⟨hlt,Bz hlt hall hv⟩ oO rfl wS trivial)
 have :l.all oP=true:=by rw[ej oO]at hall;exact hall
 show dJ.val _=_;rw[zU,af h0,af h1,ag this]
def zW (l:List Dg)(i:Nat):Int:=if l.getD i aZ=aZ then 1 else if 0<i/\0<=dy (l.getD (i-1) aZ) (l.getD i aZ)then 9 else 0
def nv (l:List Dg):Int:=if 100<l.length then 4 else bf ((List.range l.length).map (zW l))
theorem DU (g:Nat->Int)(n k:Nat)(hk:k<n)(h:∀i,i<k->g i=0)(h2:g k≠0):bf ((List.range n).map g)=g k:=by
 have e:List.range n=List.range k++(k::(List.range (n-k-1)).map (·+(k+1))):=by apply List.ext_getElem;simp;omega;intro i h1 h3;simp only[qz,List.getElem_append,fe,List.getElem_cons,qA];split;rfl;split;omega;omega
 rw[e,aD,bB];have :∀(l:List Nat)(r:List Int),(∀i,i∈l->g i=0)->bf (l.map g++r)=bf r:=by
  intro l;induction l with
  |nil=>intro r _;rfl
  |cons a l ih=>intro r hr;rw[bB,cr,dz (hr a (by simp))];exact ih r λi hi=>hr i (by simp[hi])
 rw[this _ _ λi hi=>h i (fO.1 hi),ee h2]
theorem BA (g:Nat->Int)(n:Nat)(h:∀i,i<n->g i=0):bf ((List.range n).map g)=0:=by
 have :∀(l:List Nat),(∀i,i∈l->g i=0)->bf (l.map g)=0:=by
  intro l;induction l with
  |nil=>intro _;rfl
  |cons a l ih=>intro hr;rw[bB,dz (hr a (by simp))];exact ih λi hi=>hr i (by simp[hi])
 exact this _ λi hi=>h i (fO.1 hi)
theorem On {l:List Dg}{k:Nat}(h:k<l.length):zW l k=if l[k]=aZ then 1 else if 0<k/\0<=dy (l.getD (k-1) aZ) l[k]then 9 else 0:=by
 have :l.getD k aZ=l[k]:=by simp[List.getD,h]
 unfold zW;rw[this]
theorem aev (l:List Dg)(hl:l.length<=2^47):av C 199 [.sl (pe l)] (λr=>r=.val (.int .i64 (nv l))):=by
 unfold pe;have he:(((l.map cD).length:Nat):Int)=(l.length:Int):=by rw[aj]
 refine ak Tryz.func199 rfl rfl rfl (aF (λh=>?_) (λh=>?_));have :100<l.length:=by have :(((l.map cD).length:Nat):Int)>100:=h;omega
 show dJ.val _=_;rw[nv,ag this];have h1:¬100<l.length:=by have :¬(((l.map cD).length:Nat):Int)>100:=h;omega
 refine bJ 33 (λk:Nat=>[(0,.p (.sl (l.map cD))),(3,.p (.int .i64 k))]) (λ_=>[]) (λk=>k<=l.length/\∀i,i<k->zW l i=0) (λk=>l.length-k) 0 ⟨zL,λi h=>absurd h (jL _)⟩ rfl wS trivial ?_;rintro k ⟨hk,hall⟩;refine cq (λhlt=>?_) (λhge=>?_)
 ·have hb:=On hlt;have bad:zW l k≠0->dJ.val (.int .i64 (zW l k))=dJ.val (.int .i64 (nv l)):=λh=>by rw[nv,af h1,DU (zW l) l.length k hlt hall h]
  have next:zW l k=0->k+1<=l.length/\∀i,i<k+1->zW l i=0:=λh=>⟨hlt,λi hi=>by by_cases hik:i=k;rw[hik];exact h;exact hall i oO⟩;refine ix hlt (cl (xF l[k]) ?_);by_cases hz:l[k]=aZ;rw[ah hz];rw[ag hz]at hb;have :=bad (by rw[hb];decide);rw[hb]at this;exact this;rw[ai hz];rw[af hz]at hb;refine bZ 12 kK (aF (λh0=>?_) (λh0=>?_))
  ·have h0:0<k:=by have :(k:Int)>0:=h0;omega
   have hlt':k-1<l.length:=oO
   have hg:l.getD (k-1) aZ=l[k-1]:=by simp[List.getD,hlt']
   rw[hg]at hb;refine nx (k-1) (ix hlt' (ix hlt (cl (nH l[k-1] l[k]) (aF (λh2=>?_) (λh2=>?_)))));rw[ag ⟨h0,h2⟩]at hb;have :=bad (by rw[hb];decide);rw[hb]at this;exact this;rw[af λh=>h2 h.2]at hb;exact nx (k+1) (aT (k+1) (next hb) oO rfl wS trivial)
  have h0:¬0<k:=by have :¬(k:Int)>0:=h0;omega
  rw[af λh=>h0 h.1]at hb;exact nx (k+1) (aT (k+1) (next hb) oO rfl wS trivial)
 have :nv l=0:=by rw[nv,af h1];exact BA _ _ λi hi=>hall i oO
 rw[this];exact rfl
def cG (c:dw):Int:=if c.kind<1\/7<c.kind then 8 else if bG (eS c)=false then 1 else if c.kind=1/\(c.type<1\/4<c.type)then 8 else if c.kind=2/\gM c.name=false then 5 else if c.kind=3/\(c.mode<0\/511<c.mode)then 2 else if 65536<c.data.length then 4 else if c.kind=5 then zU c.lines else if c.kind=7/\c.over.length=0 then 1 else if 400<c.over.length then 4 else if wq c.over=false then 9 else 0
theorem TN (c:dw)(hz:SzC c):av C 272 [.agg (cC c)] (λr=>r=.val (.int .i64 (cG c))):=by
 obtain⟨E,hE⟩:∃E,cG c=E:=⟨_,rfl⟩;rw[hE];have hE:E=cG c:=hE.symm;unfold cG at hE;have hol:(((oZ c.over).length:Nat):Int)=(c.over.length:Int):=by simp[oZ]
 refine dY [7,9,11,17] Tryz.func272 rfl rfl rfl ⟨none,aF (λh=>?_) (λh1=>aF (λh=>?_) (λh2=>?_))⟩;rw[ag (show c.kind<1\/7<c.kind from .inl h)]at hE;rw[hE];exact rfl;rw[ag (show c.kind<1\/7<c.kind from .inr h)]at hE;rw[hE];exact rfl;have h1:¬c.kind<1:=h1;have h2:¬7<c.kind:=h2;rw[af (show¬(c.kind<1\/7<c.kind)fromλh=>h.elim h1 h2)]at hE;refine cl (aet c oO oO).cut (cl (aa3 (eS c)).cut (bF ?_));cases he:bG (eS c)with
 |false=>rw[he,ag rfl]at hE;rw[hE];exact rfl
 |true=>
  rw[he,af dD]at hE;refine⟨none,share (T:=?T1) (λH1=>?m1) ?r1⟩;case m1=>refine aC (λh1=>aF (λh2=>?_) (λh2=>aF (λh3=>?_) (λh3=>?_))) (λh1=>?_);rw[ag (show(c.kind=1/\(c.type<1\/4<c.type))from⟨h1,.inl h2⟩)]at hE;rw[hE];exact rfl;rw[ag (show(c.kind=1/\(c.type<1\/4<c.type))from⟨h1,.inr h3⟩)]at hE;rw[hE];exact rfl;rw[af (show¬(c.kind=1/\(c.type<1\/4<c.type))fromλh=>h.2.elim h2 h3)]at hE;refine de 77 [(1,.ptr 1 0)] [(1,aH (cC c))] rfl wS oS ?_;revert hE;exact H1.out;rw[af (show¬(c.kind=1/\(c.type<1\/4<c.type))fromλh=>h1 h.1)]at hE;refine de 77 [(1,.ptr 1 0)] [(1,aH (cC c))] rfl wS oS ?_;revert hE;exact H1.out
  case r1=>
   intro hE;refine⟨none,share (T:=?T2) (λH2=>?m2) ?r2⟩;case m2=>
    refine aC (λh1=>?_) (λh1=>?_);refine cl (Cd c.name (by have :=hz.name;omega)).cut ?_;refine bF ?_;cases hn:gM c.name with
    |false=>rw[ag (show c.kind=2/\gM c.name=false from⟨h1,hn⟩)]at hE;rw[hE];exact rfl
    |true=>rw[af (show¬(c.kind=2/\gM c.name=false)fromλh=>by rw[hn]at h;exact absurd h.2 dD)]at hE;refine de 77 [(1,.ptr 1 0)] [(1,aH (cC c))] rfl wS oS ?_;revert hE;exact H2.out
    rw[af (show¬(c.kind=2/\gM c.name=false)fromλh=>h1 h.1)]at hE;refine de 77 [(1,.ptr 1 0)] [(1,aH (cC c))] rfl wS oS ?_;revert hE;exact H2.out
   case r2=>
    intro hE;refine⟨none,share (T:=?T3) (λH3=>?m3) ?r3⟩;case m3=>refine aC (λh1=>aF (λh2=>?_) (λh2=>aF (λh3=>?_) (λh3=>?_))) (λh1=>?_);rw[ag (show(c.kind=3/\(c.mode<0\/511<c.mode))from⟨h1,.inl h2⟩)]at hE;rw[hE];exact rfl;rw[ag (show(c.kind=3/\(c.mode<0\/511<c.mode))from⟨h1,.inr h3⟩)]at hE;rw[hE];exact rfl;rw[af (show¬(c.kind=3/\(c.mode<0\/511<c.mode))fromλh=>h.2.elim h2 h3)]at hE;refine de 77 [(1,.ptr 1 0)] [(1,aH (cC c))] rfl wS oS ?_;revert hE;exact H3.out;rw[af (show¬(c.kind=3/\(c.mode<0\/511<c.mode))fromλh=>h1 h.1)]at hE;refine de 77 [(1,.ptr 1 0)] [(1,aH (cC c))] rfl wS oS ?_;revert hE;exact H3.out
    case r3=>
     intro hE;refine aF (λh=>?_) (λh=>?_);rw[ag (show 65536<c.data.length by have :(c.data.length:Int)>65536:=h;omega)]at hE;rw[hE];exact rfl;rw[af (show¬65536<c.data.length by have :¬(c.data.length:Int)>65536:=h;omega)]at hE;refine aC (λh5=>?_) (λh5=>?_);rw[ag (show c.kind=5 from h5)]at hE;refine cl (XB c.lines hz.lines).cut ?_;rw[hE];exact rfl;rw[af (show¬c.kind=5 from h5)]at hE;refine⟨none,share (T:=?T4) (λH4=>?m4) ?r4⟩;case m4=>refine aC (λh1=>?_) (λh1=>?_);refine aC (λh=>?_) (λh=>?_);have h:(((oZ c.over).length:Nat):Int)=0:=h;rw[ag (show c.kind=7/\c.over.length=0 from⟨h1,oO⟩)]at hE;rw[hE];exact rfl;have h:¬(((oZ c.over).length:Nat):Int)=0:=h;rw[af (show¬(c.kind=7/\c.over.length=0)fromλg=>h oO)]at hE;refine de 77 [(1,.ptr 1 0)] [(1,aH (cC c))] rfl wS oS ?_;revert hE;exact H4.out;rw[af (show¬(c.kind=7/\c.over.length=0)fromλh=>h1 h.1)]at hE;refine de 77 [(1,.ptr 1 0)] [(1,aH (cC c))] rfl wS oS ?_;revert hE;exact H4.out
     case r4=>
      intro hE;refine aF (λh=>?_) (λh=>?_);rw[ag (show 400<c.over.length by have :(((oZ c.over).length:Nat):Int)>400:=h;omega)]at hE;rw[hE];exact rfl;rw[af (show¬400<c.over.length by have :¬(((oZ c.over).length:Nat):Int)>400:=h;omega)]at hE;refine cl (VO c.over hz.over).cut (bF ?_);cases ha:wq c.over with
      |false=>rw[ha,ag rfl]at hE;rw[hE];exact rfl
      |true=>rw[ha,af dD]at hE;rw[hE];exact rfl
theorem eD {c:dw}(h:cG c=0):1<=c.kind/\c.kind<=7/\(c.kind=5->c.lines.length<=2000/\c.lines.all oP=true)/\(c.kind≠5->c.over.length<=400)/\bG (eS c)=true/\c.data.length<=65536:=by
 unfold cG at h;by_cases h1:c.kind<1\/7<c.kind;rw[ag h1]at h;exact absurd h dD;rw[af h1]at h;by_cases h2:bG (eS c)=false;rw[ag h2]at h;exact absurd h dD;rw[af h2]at h;by_cases h3:c.kind=1/\(c.type<1\/4<c.type);rw[ag h3]at h;exact absurd h dD;rw[af h3]at h;by_cases h4:c.kind=2/\gM c.name=false;rw[ag h4]at h;exact absurd h dD;rw[af h4]at h;by_cases h5:c.kind=3/\(c.mode<0\/511<c.mode);rw[ag h5]at h;exact absurd h dD;rw[af h5]at h;by_cases h6:65536<c.data.length;rw[ag h6]at h;exact absurd h dD;rw[af h6]at h;have he:bG (eS c)=true:=by simpa using h2
 by_cases h7:c.kind=5;rw[ag h7]at h;refine⟨oO,oO,λ_=>?_,λg=>absurd h7 g,he,oO⟩;unfold zU at h;by_cases g1:c.lines.length=0;rw[ag g1]at h;exact absurd h dD;rw[af g1]at h;by_cases g2:2000<c.lines.length;rw[ag g2]at h;exact absurd h dD;rw[af g2]at h;by_cases g3:c.lines.all oP=true;exact⟨oO,g3⟩;rw[af g3]at h;exact absurd h dD;rw[af h7]at h;by_cases h8:c.kind=7/\c.over.length=0;rw[ag h8]at h;exact absurd h dD;rw[af h8]at h;by_cases h9:400<c.over.length;rw[ag h9]at h;exact absurd h dD;exact⟨oO,oO,λg=>absurd g h7,λ_=>oO,he,oO⟩
theorem wA (c:dw)(f:Nat):(cu c f).length=if c.kind=5 then 2*c.lines.length+1 else 1:=by unfold cu;by_cases h:c.kind=5;rw[ag h,ag h];simp;omega;rw[af h,af h];rfl
theorem uD {c:dw}(h:cG c=0)(f:Nat):(cu c f).length<=4001:=by rw[wA];obtain⟨-,-,h5,-⟩:=eD h;by_cases hk:c.kind=5;have :=(h5 hk).1;rw[ag hk];omega;rw[af hk];omega
theorem Rj (c:dw)(f:Nat)(h1:1<=c.kind)(h7:c.kind<=7)(hf:f<=2^30)(hl:c.kind=5->c.lines.length<=2^30):av C 57 [.agg (cC c),.int .i64 (f:Int)] (λr=>r=.val (.sl (gI (cu c f)))):=by by_cases e5:c.kind=5;exact abh c f e5 hf (hl e5);by_cases e1:c.kind=1;exact aa5 c f e1;by_cases e2:c.kind=2;exact aa7 c f e2;by_cases e3:c.kind=3;exact aa9 c f e3;by_cases e4:c.kind=4;exact abb c f e4;by_cases e6:c.kind=6;exact abd c f e6;exact abf c f oO
def iG:List dw->List bR->List bR×Int|[],own=>(own,0)|c::l,own=>if cG c≠0 then([],cG c)else if jA c own≠0 then([],jA c own)else iG l (own++cu c own.length)
theorem iQ (c:dw)(l:List dw)(own:List bR):iG (c::l) own=if cG c≠0 then([],cG c)else if jA c own≠0 then([],jA c own)else iG l (own++cu c own.length):=rfl
def VS (x:List bR×Int):AV:=.eN [.sl (gI x.1),.int .i64 x.2]
theorem aew (l:List dw)(hl:l.length<=400)(hz:∀c,c∈l->SzC c):av C 200 [.sl (AO l)] (λr=>r=.val (VS (iG l []))):=by
 unfold AO;refine ak Tryz.func200 rfl rfl rfl (bJ 42 (λx:Nat×List bR=>[(0,.p (.sl (l.map cC))),(4,.gd 8 109 172 (x.2.map cA)),(5,.p (.int .i64 x.1))]) (λ_=>[]) (λx=>x.1<=l.length/\x.2.length<=4001*x.1/\iG l []=iG (l.drop x.1) x.2) (λx=>l.length-x.1) (0,[]) ⟨zL,zL,rfl⟩ rfl wS trivial ?_);rintro⟨k,own⟩ ⟨hk,hn,hE⟩;have hk:k<=l.length:=hk;have hn:own.length<=4001*k:=hn;have hE:iG l []=iG (l.drop k) own:=hE;refine cq (λhlt=>?_) (λhge=>?_);have hc:=hz l[k] (aQ _);rw[bY hlt]at hE;rw[iQ]at hE;refine ix hlt (cl (TN l[k] hc) (cm (λh=>?_) (λh=>?_)));rw[ag h]at hE;rw[show iG l []=([],cG l[k])from hE];exact rfl;rw[af λg=>g h]at hE;refine ix hlt (cl (aeu l[k] own oO hc.over) (cm (λh2=>?_) (λh2=>?_)));rw[ag h2]at hE;rw[show iG l []=([],jA l[k] own)from hE];exact rfl;rw[af λg=>g h2]at hE;obtain⟨g1,g2,g3,-,-,-⟩:=eD h;have hm:=uD h own.length;refine ix hlt ?_;have hml:(((own.map cA).length:Nat):Int)=(own.length:Int):=by rw[aj]
 refine cl (by rw[hml];exact Rj l[k] own.length g1 g2 oO (λg=>by have :=(g3 g).1;omega)) ?_;refine⟨fR,fR,by show((own.map cA).length+((cu l[k] own.length).map cA).length)*296<=_;rw[aj,aj];omega,(own++cu l[k] own.length).map cA,by rw[aD];rfl,?_⟩;refine nx (k+1) (aT (k+1,own++cu l[k] own.length) ⟨hlt,by show(own++cu l[k] own.length).length<=4001*(k+1);rw[aA];omega,hE⟩ mM rfl wS trivial);rw[cZ oO]at hE;rw[hE];exact rfl
def di (p:gr):List bR×Int:=if gM p.fQ=false then([],5)else if 1000<p.message.length then([],4)else if p.time<0\/1099511627776<p.time then([],2)else if nv p.deps≠0 then([],nv p.deps)else if p.changes.length=0 then([],1)else if 400<p.changes.length then([],4)else iG p.changes []
theorem Rk (p:gr)(hz:Rc p):av C 129 [.agg (cP p)] (λr=>r=.val (VS (di p))):=by
 obtain⟨E,hE⟩:∃E,di p=E:=⟨_,rfl⟩;rw[hE];have hE:E=di p:=hE.symm;unfold di at hE;have mF:(((AO p.changes).length:Nat):Int)=(p.changes.length:Int):=by simp[AO]
 refine ak Tryz.func129 rfl rfl rfl (cl (Cd p.fQ (by have :=hz.fQ;omega)) ?_);refine bF ?_;cases hn:gM p.fQ with
 |false=>rw[hn,ag rfl]at hE;rw[hE];exact rfl
 |true=>rw[hn,af dD]at hE;refine aF (λh=>?_) (λh=>?_);rw[ag (show 1000<p.message.length by have :(p.message.length:Int)>1000:=h;omega)]at hE;rw[hE];exact rfl;rw[af (show¬1000<p.message.length by have :¬(p.message.length:Int)>1000:=h;omega)]at hE;refine⟨none,aF (λh=>?_) (λh=>aF (λh2=>?_) (λh2=>?_))⟩;rw[ag (show p.time<0\/1099511627776<p.time from .inl h)]at hE;rw[hE];exact rfl;rw[ag (show p.time<0\/1099511627776<p.time from .inr h2)]at hE;rw[hE];exact rfl;rw[af (show¬(p.time<0\/1099511627776<p.time)fromλg=>g.elim h h2)]at hE;refine cl (aev p.deps hz.deps) (cm (λh=>?_) (λh=>?_));rw[ag h]at hE;rw[hE];exact rfl;rw[af λg=>g h]at hE;refine aC (λh=>?_) (λh=>?_);have h:(((AO p.changes).length:Nat):Int)=0:=h;rw[ag (show p.changes.length=0 by omega)]at hE;rw[hE];exact rfl;have h:¬(((AO p.changes).length:Nat):Int)=0:=h;rw[af (show¬p.changes.length=0 by omega)]at hE;refine aF (λh4=>?_) (λh4=>?_);have h4:(((AO p.changes).length:Nat):Int)>400:=h4;rw[ag (show 400<p.changes.length by omega)]at hE;rw[hE];exact rfl;have h4:¬(((AO p.changes).length:Nat):Int)>400:=h4;rw[af (show¬400<p.changes.length by omega)]at hE;refine cl (aew p.changes oO hz.each) ?_;rw[hE];exact rfl
theorem Jb:∀(l:List dw)(own:List bR),(iG l own).2=0->∀c,c∈l->cG c=0
 |[],_,_=>λc h=>by cases h
 |c::l,own,h=>by rw[iQ]at h;by_cases h1:cG c≠0;rw[ag h1]at h;exact absurd h h1;rw[af h1]at h;by_cases h2:jA c own≠0;rw[ag h2]at h;exact absurd h h2;rw[af h2]at h;intro x hx;rcases aL.1 hx with rfl|hx;simpa using h1;exact Jb l _ h x hx
structure SH (p:gr):Prop where
 name:gM p.fQ=true
 message:p.message.length<=1000
 time:0<=p.time/\p.time<=1099511627776
 deps:nv p.deps=0
 changes:1<=p.changes.length/\p.changes.length<=400
 each:∀c,c∈p.changes->cG c=0
 all:di p=iG p.changes []
theorem su {p:gr}(h:(di p).2=0):SH p:=by
 have hE:di p=di p:=rfl;conv at hE=>rhs;unfold di
 rw[hE]at h;by_cases h1:gM p.fQ=false;rw[ag h1]at h;exact absurd h dD;rw[af h1]at h hE;by_cases h2:1000<p.message.length;rw[ag h2]at h;exact absurd h dD;rw[af h2]at h hE;by_cases h3:p.time<0\/1099511627776<p.time;rw[ag h3]at h;exact absurd h dD;rw[af h3]at h hE;by_cases h4:nv p.deps≠0;rw[ag h4]at h;exact absurd h h4;rw[af h4]at h hE;by_cases h5:p.changes.length=0;rw[ag h5]at h;exact absurd h dD;rw[af h5]at h hE;by_cases h6:400<p.changes.length;rw[ag h6]at h;exact absurd h dD;rw[af h6]at h hE;exact⟨by simpa using h1,oO,oO,by simpa using h4,oO,Jb _ _ h,hE⟩
theorem pR {c:dw}(h:bG (eS c)=true)(h1:1<=c.kind)(h7:c.kind<=7):(c.kind=5->c.over=[])/\(c.kind≠5->c.lines=[]):=by simp only[bG,bn,decide_eq_true_eq]at h;obtain⟨-,-,-,-,-,-,-,-,hl,ho⟩:=h;refine⟨λe=>?_,λe=>?_⟩;rw[Ol c e]at ho;exact ho;by_cases e1:c.kind=1;rw[Ch c e1]at hl;exact hl;by_cases e2:c.kind=2;rw[Oi c e2]at hl;exact hl;by_cases e3:c.kind=3;rw[Oj c e3]at hl;exact hl;by_cases e4:c.kind=4;rw[IY c e4]at hl;exact hl;by_cases e6:c.kind=6;rw[Om c e6]at hl;exact hl;rw[Fl c oO]at hl;exact hl
def mg (p:gr):Bytes×Int:=if(di p).2≠0 then([],(di p).2)else if(eX (kC p)).length<=65536 then(eX (kC p),0)else([],4)
def aiY (x:Bytes×Int):AV:=.eN [.str x.1,.int .i64 x.2]
theorem LZ (p:gr)(hz:Rc p)(hx:SH p->OkX (kC p)):av C 80 [.agg (cP p)] (λr=>r=.val (aiY (mg p))):=by
 refine ak Tryz.func80 rfl rfl rfl (cl (Rk p hz) ?_);unfold mg;refine cm (λh=>?_) (λh=>?_);rw[ag h];exact rfl;have h:(di p).2=0:=h;rw[af λg=>g h];have ho:=su h;have hd:p.deps.length<=2^40:=by have :=ho.deps;unfold nv at this;by_cases g:100<p.deps.length;rw[ag g]at this;exact absurd this dD;omega
 refine⟨_,aes p (hx ho) hd (by have :=ho.changes;omega) (λc hc=>?_),λr hr=>?_⟩;obtain⟨g1,g2,g3,g4,g5,-⟩:=eD (ho.each c hc);obtain⟨k1,k2⟩:=pR g5 g1 g2;refine⟨g1,g2,?_,?_⟩;by_cases h5:c.kind=5;have :=(g3 h5).1;omega;rw[k2 h5];exact zL;by_cases h5:c.kind=5;rw[k1 h5];exact zL;have :=g4 h5;omega;subst hr;unfold aer;by_cases hl:(eX (kC p)).length<=65536;rw[ag hl,ag hl];exact rfl;rw[af hl,af hl];exact rfl
def jB (p:gr):Dg×Int:=if(mg p).2≠0 then(aZ,(mg p).2)else(QU (mg p).1,0)
def idR (x:Dg×Int):AV:=.eN [.agg (cD x.1),.int .i64 x.2]
theorem abk (p:gr):(mg p).1.length<=65536:=by unfold mg;by_cases h:(di p).2≠0;rw[ag h];exact zL;rw[af h];by_cases h2:(eX (kC p)).length<=65536;rw[ag h2];exact h2;rw[af h2];exact zL
theorem abl (p:gr)(hz:Rc p)(hx:SH p->OkX (kC p)):av C 30 [.agg (cP p)] (λr=>r=.val (idR (jB p))):=by have hlen:=abk p;refine ak Tryz.func30 rfl rfl rfl (cl (LZ p hz hx) ?_);unfold jB;refine cm (λh=>?_) (λh=>?_);rw[ag h];exact rfl;rw[af λg=>g h];exact cl (ad8 (mg p).1 oO) rfl
theorem Ma (p:gr)(hz:Rc p)(hx:SH p->OkX (kC p)):av C 126 [.agg (cP p)] (λr=>r=.val (.int .i64 (mg p).2)):=by exact ak Tryz.func126 rfl rfl rfl (cl (LZ p hz hx) rfl)
theorem oE {l:List Dg}:∀zs,zs∈l.map cD->zs.length=32:=by intro zs h;obtain⟨x,-,rfl⟩:=aJ.1 h;rfl
def pz:List Dg->Dg->List Dg|[],x=>[x]|y::l,x=>if dy y x<0 then y::pz l x else if y=x then y::l else x::y::l
theorem Jc:∀(a b:List Dg)(x:Dg),(∀y,y∈a->dy y x<0)->pz (a++b) x=a++pz b x|[],b,x,_=>rfl|y::a,b,x,h=>by rw[cr,pz,ag (h y (by simp)),Jc a b x λz hz=>h z (by simp[hz])];rfl
theorem aex {l:List Dg}{k:Nat}{x:Dg}(hk:k<l.length)(h:∀y,y∈l.take k->dy y x<0)(h2:¬dy l[k] x<0):pz l x=if l[k]=x then l else l.take k++[x]++l.drop k:=by
 have e:l=l.take k++(l[k]::l.drop (k+1)):=by rw[<-bY hk,fH]
 have e2:l.drop k=l[k]::l.drop (k+1):=bY hk;rw[e2];generalize l[k]=y at*;rw[show pz l x=pz (l.take k++(y::l.drop (k+1))) x from by rw[<-e],Jc _ _ _ h,pz,af h2];by_cases hy:y=x;rw[ag hy,ag hy];exact e.symm;rw[af hy,af hy];simp
theorem abm {l:List Dg}{x:Dg}(h:∀y,y∈l->dy y x<0):pz l x=l++[x]:=by have :=Jc l [] x h;rw[bh]at this;exact this
theorem KU {l:List Dg}{k:Nat}{x:Dg}(hk:k<l.length)(h:∀y,y∈l.take k->dy y x<0)(h2:dy l[k] x<0):∀y,y∈l.take (k+1)->dy y x<0:=by intro y hy;rw[<-gB hk,bk,aO]at hy;rcases hy with hy|rfl;exact h y hy;exact h2
theorem Rl (l:List Dg)(x:Dg)(hl:l.length<=2^20):av C 127 [.sl (pe l),.agg (cD x)] (λr=>r=.val (.sl (pe (pz l x)))):=by
 unfold pe;refine ak Tryz.func127 rfl rfl rfl (bJ 49 (λk:Nat=>[(0,.p (.sl (l.map cD))),(3,.ptr 3 0),(5,.p (.int .i64 k))]) (λ_=>[(3,aH (cD x))]) (λk=>k<=l.length/\∀y,y∈l.take k->dy y x<0) (λk=>l.length-k) 0 ⟨zL,by simp⟩ rfl wS oS ?_);rintro k ⟨hk,hn⟩;refine bZ 10 kK (cq (λhlt=>?_) (λhge=>?_));refine ix hlt (cl (nH l[k] x) (aF (λh=>?_) (λh=>?_)));exact nx (k+1) (aT (k+1) ⟨hlt,KU hlt hn h⟩ oO rfl wS oS);have hI:=aex hlt hn h;refine bZ 10 kK (cq (λhlt=>?_) (λhge=>absurd hlt hge));refine ix hlt ⟨sC,ct,pg,rfl,rfl,zN (a:=l[k]) (b:=x) ?_⟩;by_cases hx:l[k]=x;rw[ah hx];rw[ag hx]at hI;rw[hI];exact rfl;rw[ai hx];rw[af hx]at hI;rw[hI];refine⟨k,rfl,zL,by rw[aj];exact hk,oE,(l.take k).map cD,by simp[mJ],?_⟩;refine⟨(λzs h=>nomatch h),oE,by show(0+((l.take k).map cD).length)*32<=_;rw[aj,aR];omega,(l.take k).map cD,rfl,?_⟩;refine⟨oE,oE (l:=[x]),by show(((l.take k).map cD).length+1)*32<=_;rw[aj,aR];omega,(l.take k++[x]).map cD,by rw[aD];rfl,?_⟩;refine⟨k,rfl,by rw[aj];exact hk,aB _,oE,(l.drop k).map cD,by rw[ej (aB _),qv],?_⟩;refine⟨oE,oE,by show(((l.take k++[x]).map cD).length+((l.drop k).map cD).length)*32<=_;simp only[aj,aA,aR,dL,aW,bt];omega,(l.take k++[x]++l.drop k).map cD,by rw[<-aD],?_⟩;exact .inr rfl;have hkl:k=l.length:=oO
 have hI:pz l x=l.take k++[x]++l.drop k:=by rw[ej oO]at hn⊢;rw[cZ oO,bh];exact abm hn
 refine bZ 10 kK (cq (λhlt=>absurd hlt hge) (λhge=>?_));rw[hI];refine⟨k,rfl,zL,by rw[aj];exact hk,oE,(l.take k).map cD,by simp[mJ],?_⟩;refine⟨(λzs h=>nomatch h),oE,by show(0+((l.take k).map cD).length)*32<=_;rw[aj,aR];omega,(l.take k).map cD,rfl,?_⟩;refine⟨oE,oE (l:=[x]),by show(((l.take k).map cD).length+1)*32<=_;rw[aj,aR];omega,(l.take k++[x]).map cD,by rw[aD];rfl,?_⟩;refine⟨k,rfl,by rw[aj];exact hk,aB _,oE,(l.drop k).map cD,by rw[ej (aB _),qv],?_⟩;refine⟨oE,oE,by show(((l.take k++[x]).map cD).length+((l.drop k).map cD).length)*32<=_;simp only[aj,aA,aR,dL,aW,bt];omega,(l.take k++[x]++l.drop k).map cD,by rw[<-aD],?_⟩;exact .inr rfl
def aS (x:bQ)(d:Dg):bQ:=if x.p=aZ/\0<=x.n then⟨d,x.n⟩else x
theorem zY (x:bQ)(d:Dg):av C 130 [.agg (cI x),.agg (cD d)] (λr=>r=.val (.agg (cI (aS x d)))):=by refine ak Tryz.func130 rfl rfl rfl ⟨none,cl (xF x.p) ?_⟩;unfold aS;by_cases h:x.p=aZ;rw[ah h];refine aF (λh2=>?_) (λh2=>?_);rw[ag ⟨h,h2⟩];exact rfl;rw[af λg=>h2 g.2];exact rfl;rw[ai h,af λg=>h g.1];exact rfl
def st1 (d:Dg)(a:bR):bR:={a with id:=⟨d,a.id.n⟩}
def st2 (d:Dg)(a:bR):bR:=if a.kind≠7 then{a with file:=aS a.file d}else a
def Ci (d:Dg)(a:bR):bR:=if a.kind=2 then{a with parent:=aS a.parent d}else a
def Cj (d:Dg)(a:bR):bR:=if a.kind=6 then{a with fr:=aS a.fr d,to:=aS a.to d}else a
def DV (d:Dg)(l:List bQ):List bQ:=(l.map λx=>aS x d).foldl rG []
def Ks (d:Dg)(a:bR):bR:={a with over:=DV d a.over}
def cM (d:Dg)(a:bR):bR:=Ks d (Cj d (Ci d (st2 d (st1 d a))))
theorem Jd (d:Dg)(a:bR):(st2 d a).over=a.over:=by unfold st2;split<;>rfl
theorem Je (d:Dg)(a:bR):(Ci d a).over=a.over:=by unfold Ci;split<;>rfl
theorem Jf (d:Dg)(a:bR):(Cj d a).over=a.over:=by unfold Cj;split<;>rfl
theorem abn (l:List bQ)(x:bQ):(rG l x).length<=l.length+1:=by
 induction l with
 |nil=>simp[rG]
 |cons y l ih=>unfold rG;split;simp only[aW];omega;split<;>simp
theorem zZ:∀(l acc:List bQ),(l.foldl rG acc).length<=acc.length+l.length
 |[],acc=>by simp
 |x::l,acc=>by have h1:=zZ l (rG acc x);have h2:=abn acc x;simp only[fN,aW];omega
theorem Oo (d:Dg)(l:List bQ):(DV d l).length<=l.length:=by have :=zZ (l.map λx=>aS x d) [];simpa[DV]using this
theorem abo (d:Dg){l:List bQ}{k:Nat}(h:k<l.length):DV d (l.take (k+1))=rG (DV d (l.take k)) (aS l[k] d):=by unfold DV;rw[cV h,mN];rfl
def nL (p:gr):List bR×Int:=if(jB p).2≠0 then([],(jB p).2)else((di p).1.map (cM (jB p).1),0)
theorem abp (p:gr)(hz:Rc p)(hx:SH p->OkX (kC p))(hL:(di p).1.length<=2^30)(hO:∀a,a∈(di p).1->a.over.length<=2^20):av C 54 [.agg (cP p)] (λr=>r=.val (VS (nL p))):=by
 refine dY [13,15,17] Tryz.func54 rfl rfl rfl (cl (abl p hz hx).cut ?_);unfold nL;generalize jB p=i;refine cm (λh=>?_) (λh=>?_);rw[ag h];exact rfl;rw[af λg=>g h];refine cl (Rk p hz).cut ?_;generalize di p=X at hL hO⊢;obtain⟨L,e0⟩:=X;obtain⟨d,e1⟩:=i;have hL:L.length<=2^30:=hL;have hO:∀a,a∈L->a.over.length<=2^20:=hO;show _;refine bJ 94 (λk:Nat=>[(4,.ptr 4 0),(6,.p (.sl (L.map cA))),(8,.gd 27 109 172 (((L.take k).map (cM d)).map cA)),(9,.p (.int .i64 k))]) (λ_=>[(4,aH (cD d))]) (λk=>k<=L.length) (λk=>L.length-k) 0 (zL) rfl wS oS ?_;intro k hk;refine cq (l:=L) (f:=cA) (λhlt=>?_) (λhge=>?_);rotate_left;obtain rfl:k=L.length:=oO
 rw[aV];exact rfl;obtain⟨a,hq⟩:∃a,L[k]=a:=⟨_,rfl⟩;have ho:a.over.length<=2^20:=by rw[<-hq];exact hO _ (aQ _)
 have fW:(L.map cA)[((k:Nat):Int).toNat]?=some (cA a):=by rw[<-hq];exact eC rfl hlt
 have amQ:(cM d a).over=DV d a.over:=by unfold cM Ks;show DV d (Cj d (Ci d (st2 d (st1 d a)))).over=_;rw[Jf,Je,Jd];rfl
 refine⟨oO,_,fW,rfl,?_⟩;have hfull:cM d a=Ks d (Cj d (Ci d (st2 d {a with id:=⟨d,a.id.n⟩}))):=rfl;have Aa:({a with id:=⟨d,a.id.n⟩}:bR).over=a.over:=rfl;refine share (T:=?T2) (λH2=>?m2) ?r2;case m2=>refine cm (λh7=>?_) (λh7=>?_);refine cl (zY a.file d).cut ?_;have e2:st2 d {a with id:=⟨d,a.id.n⟩}={a with id:=⟨d,a.id.n⟩,file:=aS a.file d}:=ag h7;have KI:=hfull;rw[e2]at KI;refine de 94 [(4,.ptr 4 0),(6,.p (.sl (L.map cA))),(8,.gd 27 109 172 (((L.take k).map (cM d)).map cA)),(9,.p (.int .i64 (k:Int))),(10,.ptr 10 0)] [(4,aH (cD d)),(10,aH (cA ({a with id:=⟨d,a.id.n⟩,file:=aS a.file d})))] rfl wS oS ?_;have KV:({a with id:=⟨d,a.id.n⟩,file:=aS a.file d}:bR).over=a.over:=Aa;generalize hb:({a with id:=⟨d,a.id.n⟩,file:=aS a.file d}:bR)=a2 at KI KV⊢;clear hb;revert a2;exact H2.out;have e2:st2 d {a with id:=⟨d,a.id.n⟩}={a with id:=⟨d,a.id.n⟩}:=af (λg=>g h7);have KI:=hfull;rw[e2]at KI;refine de 94 [(4,.ptr 4 0),(6,.p (.sl (L.map cA))),(8,.gd 27 109 172 (((L.take k).map (cM d)).map cA)),(9,.p (.int .i64 (k:Int))),(10,.ptr 10 0)] [(4,aH (cD d)),(10,aH (cA ({a with id:=⟨d,a.id.n⟩})))] rfl wS oS ?_;have KV:({a with id:=⟨d,a.id.n⟩}:bR).over=a.over:=Aa;generalize hb:({a with id:=⟨d,a.id.n⟩}:bR)=a2 at KI KV⊢;clear hb;revert a2;exact H2.out
 case r2=>
  intro a2 hfull Aa;refine share (T:=?T3) (λH3=>?m3) ?r3;case m3=>refine aC (λh7=>?_) (λh7=>?_);refine cl (zY a2.parent d).cut ?_;have e2:Ci d a2={a2 with parent:=aS a2.parent d}:=ag h7;have KI:=hfull;rw[e2]at KI;refine de 94 [(4,.ptr 4 0),(6,.p (.sl (L.map cA))),(8,.gd 27 109 172 (((L.take k).map (cM d)).map cA)),(9,.p (.int .i64 (k:Int))),(10,.ptr 10 0)] [(4,aH (cD d)),(10,aH (cA ({a2 with parent:=aS a2.parent d})))] rfl wS oS ?_;have KV:({a2 with parent:=aS a2.parent d}:bR).over=a.over:=Aa;generalize hb:({a2 with parent:=aS a2.parent d}:bR)=a3 at KI KV⊢;clear hb;revert a3;exact H3.out;have e2:Ci d a2=a2:=af h7;have KI:=hfull;rw[e2]at KI;refine de 94 [(4,.ptr 4 0),(6,.p (.sl (L.map cA))),(8,.gd 27 109 172 (((L.take k).map (cM d)).map cA)),(9,.p (.int .i64 (k:Int))),(10,.ptr 10 0)] [(4,aH (cD d)),(10,aH (cA (a2)))] rfl wS oS ?_;have KV:(a2:bR).over=a.over:=Aa;generalize hb:(a2:bR)=a3 at KI KV⊢;clear hb;revert a3;exact H3.out
  case r3=>
   intro a3 hfull Aa;refine share (T:=?T4) (λH4=>?m4) ?r4;case m4=>refine aC (λh7=>?_) (λh7=>?_);refine bZ 9 kK ⟨_,(zY a3.fr d).cut,_,(zY a3.to d).cut,?_⟩;have e2:Cj d a3={a3 with fr:=aS a3.fr d,to:=aS a3.to d}:=ag h7;have KI:=hfull;rw[e2]at KI;refine de 94 [(4,.ptr 4 0),(6,.p (.sl (L.map cA))),(8,.gd 27 109 172 (((L.take k).map (cM d)).map cA)),(9,.p (.int .i64 (k:Int))),(10,.ptr 10 0)] [(4,aH (cD d)),(10,aH (cA ({a3 with fr:=aS a3.fr d,to:=aS a3.to d})))] rfl wS oS ?_;have KV:({a3 with fr:=aS a3.fr d,to:=aS a3.to d}:bR).over=a.over:=Aa;generalize hb:({a3 with fr:=aS a3.fr d,to:=aS a3.to d}:bR)=a4 at KI KV⊢;clear hb;revert a4;exact H4.out;have e2:Cj d a3=a3:=af h7;have KI:=hfull;rw[e2]at KI;refine de 94 [(4,.ptr 4 0),(6,.p (.sl (L.map cA))),(8,.gd 27 109 172 (((L.take k).map (cM d)).map cA)),(9,.p (.int .i64 (k:Int))),(10,.ptr 10 0)] [(4,aH (cD d)),(10,aH (cA (a3)))] rfl wS oS ?_;have KV:(a3:bR).over=a.over:=Aa;generalize hb:(a3:bR)=a4 at KI KV⊢;clear hb;revert a4;exact H4.out
   case r4=>
    intro a4 hfull Aa;refine bJ 94 (λj:Nat=>[(4,.ptr 4 0),(6,.p (.sl (L.map cA))),(8,.gd 27 109 172 (((L.take k).map (cM d)).map cA)),(9,.p (.int .i64 (k:Int))),(10,.ptr 10 0),(11,.p (.sl (oZ (DV d (a4.over.take j))))),(12,.p (.int .i64 (j:Int)))]) (λ_=>[(4,aH (cD d)),(10,aH (cA a4))]) (λj=>j<=a4.over.length) (λj=>a4.over.length-j) 0 (zL) rfl ⟨bw.refl _,bw.refl _,bw.refl _,bw.refl _,bw.refl _,bw.LL _ _ _ _,bw.refl _,trivial⟩ oS ?_;intro j hj;have hol:a4.over.length<=2^20:=by rw[Aa];exact ho
    refine cq (l:=a4.over) (f:=cI) (λeM=>?_) (λsn=>?_);have hsn:=abo d eM;have hln:(DV d (a4.over.take j)).length<=2^20:=by have :=Oo d (a4.over.take j);rw[aR]at this;omega
    refine bZ 8 kK (ix eM ⟨_,(zY a4.over[j] d).cut,_,(aef (DV d (a4.over.take j)) (aS a4.over[j] d) hln).cut,λr hr=>?_⟩);rw[<-hsn]at hr;subst hr;exact nx (j+1) (aT (j+1) eM oO rfl wS oS);obtain rfl:j=a4.over.length:=oO
    rw[aV];refine⟨fR,fR (l:=[Ks d a4]),by show((((L.take k).map (cM d)).map cA).length+1)*296<=_;rw[aj,aj,aR];omega,((L.take (k+1)).map (cM d)).map cA,by rw[cV hlt,hq,hfull,<-TM];rfl,?_⟩;exact nx (k+1) (aT (k+1) hlt oO rfl wS oS)
def xN (out:List Dg)(x:bQ):List Dg:=if x.p=aZ then out else pz out x.p
def refsOf (c:dw):List bQ:=[c.file,c.parent,c.cQ,c.dc]++c.over
def bC (p:gr):List Dg:=if(mg p).2≠0 then[]else(p.changes.flatMap refsOf).foldl xN (p.deps.foldl pz [])
theorem Rm (l:List Dg)(x:Dg):(pz l x).length<=l.length+1:=by
 induction l with
 |nil=>simp[pz]
 |cons y l ih=>unfold pz;split;simp only[aW];omega;split<;>simp
theorem qB:∀(l acc:List Dg),(l.foldl pz acc).length<=acc.length+l.length
 |[],acc=>by simp
 |x::l,acc=>by have h1:=qB l (pz acc x);have h2:=Rm acc x;simp only[fN,aW];omega
theorem abq (l:List Dg)(x:bQ):(xN l x).length<=l.length+1:=by unfold xN;split;omega;exact Rm l x.p
theorem qC:∀(l:List bQ)(acc:List Dg),(l.foldl xN acc).length<=acc.length+l.length
 |[],acc=>by simp
 |x::l,acc=>by have h1:=qC l (xN acc x);have h2:=abq acc x;simp only[fN,aW];omega
theorem yH {α β:Type}{f:β->α->β}{l:List α}{k:Nat}(h:k<l.length)(acc:β):(l.take (k+1)).foldl f acc=f ((l.take k).foldl f acc) l[k]:=by rw[<-gB h,mN];rfl
theorem Ab {α β:Type}{f:α->List β}{l:List α}{k:Nat}(h:k<l.length):(l.take (k+1)).flatMap f=(l.take k).flatMap f++f l[k]:=by rw[<-gB h,lB];simp
theorem AP {p:gr}(h:(mg p).2=0):SH p/\mg p=(eX (kC p),0):=by unfold mg at h⊢;by_cases h1:(di p).2≠0;rw[ag h1]at h;exact absurd h h1;rw[af h1]at h⊢;refine⟨su (by simpa using h1),?_⟩;by_cases h2:(eX (kC p)).length<=65536;rw[ag h2];rw[af h2]at h;exact absurd h dD
theorem wB {p:gr}(h:SH p):p.deps.length<=100:=by have :=h.deps;unfold nv at this;by_cases g:100<p.deps.length;rw[ag g]at this;exact absurd this dD;omega
theorem Jg {p:gr}(h:SH p){c:dw}(hc:c∈p.changes):c.over.length<=400:=by obtain⟨g1,g2,-,g4,g5,-⟩:=eD (h.each c hc);by_cases e:c.kind=5;rw[(pR g5 g1 g2).1 e];exact zL;exact g4 e
theorem Jh {p:gr}(h:SH p){c:dw}(hc:c∈p.changes):(refsOf c).length<=404:=by have :=Jg h hc;simp only[refsOf,aA,aW,bt];omega
theorem Ji {p:gr}(h:SH p):∀k,k<=p.changes.length->((p.changes.take k).flatMap refsOf).length<=404*k|0,_=>aB _|k+1,hk=>by rw[Ab hk,aA];have h1:=Ji h k oO;have h2:=Jh h (aQ hk);omega
theorem abr (p:gr)(hz:Rc p)(hx:SH p->OkX (kC p)):av C 53 [.agg (cP p)] (λr=>r=.val (.sl (pe (bC p)))):=by
 refine ak Tryz.func53 rfl rfl rfl (cl (Ma p hz hx) ?_);unfold bC;refine cm (λh=>?_) (λh=>?_);rw[ag h];exact .inr rfl;have h:(mg p).2=0:=h;rw[af λg=>g h];have ho:=(AP h).1;have hdl:=wB ho;have mF:=ho.changes.2;refine bJ 73 (λk:Nat=>[(1,.ptr 1 0),(3,.p (.sl (pe ((p.deps.take k).foldl pz [])))),(4,.p (.int .i64 (k:Int)))]) (λ_=>[(1,aH (cP p))]) (λk=>k<=p.deps.length) (λk=>p.deps.length-k) 0 (zL) rfl ⟨bw.refl _,bw.LL _ _ _ _,bw.refl _,trivial⟩ oS ?_;intro k hk;refine cq (l:=p.deps) (f:=cD) (λhlt=>?_) (λhge=>?_);have hb:((p.deps.take k).foldl pz []).length<=2^20:=by have :=qB (p.deps.take k) [];rw[aR]at this;simp only[bt]at this;omega
 refine ix hlt ⟨_,Rl _ p.deps[k] hb,λr hr=>?_⟩;rw[<-yH (f:=pz) hlt []]at hr;subst hr;exact nx (k+1) (aT (k+1) hlt oO rfl wS oS);obtain rfl:k=p.deps.length:=oO
 rw[aV];have hbase:=qB p.deps [];simp only[bt]at hbase;generalize p.deps.foldl pz []=base at hbase⊢;refine bJ 73 (λk:Nat=>[(1,.ptr 1 0),(3,.p (.sl (pe (((p.changes.take k).flatMap refsOf).foldl xN base)))),(5,.p (.int .i64 (k:Int)))]) (λ_=>[(1,aH (cP p))]) (λk=>k<=p.changes.length) (λk=>p.changes.length-k) 0 (zL) rfl wS oS ?_;intro k hk2;refine cq (l:=p.changes) (f:=cC) (λhlt=>?_) (λhge=>?_);rotate_left;obtain rfl:k=p.changes.length:=oO
 rw[aV];exact rfl;have hm:=aQ hlt;have Aa:=Jg ho hm;have hfl:=Ji ho k oO;have hrl:=Jh ho hm;have hout:=qC ((p.changes.take k).flatMap refsOf) base;have hnext:((p.changes.take (k+1)).flatMap refsOf).foldl xN base=(refsOf p.changes[k]).foldl xN (((p.changes.take k).flatMap refsOf).foldl xN base):=by rw[Ab hlt,mN]
 refine ix hlt ?_;generalize hc:p.changes[k]=c at*;generalize((p.changes.take k).flatMap refsOf).foldl xN base=out at*;refine⟨nj (l:=[c.file,c.parent,c.cQ,c.dc]),nj,by show(4+(c.over.map cI).length)*40<=_;rw[aj];omega,(refsOf c).map cI,rfl,?_⟩;refine bJ 73 (λj:Nat=>[(1,.ptr 1 0),(3,.p (.sl (pe (((refsOf c).take j).foldl xN out)))),(5,.p (.int .i64 (k:Int))),(7,.gd 48 54 33 ((refsOf c).map cI)),(8,.p (.int .i64 (j:Int)))]) (λ_=>[(1,aH (cP p))]) (λj=>j<=(refsOf c).length) (λj=>(refsOf c).length-j) 0 (zL) rfl wS oS ?_;intro j hj;refine cq (l:=refsOf c) (f:=cI) (λeM=>?_) (λsn=>?_);have hol:=qC ((refsOf c).take j) out;rw[aR]at hol;have hs:=yH (f:=xN) eM out;refine ix eM (cl (xF (refsOf c)[j].p) (bF ?_));by_cases hz0:(refsOf c)[j].p=aZ;rw[ah hz0];rw[xN,ag hz0]at hs;exact nx (j+1) (aT (j+1) eM oO rfl ⟨bw.refl _,bw.eq (by rw[hs];rfl),bw.refl _,bw.refl _,bw.refl _,trivial⟩ oS);rw[ai hz0];rw[xN,af hz0]at hs;refine ix eM ⟨_,Rl _ (refsOf c)[j].p oO,λr hr=>?_⟩;rw[<-hs]at hr;subst hr;exact nx (j+1) (aT (j+1) eM oO rfl wS oS);obtain rfl:j=(refsOf c).length:=oO
 rw[aV];exact nx (k+1) (aT (k+1) hlt oO rfl ⟨bw.refl _,bw.eq (by rw[hnext];rfl),bw.refl _,trivial⟩ oS)
theorem TO {c:dw}(h:cG c=0)(f:Nat):∀a,a∈cu c f->a.over.length<=400:=by
 obtain⟨g1,g2,-,g4,g5,-⟩:=eD h;have Aa:c.over.length<=400:=by by_cases e:c.kind=5;rw[(pR g5 g1 g2).1 e];exact zL;exact g4 e
 intro a ha;unfold cu at ha;by_cases e:c.kind=5;rw[ag e]at ha;rcases bk.1 ha with ha|ha;obtain⟨i,-,rfl⟩:=aJ.1 ha;exact zL;obtain⟨i,-,rfl⟩:=aJ.1 ha;exact zL;rw[af e]at ha;obtain rfl:=aO.1 ha;unfold dU;repeat' split
 all_goals first|exact Aa|exact zL
theorem Ac:∀(l:List dw)(own:List bR),(∀a,a∈own->a.over.length<=400)->(iG l own).1.length<=own.length+4001*l.length/\∀a,a∈(iG l own).1->a.over.length<=400
 |[],own,h=>⟨aB _,h⟩
 |c::l,own,h=>by
  rw[iQ];by_cases h1:cG c≠0;rw[ag h1];exact⟨zL,λa ha=>by cases ha⟩;rw[af h1];by_cases h2:jA c own≠0;rw[ag h2];exact⟨zL,λa ha=>by cases ha⟩;rw[af h2];have h1:cG c=0:=by simpa using h1
  obtain⟨g1,g2⟩:=Ac l (own++cu c own.length) λa ha=>by rcases bk.1 ha with ha|ha;exact h a ha;exact TO h1 _ a ha
  refine⟨?_,g2⟩;have :=uD h1 own.length;simp only[aA,aW]at g1⊢;omega
theorem Mb:∀(l:List dw)(own:List bR),(iG l own).2≠0->(iG l own).1=[]|[],own,h=>absurd rfl h|c::l,own,h=>by rw[iQ]at h⊢;by_cases h1:cG c≠0;rw[ag h1];rw[af h1]at h⊢;by_cases h2:jA c own≠0;rw[ag h2];rw[af h2]at h⊢;exact Mb l _ h
theorem TP {p:gr}(h:(di p).2≠0):(di p).1=[]:=by unfold di at h⊢;by_cases h1:gM p.fQ=false;rw[ag h1];rw[af h1]at h⊢;by_cases h2:1000<p.message.length;rw[ag h2];rw[af h2]at h⊢;by_cases h3:p.time<0\/1099511627776<p.time;rw[ag h3];rw[af h3]at h⊢;by_cases h4:nv p.deps≠0;rw[ag h4];rw[af h4]at h⊢;by_cases h5:p.changes.length=0;rw[ag h5];rw[af h5]at h⊢;by_cases h6:400<p.changes.length;rw[ag h6];rw[af h6]at h⊢;exact Mb _ _ h
theorem qD (p:gr):(di p).1.length<=2^22/\∀a,a∈(di p).1->a.over.length<=400:=by
 by_cases h:(di p).2=0;have ho:=su h;rw[ho.all];obtain⟨g1,g2⟩:=Ac p.changes [] λa ha=>by cases ha
 refine⟨?_,g2⟩;have :=ho.changes.2;simp only[bt]at g1;omega;have :(di p).1=[]:=TP h;rw[this];exact⟨zL,λa ha=>by cases ha⟩
structure DW (p:gr):Prop where
 sz:Rc p
 enc:SH p->OkX (kC p)
theorem XC (p:gr)(h:DW p):av C 54 [.agg (cP p)] (λr=>r=.val (VS (nL p))):=abp p h.sz h.enc (by have :=(qD p).1;omega) λa ha=>by have :=(qD p).2 a ha;omega
structure alB (s:List fD):Prop where
 len:s.length<=2^47
 each:∀x,x∈s->DW x.pat
def VT:gr:=⟨[],[],0,[],[]⟩
theorem Oq (l:List Dg)(x:Dg)(hl:l.length<=2^47):av C 63 [.sl (pe l),.agg (cD x)] (λr=>r=.val (.bool (decide (x∈l)))):=by
 unfold pe;refine ak Tryz.func63 rfl rfl rfl (bJ 18 (λk:Nat=>[(0,.p (.sl (l.map cD))),(3,.ptr 3 0),(5,.p (.int .i64 k))]) (λ_=>[(3,aH (cD x))]) (λk=>k<=l.length/\x∉l.take k) (λk=>l.length-k) 0 ⟨zL,by simp⟩ rfl wS oS ?_);rintro k ⟨hk,hn⟩;refine cq (λhlt=>?_) (λhge=>?_);refine bZ 5 kK (ix hlt ⟨sC,ct,pg,rfl,rfl,zN (a:=l[k]) (b:=x) ?_⟩);by_cases h:l[k]=x;rw[ah h];have :x∈l:=h▸aQ hlt;show dJ.val (.bool true)=_;simp[this];rw[ai h];exact nx (k+1) (aT (k+1) ⟨hlt,xI hlt hn h⟩ oO rfl wS oS);have :x∉l:=by rw[ej oO]at hn;exact hn
 show dJ.val (.bool false)=_;simp[this]
def wC:List fD->Dg->gr×Bool|[],_=>(VT,false)|x::s,d=>if x.id=d then(x.pat,true)else wC s d
def iz (s:List fD):List Dg:=s.map λx=>x.id
def mV (l some:List Dg):Bool:=some.all λx=>decide (x∈l)
theorem Mp:∀a:Bytes,cmpL a a=0|[]=>rfl|x::a=>by show(if x.toNat<x.toNat then-1 else if x.toNat<x.toNat then 1 else cmpL a a)=(0:Int);rw[af (qG _),af (qG _)];exact Mp a
theorem ahi {x y:UInt8}(h1:¬x.toNat<y.toNat)(h2:¬y.toNat<x.toNat):x=y:=UInt8.toNat_inj.1 oO
theorem Mq:∀{a b:Bytes},cmpL a b=0->a=b|[],[],_=>rfl|[],_::_,h=>absurd h (show¬(-1:Int)=0 by decide)|_::_,[],h=>absurd h (show¬(1:Int)=0 by decide)|x::a,y::b,h=>by have h:(if x.toNat<y.toNat then-1 else if y.toNat<x.toNat then 1 else cmpL a b)=(0:Int):=h;by_cases h1:x.toNat<y.toNat;rw[ag h1]at h;exact absurd h dD;rw[af h1]at h;by_cases h2:y.toNat<x.toNat;rw[ag h2]at h;exact absurd h dD;rw[af h2]at h;rw[ahi h1 h2,Mq h]
theorem Mr:∀a b:Bytes,cmpL b a=-cmpL a b|[],[]=>rfl|[],_::_=>rfl|_::_,[]=>rfl|x::a,y::b=>by show(if y.toNat<x.toNat then-1 else if x.toNat<y.toNat then 1 else cmpL b a)=-(if x.toNat<y.toNat then-1 else if y.toNat<x.toNat then 1 else cmpL a b);by_cases h1:x.toNat<y.toNat;rw[ag h1,ag h1,af oO];rfl;rw[af h1,af h1];by_cases h2:y.toNat<x.toNat;rw[ag h2,ag h2];rw[af h2,af h2];exact Mr a b
theorem Jw:∀{a b c:Bytes},cmpL a b<0->cmpL b c<0->cmpL a c<0
 |[],[],_,h,_=>absurd h dD
 |[],_::_,[],_,h=>absurd h (by show¬(1:Int)<0;decide)
 |[],_::_,_::_,_,_=>by show(-1:Int)<0;decide
 |_::_,[],_,h,_=>absurd h (by show¬(1:Int)<0;decide)
 |_::_,_::_,[],_,h=>absurd h (by show¬(1:Int)<0;decide)
 |x::a,y::b,z::c,h1,h2=>by have h1:(if x.toNat<y.toNat then-1 else if y.toNat<x.toNat then 1 else cmpL a b)<(0:Int):=h1;have h2:(if y.toNat<z.toNat then-1 else if z.toNat<y.toNat then 1 else cmpL b c)<(0:Int):=h2;show(if x.toNat<z.toNat then-1 else if z.toNat<x.toNat then 1 else cmpL a c)<(0:Int);by_cases k1:x.toNat<y.toNat;by_cases k2:y.toNat<z.toNat;rw[ag oO];decide;rw[af k2]at h2;by_cases k3:z.toNat<y.toNat;rw[ag k3]at h2;exact absurd h2 dD;rw[ag oO];decide;rw[af k1]at h1;by_cases k4:y.toNat<x.toNat;rw[ag k4]at h1;exact absurd h1 dD;rw[af k4]at h1;by_cases k2:y.toNat<z.toNat;rw[ag oO];decide;rw[af k2]at h2;by_cases k3:z.toNat<y.toNat;rw[ag k3]at h2;exact absurd h2 dD;rw[af k3]at h2;rw[af oO,af oO];exact Jw h1 h2
theorem rK (a:Dg):dy a a=0:=Mp _
theorem jo {a b:Dg}(h:dy a b=0):a=b:=Subtype.ext (Mq h)
theorem iI (a b:Dg):dy b a=-dy a b:=Mr _ _
theorem gF {a b c:Dg}(h1:dy a b<0)(h2:dy b c<0):dy a c<0:=Jw h1 h2
theorem ji (a:Dg):¬dy a a<0:=by rw[rK];decide
theorem XO (a:bQ):gb a a=0:=by unfold gb;rw[rK];simp
theorem wG {a b:bQ}(h:gb a b=0):a=b:=by unfold gb at h;by_cases h1:dy a.p b.p≠0;rw[ag h1]at h;exact absurd h h1;rw[af h1]at h;have h1:a.p=b.p:=jo (cK.1 h1);by_cases h2:a.n<b.n;rw[ag h2]at h;exact absurd h dD;rw[af h2]at h;by_cases h3:b.n<a.n;rw[ag h3]at h;exact absurd h dD;cases a;cases b;simp only[bQ.mk.injEq];exact⟨h1,by show _=_;simp only at h2 h3;omega⟩
theorem ov (a b:bQ):gb b a=-gb a b:=by unfold gb;rw[iI a.p b.p];by_cases h1:dy a.p b.p=0;rw[af (show¬(-dy a.p b.p≠0)by omega),af (show¬(dy a.p b.p≠0)by omega)];by_cases h2:a.n<b.n;rw[ag h2,ag h2,af oO];rfl;rw[af h2,af h2];by_cases h3:b.n<a.n;rw[ag h3,ag h3];rw[af h3,af h3];rfl;rw[ag (show-dy a.p b.p≠0 by omega),ag h1]
theorem pG {a b c:bQ}(h1:gb a b<0)(h2:gb b c<0):gb a c<0:=by unfold gb at*;by_cases k1:dy a.p b.p=0;rw[af (λg=>g k1)]at h1;have e1:=jo k1;rw[e1];by_cases k2:dy b.p c.p=0;rw[af (λg=>g k2)]at h2⊢;by_cases q1:a.n<b.n;by_cases q2:b.n<c.n;rw[ag oO];decide;rw[af q2]at h2;by_cases q3:c.n<b.n;rw[ag q3]at h2;exact absurd h2 dD;rw[af q3]at h2;exact absurd h2 dD;rw[af q1]at h1;by_cases q3:b.n<a.n;rw[ag q3]at h1;exact absurd h1 dD;rw[af q3]at h1;exact absurd h1 dD;rw[ag k2]at h2⊢;exact h2;rw[ag k1]at h1;by_cases k2:dy b.p c.p=0;rw[<-jo k2,ag k1];exact h1;rw[ag k2]at h2;have :=gF h1 h2;rw[ag oO];exact this
theorem pS (a:bQ):¬gb a a<0:=by rw[XO];decide
abbrev Lg (l:List Dg):Prop:=l.Pairwise λa b=>dy a b<0
abbrev Jx (l:List bQ):Prop:=l.Pairwise λa b=>gb a b<0
theorem Jy {l:List Dg}{x y:Dg}:y∈pz l x↔y=x\/y∈l:=by
 induction l with
 |nil=>simp[pz]
 |cons z l ih=>unfold pz;split;rw[aL,ih,aL];constructor;rintro(h|h|h);exact .inr (.inl h);exact .inl h;exact .inr (.inr h);rintro(h|h|h);exact .inr (.inl h);exact .inl h;exact .inr (.inr h);split;rename_i h;subst h;simp;simp[aL]
theorem RI {l:List Dg}(h:Lg l)(x:Dg):Lg (pz l x):=by
 induction l with
 |nil=>simp[pz]
 |cons z l ih=>
  obtain⟨h1,h2⟩:=dS.1 h;unfold pz;split;rename_i hz;refine dS.2 ⟨λy hy=>?_,ih h2⟩;rcases Jy.1 hy with rfl|hy;exact hz;exact h1 y hy;split;exact h;rename_i hz hne;have hx:dy x z<0:=by have :=iI z x;have :dy z x≠0:=λe=>hne (jo e);omega
  refine dS.2 ⟨λy hy=>?_,h⟩;rcases aL.1 hy with rfl|hy;exact hx;exact gF hx (h1 y hy)
theorem RJ {l:List bQ}{x y:bQ}:y∈rG l x↔y=x\/y∈l:=by
 induction l with
 |nil=>simp[rG]
 |cons z l ih=>unfold rG;split;rw[aL,ih,aL];constructor;rintro(h|h|h);exact .inr (.inl h);exact .inl h;exact .inr (.inr h);rintro(h|h|h);exact .inr (.inl h);exact .inl h;exact .inr (.inr h);split;rename_i h;subst h;simp;simp[aL]
theorem abU {l:List bQ}(h:Jx l)(x:bQ):Jx (rG l x):=by
 induction l with
 |nil=>simp[rG]
 |cons z l ih=>
  obtain⟨h1,h2⟩:=dS.1 h;unfold rG;split;rename_i hz;refine dS.2 ⟨λy hy=>?_,ih h2⟩;rcases RJ.1 hy with rfl|hy;exact hz;exact h1 y hy;split;exact h;rename_i hz hne;have hx:gb x z<0:=by have :=ov z x;have :gb z x≠0:=λe=>hne (wG e);omega
  refine dS.2 ⟨λy hy=>?_,h⟩;rcases aL.1 hy with rfl|hy;exact hx;exact pG hx (h1 y hy)
theorem XP {l acc:List Dg}{y:Dg}:y∈l.foldl pz acc↔y∈l\/y∈acc:=by
 induction l generalizing acc with
 |nil=>simp
 |cons x l ih=>rw[fN,ih,Jy,aL];constructor;rintro(h|h|h);exact .inl (.inr h);exact .inl (.inl h);exact .inr h;rintro((h|h)|h);exact .inr (.inl h);exact .inl h;exact .inr (.inr h)
theorem XQ {l acc:List Dg}(h:Lg acc):Lg (l.foldl pz acc):=by
 induction l generalizing acc with
 |nil=>exact h
 |cons x l ih=>exact ih (RI h x)
theorem Fq {l acc:List bQ}{y:bQ}:y∈l.foldl rG acc↔y∈l\/y∈acc:=by
 induction l generalizing acc with
 |nil=>simp
 |cons x l ih=>rw[fN,ih,RJ,aL];constructor;rintro(h|h|h);exact .inl (.inr h);exact .inl (.inl h);exact .inr h;rintro((h|h)|h);exact .inr (.inl h);exact .inl h;exact .inr (.inr h)
theorem Ms {l acc:List bQ}(h:Jx acc):Jx (l.foldl rG acc):=by
 induction l generalizing acc with
 |nil=>exact h
 |cons x l ih=>exact ih (abU h x)
theorem Cq {α:Type}(lt:α->α->Prop)(ir:∀a,¬lt a a)(tr:∀a b c,lt a b->lt b c->lt a c):∀{l m:List α},l.Pairwise lt->m.Pairwise lt->(∀x,x∈l↔x∈m)->l=m
 |[],[],_,_,_=>rfl
 |[],y::m,_,_,h=>by have :=(h y).2 (by simp);cases this
 |x::l,[],_,_,h=>by have :=(h x).1 (by simp);cases this
 |x::l,y::m,h1,h2,h=>by
  obtain⟨a1,a2⟩:=dS.1 h1;obtain⟨b1,b2⟩:=dS.1 h2;have e:x=y:=by rcases aL.1 ((h x).1 (by simp))with e|hx;exact e;rcases aL.1 ((h y).2 (by simp))with e|hy;exact e.symm;exact absurd (tr _ _ _ (a1 y hy) (b1 x hx)) (ir x)
  subst e;rw[Cq lt ir tr a2 b2 λz=>?_];constructor;intro hz;rcases aL.1 ((h z).1 (dG _ hz))with rfl|hm;exact absurd (a1 z hz) (ir z);exact hm;intro hz;rcases aL.1 ((h z).2 (dG _ hz))with rfl|hm;exact absurd (b1 z hz) (ir z);exact hm
theorem RK {l m:List Dg}(h1:Lg l)(h2:Lg m)(h:∀x,x∈l↔x∈m):l=m:=Cq (λa b=>dy a b<0) ji (λ_ _ _=>gF) h1 h2 h
theorem Gu {l m:List bQ}(h1:Jx l)(h2:Jx m)(h:∀x,x∈l↔x∈m):l=m:=Cq (λa b=>gb a b<0) pS (λ_ _ _=>pG) h1 h2 h
def BF (l:List Dg):List Dg:=l.mergeSort λx y=>!decide (dy y x<0)
def uF (l:List bQ):List bQ:=l.mergeSort λx y=>!decide (gb y x<0)
theorem XR {l:List Dg}{x:Dg}:x∈BF l↔x∈l:=List.mem_mergeSort
theorem XS {l:List bQ}{x:bQ}:x∈uF l↔x∈l:=List.mem_mergeSort
theorem Ua (l:List Dg):(BF l).Pairwise λa b=>¬dy b a<0:=by
 have :=List.pairwise_mergeSort (le:=λx y:Dg=>!decide (dy y x<0)) (λa b c h1 h2=>by
  simp only[ek,decide_eq_false_iff_not]at*;intro h;by_cases e:dy b a=0;rw[jo e]at h2;exact h2 h;have :=iI a b;have h3:dy a b<0:=oO
  exact h2 (gF h h3)) (λa b=>by simp only[qn,ek,decide_eq_false_iff_not];have :=iI a b;omega) l;exact this.imp λ{a b} h=>by simpa using h
theorem Ub (l:List bQ):(uF l).Pairwise λa b=>¬gb b a<0:=by
 have :=List.pairwise_mergeSort (le:=λx y:bQ=>!decide (gb y x<0)) (λa b c h1 h2=>by
  simp only[ek,decide_eq_false_iff_not]at*;intro h;by_cases e:gb b a=0;rw[wG e]at h2;exact h2 h;have :=ov a b;have h3:gb a b<0:=oO
  exact h2 (pG h h3)) (λa b=>by simp only[qn,ek,decide_eq_false_iff_not];have :=ov a b;omega) l;exact this.imp λ{a b} h=>by simpa using h
theorem XT {l:List bQ}(h:l.Nodup):Jx (uF l):=by have h1:=Ub l;have h2:(uF l).Nodup:=(List.mergeSort_perm l _).nodup_iff.2 h;refine(h1.and h2).imp λ{a b} h=>?_;have :=ov a b;have :gb a b≠0:=λe=>h.2 (wG e);omega
theorem Uc {l:List bQ}(h:l.Nodup):uF l=l.foldl rG []:=Gu (XT h) (Ms List.Pairwise.nil) λx=>by rw[XS,Fq];simp
def dB:List Dg->List Dg|[]=>[]|[x]=>[x]|x::y::l=>if x=y then dB (y::l)else x::dB (y::l)
theorem AS {x:Dg}:∀{l:List Dg},x∈dB l↔x∈l|[]=>Iff.rfl|[y]=>Iff.rfl|y::z::l=>by unfold dB;split;rename_i h;subst h;rw[AS];simp;rw[aL,AS,aL (l:=z::l)]
theorem Fs:∀{l:List Dg},l.Pairwise (λa b=>¬dy b a<0)->Lg (dB l)
 |[],_=>List.Pairwise.nil
 |[y],_=>by simp[dB]
 |y::z::l,h=>by
  obtain⟨h1,h2⟩:=dS.1 h;unfold dB;split;exact Fs h2;rename_i hne;refine dS.2 ⟨λx hx=>?_,Fs h2⟩;have hyz:dy y z<0:=by have :=h1 z (by simp);have :=iI z y;have :dy y z≠0:=λe=>hne (jo e);omega
  rcases aL.1 (AS.1 hx)with rfl|hx;exact hyz;have :=(dS.1 h2).1 x hx;by_cases e:dy x z=0;rw[jo e];exact hyz;have e2:=iI x z;exact gF hyz oO
theorem Jz {C:Ctx}{S:an}{dst:Option Nat}{g:FuncId}{o:Nat}{T:TypeId}{bP:Nat}{rest cells:List FV}{zs xs:List AV}{K:an->Prop}{R:Bool->List AV->Prop}(h1:Bc S.aK o=some cells)(h2:FV.gx rest=some xs)(h3:FV.gx cells=some zs)(hc:Zg C g T bP zs xs R)(hk:∀r ys,R r ys->Zn S dst o T bP r ys K):Pw C S dst g (.gH o T bP::rest) K:=by unfold Pw;simp only[h1,h2,h3];exact⟨R,hc,hk⟩
theorem vu {l:List Dg}:∀ys,ys∈pe l->ys.length=32/\∀y,y∈ys->y.one=true:=by intro ys h;obtain⟨x,-,rfl⟩:=aJ.1 h;exact⟨rfl,λy hy=>bD.1 (show(cD x).all AV.one=true from rfl) y hy⟩
def dx (l:List Dg):List FV:=aH (pe l).flatten
theorem dZ (l:List Dg):(dx l).length=l.length*32:=by unfold dx;rw[jf,ic (e:=32) λzs h=>(vu zs h).1];simp[pe]
theorem kg (a b:List Dg):dx (a++b)=dx a++dx b:=by unfold dx pe;rw[aD,tQ,eZ,eZ,eZ,aD]
theorem Ef (a:Dg):dx [a]=aH (cD a):=by unfold dx pe;simp
theorem rL (a:Dg)(l:List Dg):dx (a::l)=aH (cD a)++dx l:=by rw[<-tq,kg,Ef]
theorem nP (l:List Dg)(k:Nat):FV.fu k (dx l)=dx l:=js k _
theorem Ft (l:List Dg)(d:Dg)(o:Nat):FV.fu o (dx l++aH [cD d].flatten)=dx (l++[d]):=by rw[show dx l++aH [cD d].flatten=dx (l++[d])from by rw[kg,Ef];simp];exact nP _ _
theorem Mt (a b:List Dg):(dx a++dx b).take (a.length*32)=dx a:=by rw[th (by rw[dZ];exact aB _),ej (by rw[dZ];exact aB _)]
theorem Hx {l:List Dg}{k:Nat}(h:k<l.length):dx l=dx (l.take k)++(aH (cD l[k])++dx (l.drop (k+1))):=by rw[<-rL,<-bY h,<-kg,fH]
theorem RL {aK:List (Nat×List FV)}{o:Nat}{l:List Dg}(k:Nat)(h:Qv.getObj aK o=some (FV.fu k (dx l))):∃ys,Qv.getObj aK o=some ys/\ys.length=(dx l).length/\∀(i:Nat)(x y:FV),ys[i]?=some x->(dx l)[i]?=some y->bw x y:=by rw[nP]at h;exact aG h
theorem ahj (x:Dg):ahh (cD x):=by intro y hy;have :=bD.1 (show(cD x).all (λy=>match y with|.int _ _=>true|_=>false)=true from rfl) y hy;cases y<;>first|exact⟨_,_,rfl⟩|cases this
theorem alR:Sort.SWO (Proofs.ltOf dy):=⟨λx=>by unfold Proofs.ltOf;exact ai (ji x),λx y z h1 h2=>by unfold Proofs.ltOf at*;exact ah (gF (dn h1) (dn h2)),λx y z h1 h2=>by
 unfold Proofs.ltOf at*;refine ai λh=>?_;have h1:=qH h1;have h2:=qH h2;by_cases e:dy y x=0;rw[jo e]at h2;exact h2 h;have :=iI x y;have h3:dy y x<0:=oO
 exact h2 (gF h3 h)⟩
theorem JA (Cx:Ctx)(hP:Cx.P=Tryz.prog)(l:List Dg)(hl:l.length<=2^40):Zg Cx 114 33 32 (pe l).flatten [.fn (.func 75) [] []] (λr ys=>r=false/\ys=(pe (BF l)).flatten):=Mo cD 32 (λ_=>rfl) ahj Tryz.sortD239 dD Tryz.isAgg33 Tryz.sizeOf33 dy alR (λx y h1 h2=>by have :=iI x y;exact jo oO) 75 (enters_of Tryz.func75 kK rfl) XN Cx hP ⟨_,Tryz.func114,rfl,rfl⟩ 33 l oO
theorem Mu (l:List Dg):(BF l).length=l.length:=List.length_mergeSort _
def ajr (l:List bR):Prop:=∀(i j:Nat)(hi:i<j)(hj:j<l.length),gb (l[i]'oO).id l[j].id<0
section
variable (l:List bR)(hs:ajr l)(hl:l.length<=2^40)
include hs hl
end
end Qv
