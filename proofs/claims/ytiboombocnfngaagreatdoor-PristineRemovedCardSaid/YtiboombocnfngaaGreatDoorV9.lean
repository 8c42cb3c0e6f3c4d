/- Part 15 of the proof: its lemmas. No condition. -/
import Derived.Test.YtiboombocnfngaaGreatDoorV8
set_option maxRecDepth 10000
set_option maxHeartbeats 80000000
set_option linter.all false
open Go Go.Proofs Go.RowKit
namespace Qv
def cw (n:Int):bV:=⟨aV,n⟩
def qH (file:bV)(f:Nat)(ls:List Bytes)(i:Nat):cq:=⟨cw ((f+i:Nat):Int),5,file,0,aS,[],0,[],ls.getD i [],aS,aS,[]⟩
def nG (file cS cZ:bV)(f k i:Nat):cq:=⟨cw ((f+k+i:Nat):Int),6,file,0,aS,[],0,[],[],if 0<i then cw ((f+i-1:Nat):Int)else cS,if i<k then cw ((f+i:Nat):Int)else cZ,[]⟩
def kG (c:dn)(f:Nat):cq:=if c.kind=1 then⟨cw f,1,cw f,c.type,aS,[],0,[],[],aS,aS,[]⟩else if c.kind=2 then⟨cw f,2,c.file,0,c.parent,c.name,0,[],[],aS,aS,c.over⟩else if c.kind=3 then⟨cw f,3,c.file,0,aS,[],c.mode,[],[],aS,aS,c.over⟩else if c.kind=4 then⟨cw f,4,c.file,0,aS,[],0,c.data,[],aS,aS,c.over⟩else if c.kind=6 then⟨cw f,6,c.file,0,aS,[],0,[],[],c.cS,c.cZ,c.over⟩else⟨cw f,7,aS,0,aS,[],0,[],[],aS,aS,c.over⟩
def dw (c:dn)(f:Nat):List cq:=if c.kind=5 then(List.range c.lines.length).map (qH c.file f c.lines)++(List.range (c.lines.length+1)).map (nG c.file c.cS c.cZ f c.lines.length)else[kG c f]
theorem aad (c:dn)(f:Nat)(hk:c.kind=1):dw c f=[⟨cw f,1,cw f,c.type,aS,[],0,[],[],aS,aS,[]⟩]:=by unfold dw kG;rw[af (show¬c.kind=5 by omega)];rw[ag hk]
theorem aae (c:dn)(f:Nat)(hk:c.kind=1):aq C 57 [.agg (cC c),.int .i64 (f:Int)] (λr=>r=.val (.sl (iu (dw c f)))):=by
 rw[aad c f hk];cases c with
 |mk kind file type parent name mode data cS cZ lines over=>simp only at hk⊢;subst hk;refine ai Tryz.func57 rfl rfl rfl ?_;refine aB (λ_=>?_) (λh=>absurd (show(1:Int)=1 by decide) h);exact .inr rfl
theorem aaf (c:dn)(f:Nat)(hk:c.kind=2):dw c f=[⟨cw f,2,c.file,0,c.parent,c.name,0,[],[],aS,aS,c.over⟩]:=by unfold dw kG;rw[af (show¬c.kind=5 by omega)];rw[af (show¬c.kind=1 by omega)];rw[ag hk]
theorem aag (c:dn)(f:Nat)(hk:c.kind=2):aq C 57 [.agg (cC c),.int .i64 (f:Int)] (λr=>r=.val (.sl (iu (dw c f)))):=by
 rw[aaf c f hk];cases c with
 |mk kind file type parent name mode data cS cZ lines over=>simp only at hk⊢;subst hk;refine ai Tryz.func57 rfl rfl rfl ?_;refine aB (λh=>absurd (show(2:Int)=1 from h) dD) (λ_=>?_);refine aB (λ_=>?_) (λh=>absurd (show(2:Int)=2 by decide) h);exact .inr rfl
theorem aah (c:dn)(f:Nat)(hk:c.kind=3):dw c f=[⟨cw f,3,c.file,0,aS,[],c.mode,[],[],aS,aS,c.over⟩]:=by unfold dw kG;rw[af (show¬c.kind=5 by omega)];rw[af (show¬c.kind=1 by omega)];rw[af (show¬c.kind=2 by omega)];rw[ag hk]
theorem aai (c:dn)(f:Nat)(hk:c.kind=3):aq C 57 [.agg (cC c),.int .i64 (f:Int)] (λr=>r=.val (.sl (iu (dw c f)))):=by
 rw[aah c f hk];cases c with
 |mk kind file type parent name mode data cS cZ lines over=>simp only at hk⊢;subst hk;refine ai Tryz.func57 rfl rfl rfl ?_;refine aB (λh=>absurd (show(3:Int)=1 from h) dD) (λ_=>?_);refine aB (λh=>absurd (show(3:Int)=2 from h) dD) (λ_=>?_);refine aB (λ_=>?_) (λh=>absurd (show(3:Int)=3 by decide) h);exact .inr rfl
theorem aaj (c:dn)(f:Nat)(hk:c.kind=4):dw c f=[⟨cw f,4,c.file,0,aS,[],0,c.data,[],aS,aS,c.over⟩]:=by unfold dw kG;rw[af (show¬c.kind=5 by omega)];rw[af (show¬c.kind=1 by omega)];rw[af (show¬c.kind=2 by omega)];rw[af (show¬c.kind=3 by omega)];rw[ag hk]
theorem aak (c:dn)(f:Nat)(hk:c.kind=4):aq C 57 [.agg (cC c),.int .i64 (f:Int)] (λr=>r=.val (.sl (iu (dw c f)))):=by
 rw[aaj c f hk];cases c with
 |mk kind file type parent name mode data cS cZ lines over=>simp only at hk⊢;subst hk;refine ai Tryz.func57 rfl rfl rfl ?_;refine aB (λh=>absurd (show(4:Int)=1 from h) dD) (λ_=>?_);refine aB (λh=>absurd (show(4:Int)=2 from h) dD) (λ_=>?_);refine aB (λh=>absurd (show(4:Int)=3 from h) dD) (λ_=>?_);refine aB (λ_=>?_) (λh=>absurd (show(4:Int)=4 by decide) h);exact .inr rfl
theorem aal (c:dn)(f:Nat)(hk:c.kind=6):dw c f=[⟨cw f,6,c.file,0,aS,[],0,[],[],c.cS,c.cZ,c.over⟩]:=by unfold dw kG;rw[af (show¬c.kind=5 by omega)];rw[af (show¬c.kind=1 by omega)];rw[af (show¬c.kind=2 by omega)];rw[af (show¬c.kind=3 by omega)];rw[af (show¬c.kind=4 by omega)];rw[ag hk]
theorem aam (c:dn)(f:Nat)(hk:c.kind=6):aq C 57 [.agg (cC c),.int .i64 (f:Int)] (λr=>r=.val (.sl (iu (dw c f)))):=by
 rw[aal c f hk];cases c with
 |mk kind file type parent name mode data cS cZ lines over=>simp only at hk⊢;subst hk;refine ai Tryz.func57 rfl rfl rfl ?_;refine aB (λh=>absurd (show(6:Int)=1 from h) dD) (λ_=>?_);refine aB (λh=>absurd (show(6:Int)=2 from h) dD) (λ_=>?_);refine aB (λh=>absurd (show(6:Int)=3 from h) dD) (λ_=>?_);refine aB (λh=>absurd (show(6:Int)=4 from h) dD) (λ_=>?_);refine aB (λ_=>?_) (λh=>absurd (show(6:Int)=6 by decide) h);exact .inr rfl
theorem aan (c:dn)(f:Nat)(hk:c.kind=7):dw c f=[⟨cw f,7,aS,0,aS,[],0,[],[],aS,aS,c.over⟩]:=by unfold dw kG;rw[af (show¬c.kind=5 by omega)];rw[af (show¬c.kind=1 by omega)];rw[af (show¬c.kind=2 by omega)];rw[af (show¬c.kind=3 by omega)];rw[af (show¬c.kind=4 by omega)];rw[af (show¬c.kind=6 by omega)]
theorem aao (c:dn)(f:Nat)(hk:c.kind=7):aq C 57 [.agg (cC c),.int .i64 (f:Int)] (λr=>r=.val (.sl (iu (dw c f)))):=by
 rw[aan c f hk];cases c with
 |mk kind file type parent name mode data cS cZ lines over=>simp only at hk⊢;subst hk;refine ai Tryz.func57 rfl rfl rfl ?_;refine aB (λh=>absurd (show(7:Int)=1 from h) dD) (λ_=>?_);refine aB (λh=>absurd (show(7:Int)=2 from h) dD) (λ_=>?_);refine aB (λh=>absurd (show(7:Int)=3 from h) dD) (λ_=>?_);refine aB (λh=>absurd (show(7:Int)=4 from h) dD) (λ_=>?_);refine aB (λh=>absurd (show(7:Int)=6 from h) dD) (λ_=>?_);refine aB (λ_=>?_) (λh=>absurd (show(7:Int)=7 by decide) h);exact .inr rfl
theorem aap (c:dn)(f:Nat)(hk:c.kind=5):dw c f=(List.range c.lines.length).map (qH c.file f c.lines)++(List.range (c.lines.length+1)).map (nG c.file c.cS c.cZ f c.lines.length):=by unfold dw;rw[ag hk]
theorem iE {l:List cq}:∀zs,zs∈l.map cA->zs.length=172:=by intro zs h;obtain⟨x,-,rfl⟩:=aC.1 h;exact af7 x
theorem ID {α:Type}(g:Nat->α)(k:Nat):(List.range (k+1)).map g=(List.range k).map g++[g k]:=by rw[wY,aD];rfl
theorem SI (a:List cq)(x:cq):a.map cA++[cA x]=(a++[x]).map cA:=by rw[aD];rfl
theorem aaq (c:dn)(f:Nat)(hk:c.kind=5)(hf:f<=2^30)(hl:c.lines.length<=2^30):aq C 57 [.agg (cC c),.int .i64 (f:Int)] (λr=>r=.val (.sl (iu (dw c f)))):=by
 rw[aap c f hk];cases c with
 |mk kind file type parent name mode data cS cZ lines over=>
  simp only at hk hl⊢;subst hk;refine ai Tryz.func57 rfl rfl rfl ?_;refine aB (λh=>absurd (show(5:Int)=1 from h) dD) (λ_=>?_);refine aB (λh=>absurd (show(5:Int)=2 from h) dD) (λ_=>?_);refine aB (λh=>absurd (show(5:Int)=3 from h) dD) (λ_=>?_);refine aB (λh=>absurd (show(5:Int)=4 from h) dD) (λ_=>?_);refine aB (λh=>absurd (show(5:Int)=6 from h) dD) (λ_=>?_);refine aB (λh=>absurd (show(5:Int)=7 from h) dD) (λ_=>?_);obtain⟨L1,hL1⟩:∃L,(List.range lines.length).map (qH file f lines)=L:=⟨_,rfl⟩;have anC:L1.length=lines.length:=by rw[<-hL1];simp
  refine bJ 141 (λk:Nat=>[(1,.p (.int .i64 (f:Int))),(2,.ptr 2 0),(6,.fM 78 109 172 (((List.range k).map (qH file f lines)).map cA)),(7,.p (.int .i64 (lines.length:Int))),(8,.p (.int .i64 k))]) (λ_=>[(2,aG (cC ⟨5,file,type,parent,name,mode,data,cS,cZ,lines,over⟩))]) (λk=>k<=lines.length) (λk=>lines.length-k) 0 (zL) rfl ⟨bh.refl _,bh.refl _,bh.refl _,bh.eq (by show FV.p (.int .i64 ((lines.map mT).length:Int))=_;rw[ah]),bh.refl _,trivial⟩ oS ?_;intro k hk;refine aF (λhlt=>?_) (λhge=>?_);have hlt:k<lines.length:=by have :(k:Int)<(lines.length:Int):=hlt;omega
  refine bW 14 kK ?_;refine nx (f+k) ?_;refine⟨_,rfl,?_⟩;refine ix hlt ?_;refine⟨_,rfl,?_⟩;refine⟨_,rfl,?_⟩;have hg:lines.getD k []=lines[k]:=by simp[List.getD,hlt]
  refine⟨iE,iE (l:=[⟨cw ((f+k:Nat):Int),5,file,0,aS,[],0,[],lines[k],aS,aS,[]⟩]),by show((((List.range k).map (qH file f lines)).map cA).length+1)*296<=_;rw[ah,ah,mw];omega,((List.range (k+1)).map (qH file f lines)).map cA,by rw[ID,<-SI];unfold qH;rw[hg];rfl,?_⟩;exact nx (k+1) (aQ (k+1) hlt oO rfl wS oS);obtain rfl:k=lines.length:=by have :¬(k:Int)<(lines.length:Int):=hge;omega
  rw[hL1];refine bJ 141 (λk:Nat=>[(1,.p (.int .i64 (f:Int))),(2,.ptr 2 0),(6,.fM 78 109 172 ((L1++(List.range k).map (nG file cS cZ f lines.length)).map cA)),(7,.p (.int .i64 (lines.length:Int))),(9,.p (.int .i64 k))]) (λ_=>[(2,aG (cC ⟨5,file,type,parent,name,mode,data,cS,cZ,lines,over⟩))]) (λk=>k<=lines.length+1) (λk=>lines.length+1-k) 0 (zL) rfl ⟨bh.refl _,bh.refl _,bh.eq (by simp;rfl),bh.refl _,bh.refl _,trivial⟩ oS ?_;intro k hk;refine aF (λhlt=>?_) (λhge=>?_);have hlt:k<=lines.length:=by have :(k:Int)<=(lines.length:Int):=hlt;omega
  refine nx (f+lines.length) ?_;refine nx (f+lines.length+k) ?_;have fin:∀e,e=nG file cS cZ f lines.length k->(L1++(List.range k).map (nG file cS cZ f lines.length)).map cA++[cA e]=(L1++(List.range (k+1)).map (nG file cS cZ f lines.length)).map cA:=λe he=>by rw[ID,he,SI,bu]
  have bd:(((L1++(List.range k).map (nG file cS cZ f lines.length)).map cA).length+1)*296<=140737488355328:=by rw[ah,ay,ah,mw];omega
  refine aF (λh0=>?_) (λh0=>?_);have h0:0<k:=by have :(k:Int)>0:=h0;omega
  refine nx (f+k) ?_;refine nx (f+k-1) ?_;refine aF (λh1=>?_) (λh1=>?_);have h1:k<lines.length:=by have :(k:Int)<(lines.length:Int):=h1;omega
  refine nx (f+k) ?_;have he:(⟨cw ((f+lines.length+k:Nat):Int),6,file,0,aS,[],0,[],[],cw ((f+k-1:Nat):Int),cw ((f+k:Nat):Int),[]⟩:cq)=nG file cS cZ f lines.length k:=by unfold nG;rw[ag h0,ag h1]
  refine⟨iE,iE (l:=[⟨cw ((f+lines.length+k:Nat):Int),6,file,0,aS,[],0,[],[],cw ((f+k-1:Nat):Int),cw ((f+k:Nat):Int),[]⟩]),bd,_,fin _ he,?_⟩;exact nx (k+1) (aQ (k+1) (by show k+1<=_;omega) oO rfl wS oS);have h1:¬k<lines.length:=by have :¬(k:Int)<(lines.length:Int):=h1;omega
  have he:(⟨cw ((f+lines.length+k:Nat):Int),6,file,0,aS,[],0,[],[],cw ((f+k-1:Nat):Int),cZ,[]⟩:cq)=nG file cS cZ f lines.length k:=by unfold nG;rw[ag h0,af h1]
  refine⟨iE,iE (l:=[⟨cw ((f+lines.length+k:Nat):Int),6,file,0,aS,[],0,[],[],cw ((f+k-1:Nat):Int),cZ,[]⟩]),bd,_,fin _ he,?_⟩;exact nx (k+1) (aQ (k+1) (by show k+1<=_;omega) oO rfl wS oS);have h0:¬0<k:=by have :¬(k:Int)>0:=h0;omega
  refine aF (λh1=>?_) (λh1=>?_);have h1:k<lines.length:=by have :(k:Int)<(lines.length:Int):=h1;omega
  refine nx (f+k) ?_;have he:(⟨cw ((f+lines.length+k:Nat):Int),6,file,0,aS,[],0,[],[],cS,cw ((f+k:Nat):Int),[]⟩:cq)=nG file cS cZ f lines.length k:=by unfold nG;rw[af h0,ag h1]
  refine⟨iE,iE (l:=[⟨cw ((f+lines.length+k:Nat):Int),6,file,0,aS,[],0,[],[],cS,cw ((f+k:Nat):Int),[]⟩]),bd,_,fin _ he,?_⟩;exact nx (k+1) (aQ (k+1) (by show k+1<=_;omega) oO rfl wS oS);have h1:¬k<lines.length:=by have :¬(k:Int)<(lines.length:Int):=h1;omega
  have he:(⟨cw ((f+lines.length+k:Nat):Int),6,file,0,aS,[],0,[],[],cS,cZ,[]⟩:cq)=nG file cS cZ f lines.length k:=by unfold nG;rw[af h0,af h1]
  refine⟨iE,iE (l:=[⟨cw ((f+lines.length+k:Nat):Int),6,file,0,aS,[],0,[],[],cS,cZ,[]⟩]),bd,_,fin _ he,?_⟩;exact nx (k+1) (aQ (k+1) (by show k+1<=_;omega) oO rfl wS oS);obtain rfl:k=lines.length+1:=by have :¬(k:Int)<=(lines.length:Int):=hge;omega
  exact .inr (by rw[<-hL1];rfl)
end Qv
