/- Part 19 of the proof: its lemmas. No condition. -/
import Derived.Test.YtlbofhenpfnenaaGreatDoorX10
set_option maxRecDepth 10000
set_option maxHeartbeats 80000000
set_option linter.all false
open Go Go.Proofs Go.RowKit
namespace Qv
def di (n:Int):bf:=⟨bz,n⟩
def rQ (file:bf)(f:Nat)(ls:List Bytes)(i:Nat):bw:=⟨di ((f+i:Nat):Int),5,file,0,aT,[],0,[],ls.getD i [],aT,aT,[]⟩
def ny (file dc dy:bf)(f k i:Nat):bw:=⟨di ((f+k+i:Nat):Int),6,file,0,aT,[],0,[],[],if 0<i then di ((f+i-1:Nat):Int)else dc,if i<k then di ((f+i:Nat):Int)else dy,[]⟩
def mh (c:ew)(f:Nat):bw:=if c.kind=1 then⟨di f,1,di f,c.type,aT,[],0,[],[],aT,aT,[]⟩else if c.kind=2 then⟨di f,2,c.file,0,c.parent,c.name,0,[],[],aT,aT,c.over⟩else if c.kind=3 then⟨di f,3,c.file,0,aT,[],c.mode,[],[],aT,aT,c.over⟩else if c.kind=4 then⟨di f,4,c.file,0,aT,[],0,c.data,[],aT,aT,c.over⟩else if c.kind=6 then⟨di f,6,c.file,0,aT,[],0,[],[],c.dc,c.dy,c.over⟩else⟨di f,7,aT,0,aT,[],0,[],[],aT,aT,c.over⟩
def eu (c:ew)(f:Nat):List bw:=if c.kind=5 then(List.range c.lines.length).map (rQ c.file f c.lines)++(List.range (c.lines.length+1)).map (ny c.file c.dc c.dy f c.lines.length)else[mh c f]
theorem aa4 (c:ew)(f:Nat)(hk:c.kind=1):eu c f=[⟨di f,1,di f,c.type,aT,[],0,[],[],aT,aT,[]⟩]:=by unfold eu mh;rw[aa (show¬c.kind=5 by omega)];rw[af hk]
theorem aa5 (c:ew)(f:Nat)(hk:c.kind=1):aj C 142 [.agg (cC c),.int .i64 (f:Int)] (λr=>r=.val (.sl (fH (eu c f)))):=by
 rw[aa4 c f hk];cases c with
 |mk kind file type parent name mode data dc dy lines over=>simp only at hk⊢;subst hk;refine ag Tryz.func142 rfl rfl rfl ?_;refine aD (λ_=>?_) (λh=>absurd (show(1:Int)=1 by decide) h);exact .inr rfl
theorem aa6 (c:ew)(f:Nat)(hk:c.kind=2):eu c f=[⟨di f,2,c.file,0,c.parent,c.name,0,[],[],aT,aT,c.over⟩]:=by unfold eu mh;rw[aa (show¬c.kind=5 by omega)];rw[aa (show¬c.kind=1 by omega)];rw[af hk]
theorem aa7 (c:ew)(f:Nat)(hk:c.kind=2):aj C 142 [.agg (cC c),.int .i64 (f:Int)] (λr=>r=.val (.sl (fH (eu c f)))):=by
 rw[aa6 c f hk];cases c with
 |mk kind file type parent name mode data dc dy lines over=>simp only at hk⊢;subst hk;refine ag Tryz.func142 rfl rfl rfl ?_;refine aD (λh=>absurd (show(2:Int)=1 from h) dD) (λ_=>?_);refine aD (λ_=>?_) (λh=>absurd (show(2:Int)=2 by decide) h);exact .inr rfl
theorem aa8 (c:ew)(f:Nat)(hk:c.kind=3):eu c f=[⟨di f,3,c.file,0,aT,[],c.mode,[],[],aT,aT,c.over⟩]:=by unfold eu mh;rw[aa (show¬c.kind=5 by omega)];rw[aa (show¬c.kind=1 by omega)];rw[aa (show¬c.kind=2 by omega)];rw[af hk]
theorem aa9 (c:ew)(f:Nat)(hk:c.kind=3):aj C 142 [.agg (cC c),.int .i64 (f:Int)] (λr=>r=.val (.sl (fH (eu c f)))):=by
 rw[aa8 c f hk];cases c with
 |mk kind file type parent name mode data dc dy lines over=>simp only at hk⊢;subst hk;refine ag Tryz.func142 rfl rfl rfl ?_;refine aD (λh=>absurd (show(3:Int)=1 from h) dD) (λ_=>?_);refine aD (λh=>absurd (show(3:Int)=2 from h) dD) (λ_=>?_);refine aD (λ_=>?_) (λh=>absurd (show(3:Int)=3 by decide) h);exact .inr rfl
theorem aba (c:ew)(f:Nat)(hk:c.kind=4):eu c f=[⟨di f,4,c.file,0,aT,[],0,c.data,[],aT,aT,c.over⟩]:=by unfold eu mh;rw[aa (show¬c.kind=5 by omega)];rw[aa (show¬c.kind=1 by omega)];rw[aa (show¬c.kind=2 by omega)];rw[aa (show¬c.kind=3 by omega)];rw[af hk]
theorem abb (c:ew)(f:Nat)(hk:c.kind=4):aj C 142 [.agg (cC c),.int .i64 (f:Int)] (λr=>r=.val (.sl (fH (eu c f)))):=by
 rw[aba c f hk];cases c with
 |mk kind file type parent name mode data dc dy lines over=>simp only at hk⊢;subst hk;refine ag Tryz.func142 rfl rfl rfl ?_;refine aD (λh=>absurd (show(4:Int)=1 from h) dD) (λ_=>?_);refine aD (λh=>absurd (show(4:Int)=2 from h) dD) (λ_=>?_);refine aD (λh=>absurd (show(4:Int)=3 from h) dD) (λ_=>?_);refine aD (λ_=>?_) (λh=>absurd (show(4:Int)=4 by decide) h);exact .inr rfl
theorem abc (c:ew)(f:Nat)(hk:c.kind=6):eu c f=[⟨di f,6,c.file,0,aT,[],0,[],[],c.dc,c.dy,c.over⟩]:=by unfold eu mh;rw[aa (show¬c.kind=5 by omega)];rw[aa (show¬c.kind=1 by omega)];rw[aa (show¬c.kind=2 by omega)];rw[aa (show¬c.kind=3 by omega)];rw[aa (show¬c.kind=4 by omega)];rw[af hk]
theorem abd (c:ew)(f:Nat)(hk:c.kind=6):aj C 142 [.agg (cC c),.int .i64 (f:Int)] (λr=>r=.val (.sl (fH (eu c f)))):=by
 rw[abc c f hk];cases c with
 |mk kind file type parent name mode data dc dy lines over=>simp only at hk⊢;subst hk;refine ag Tryz.func142 rfl rfl rfl ?_;refine aD (λh=>absurd (show(6:Int)=1 from h) dD) (λ_=>?_);refine aD (λh=>absurd (show(6:Int)=2 from h) dD) (λ_=>?_);refine aD (λh=>absurd (show(6:Int)=3 from h) dD) (λ_=>?_);refine aD (λh=>absurd (show(6:Int)=4 from h) dD) (λ_=>?_);refine aD (λ_=>?_) (λh=>absurd (show(6:Int)=6 by decide) h);exact .inr rfl
theorem abe (c:ew)(f:Nat)(hk:c.kind=7):eu c f=[⟨di f,7,aT,0,aT,[],0,[],[],aT,aT,c.over⟩]:=by unfold eu mh;rw[aa (show¬c.kind=5 by omega)];rw[aa (show¬c.kind=1 by omega)];rw[aa (show¬c.kind=2 by omega)];rw[aa (show¬c.kind=3 by omega)];rw[aa (show¬c.kind=4 by omega)];rw[aa (show¬c.kind=6 by omega)]
theorem abf (c:ew)(f:Nat)(hk:c.kind=7):aj C 142 [.agg (cC c),.int .i64 (f:Int)] (λr=>r=.val (.sl (fH (eu c f)))):=by
 rw[abe c f hk];cases c with
 |mk kind file type parent name mode data dc dy lines over=>simp only at hk⊢;subst hk;refine ag Tryz.func142 rfl rfl rfl ?_;refine aD (λh=>absurd (show(7:Int)=1 from h) dD) (λ_=>?_);refine aD (λh=>absurd (show(7:Int)=2 from h) dD) (λ_=>?_);refine aD (λh=>absurd (show(7:Int)=3 from h) dD) (λ_=>?_);refine aD (λh=>absurd (show(7:Int)=4 from h) dD) (λ_=>?_);refine aD (λh=>absurd (show(7:Int)=6 from h) dD) (λ_=>?_);refine aD (λ_=>?_) (λh=>absurd (show(7:Int)=7 by decide) h);exact .inr rfl
theorem abg (c:ew)(f:Nat)(hk:c.kind=5):eu c f=(List.range c.lines.length).map (rQ c.file f c.lines)++(List.range (c.lines.length+1)).map (ny c.file c.dc c.dy f c.lines.length):=by unfold eu;rw[af hk]
theorem nA {l:List bw}:∀zs,zs∈l.map cA->zs.length=172:=by intro zs h;obtain⟨x,-,rfl⟩:=aA.1 h;exact agS x
theorem Ip {α:Type}(g:Nat->α)(k:Nat):(List.range (k+1)).map g=(List.range k).map g++[g k]:=by rw[wZ,aN];rfl
theorem TC (a:List bw)(x:bw):a.map cA++[cA x]=(a++[x]).map cA:=by rw[aN];rfl
theorem abh (c:ew)(f:Nat)(hk:c.kind=5)(hf:f<=2^30)(hl:c.lines.length<=2^30):aj C 142 [.agg (cC c),.int .i64 (f:Int)] (λr=>r=.val (.sl (fH (eu c f)))):=by
 rw[abg c f hk];cases c with
 |mk kind file type parent name mode data dc dy lines over=>
  simp only at hk hl⊢;subst hk;refine ag Tryz.func142 rfl rfl rfl ?_;refine aD (λh=>absurd (show(5:Int)=1 from h) dD) (λ_=>?_);refine aD (λh=>absurd (show(5:Int)=2 from h) dD) (λ_=>?_);refine aD (λh=>absurd (show(5:Int)=3 from h) dD) (λ_=>?_);refine aD (λh=>absurd (show(5:Int)=4 from h) dD) (λ_=>?_);refine aD (λh=>absurd (show(5:Int)=6 from h) dD) (λ_=>?_);refine aD (λh=>absurd (show(5:Int)=7 from h) dD) (λ_=>?_);obtain⟨L1,hL1⟩:∃L,(List.range lines.length).map (rQ file f lines)=L:=⟨_,rfl⟩;have aob:L1.length=lines.length:=by rw[<-hL1];simp
  refine bI 141 (λk:Nat=>[(1,.p (.int .i64 (f:Int))),(2,.ptr 2 0),(6,.eU 78 48 172 (((List.range k).map (rQ file f lines)).map cA)),(7,.p (.int .i64 (lines.length:Int))),(8,.p (.int .i64 k))]) (λ_=>[(2,aF (cC ⟨5,file,type,parent,name,mode,data,dc,dy,lines,over⟩))]) (λk=>k<=lines.length) (λk=>lines.length-k) 0 (zL) rfl ⟨aR.refl _,aR.refl _,aR.refl _,aR.eq (by show FV.p (.int .i64 ((lines.map oo).length:Int))=_;rw[ai]),aR.refl _,trivial⟩ oS ?_;intro k hk;refine az (λhlt=>?_) (λhge=>?_);have hlt:k<lines.length:=by have :(k:Int)<(lines.length:Int):=hlt;omega
  refine cG 14 kK ?_;refine nx (f+k) ?_;refine⟨_,rfl,?_⟩;refine ix hlt ?_;refine⟨_,rfl,?_⟩;refine⟨_,rfl,?_⟩;have hg:lines.getD k []=lines[k]:=by simp[List.getD,hlt]
  refine⟨nA,nA (l:=[⟨di ((f+k:Nat):Int),5,file,0,aT,[],0,[],lines[k],aT,aT,[]⟩]),by show((((List.range k).map (rQ file f lines)).map cA).length+1)*296<=_;rw[ai,ai,pT];omega,((List.range (k+1)).map (rQ file f lines)).map cA,by rw[Ip,<-TC];unfold rQ;rw[hg];rfl,?_⟩;exact nx (k+1) (aU (k+1) hlt oO rfl wS oS);obtain rfl:k=lines.length:=by have :¬(k:Int)<(lines.length:Int):=hge;omega
  rw[hL1];refine bI 141 (λk:Nat=>[(1,.p (.int .i64 (f:Int))),(2,.ptr 2 0),(6,.eU 78 48 172 ((L1++(List.range k).map (ny file dc dy f lines.length)).map cA)),(7,.p (.int .i64 (lines.length:Int))),(9,.p (.int .i64 k))]) (λ_=>[(2,aF (cC ⟨5,file,type,parent,name,mode,data,dc,dy,lines,over⟩))]) (λk=>k<=lines.length+1) (λk=>lines.length+1-k) 0 (zL) rfl ⟨aR.refl _,aR.refl _,aR.eq (by simp;rfl),aR.refl _,aR.refl _,trivial⟩ oS ?_;intro k hk;refine az (λhlt=>?_) (λhge=>?_);have hlt:k<=lines.length:=by have :(k:Int)<=(lines.length:Int):=hlt;omega
  refine nx (f+lines.length) ?_;refine nx (f+lines.length+k) ?_;have fin:∀e,e=ny file dc dy f lines.length k->(L1++(List.range k).map (ny file dc dy f lines.length)).map cA++[cA e]=(L1++(List.range (k+1)).map (ny file dc dy f lines.length)).map cA:=λe he=>by rw[Ip,he,TC,br]
  have bd:(((L1++(List.range k).map (ny file dc dy f lines.length)).map cA).length+1)*296<=140737488355328:=by rw[ai,au,ai,pT];omega
  refine az (λh0=>?_) (λh0=>?_);have h0:0<k:=by have :(k:Int)>0:=h0;omega
  refine nx (f+k) ?_;refine nx (f+k-1) ?_;refine az (λh1=>?_) (λh1=>?_);have h1:k<lines.length:=by have :(k:Int)<(lines.length:Int):=h1;omega
  refine nx (f+k) ?_;have he:(⟨di ((f+lines.length+k:Nat):Int),6,file,0,aT,[],0,[],[],di ((f+k-1:Nat):Int),di ((f+k:Nat):Int),[]⟩:bw)=ny file dc dy f lines.length k:=by unfold ny;rw[af h0,af h1]
  refine⟨nA,nA (l:=[⟨di ((f+lines.length+k:Nat):Int),6,file,0,aT,[],0,[],[],di ((f+k-1:Nat):Int),di ((f+k:Nat):Int),[]⟩]),bd,_,fin _ he,?_⟩;exact nx (k+1) (aU (k+1) (by show k+1<=_;omega) oO rfl wS oS);have h1:¬k<lines.length:=by have :¬(k:Int)<(lines.length:Int):=h1;omega
  have he:(⟨di ((f+lines.length+k:Nat):Int),6,file,0,aT,[],0,[],[],di ((f+k-1:Nat):Int),dy,[]⟩:bw)=ny file dc dy f lines.length k:=by unfold ny;rw[af h0,aa h1]
  refine⟨nA,nA (l:=[⟨di ((f+lines.length+k:Nat):Int),6,file,0,aT,[],0,[],[],di ((f+k-1:Nat):Int),dy,[]⟩]),bd,_,fin _ he,?_⟩;exact nx (k+1) (aU (k+1) (by show k+1<=_;omega) oO rfl wS oS);have h0:¬0<k:=by have :¬(k:Int)>0:=h0;omega
  refine az (λh1=>?_) (λh1=>?_);have h1:k<lines.length:=by have :(k:Int)<(lines.length:Int):=h1;omega
  refine nx (f+k) ?_;have he:(⟨di ((f+lines.length+k:Nat):Int),6,file,0,aT,[],0,[],[],dc,di ((f+k:Nat):Int),[]⟩:bw)=ny file dc dy f lines.length k:=by unfold ny;rw[aa h0,af h1]
  refine⟨nA,nA (l:=[⟨di ((f+lines.length+k:Nat):Int),6,file,0,aT,[],0,[],[],dc,di ((f+k:Nat):Int),[]⟩]),bd,_,fin _ he,?_⟩;exact nx (k+1) (aU (k+1) (by show k+1<=_;omega) oO rfl wS oS);have h1:¬k<lines.length:=by have :¬(k:Int)<(lines.length:Int):=h1;omega
  have he:(⟨di ((f+lines.length+k:Nat):Int),6,file,0,aT,[],0,[],[],dc,dy,[]⟩:bw)=ny file dc dy f lines.length k:=by unfold ny;rw[aa h0,aa h1]
  refine⟨nA,nA (l:=[⟨di ((f+lines.length+k:Nat):Int),6,file,0,aT,[],0,[],[],dc,dy,[]⟩]),bd,_,fin _ he,?_⟩;exact nx (k+1) (aU (k+1) (by show k+1<=_;omega) oO rfl wS oS);obtain rfl:k=lines.length+1:=by have :¬(k:Int)<=(lines.length:Int):=hge;omega
  exact .inr (by rw[<-hL1];rfl)
end Qv
