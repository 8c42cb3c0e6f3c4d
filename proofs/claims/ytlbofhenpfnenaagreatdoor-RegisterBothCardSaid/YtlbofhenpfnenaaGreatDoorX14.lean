/- Part 21 of the proof: its lemmas. No condition. -/
import Derived.Test.YtlbofhenpfnenaaGreatDoorX1
import Derived.Test.YtlbofhenpfnenaaGreatDoorX2
import Derived.Test.YtlbofhenpfnenaaGreatDoorX4
import Derived.Test.YtlbofhenpfnenaaGreatDoorX5
import Derived.Test.YtlbofhenpfnenaaGreatDoorX13
set_option maxRecDepth 10000
set_option maxHeartbeats 80000000
set_option linter.all false
open Go Go.Proofs Go.RowKit
namespace Qv
theorem Bx (p:fW):(cu p).length<=2^20:=by unfold cu;by_cases h:(mP p).2≠0;rw[af h];exact zL;rw[aa h];have ho:=(NM (by simpa using h)).1;have h1:=qg (p.changes.flatMap refsOf) (p.deps.foldl nS []);have h2:=qf p.deps [];have h3:=IA ho p.changes.length (ay _);rw[aP]at h3;have h4:=zw ho;have h5:=ho.changes.2;simp only[bk]at h2;omega
def kJ (s:List bK)(p:fW):List bK×Dg×Int:=if(mL p).2≠0 then([],bz,(mL p).2)else if(gh s (mL p).1).2=true then(if p=(gh s (mL p).1).1 then([],bz,6)else([],bz,14))else if sP (dJ s) (cu p)=false then([],bz,19)else if ux s p (mL p).1≠0 then([],bz,ux s p (mL p).1)else if 400<=s.length then([],bz,4)else(lI s ⟨(mL p).1,p⟩,(mL p).1,0)
def alm (x:List bK×Dg×Int):AV:=.eY [.sl (cU x.1),.agg (cD x.2.1),.int .i64 x.2.2]
theorem aeF (s:List bK)(p:fW)(hs:ED s)(hl:s.length<=2^20)(hp:zy p):aj C 52 [.sl (cU s),.agg (cP p)] (λr=>r=.val (alm (kJ s p))):=by
 refine ag Tryz.func52 rfl rfl rfl ?_;refine cl (TF p hp.sz hp.enc) ?_;unfold kJ;generalize mL p=X;obtain⟨d,e⟩:=X;refine cS (λh=>?_) (λh=>?_);rw[af h];exact rfl;rw[aa λg=>g h];refine cl (QU s d hs.len) ?_;have hq:=IC hs.each d;show _;generalize gh s d=Y at hq⊢;obtain⟨q,is⟩:=Y;cases is with
 |true=>rw[af rfl];refine cl (aaP p q hp.sz hq.sz) ?_;by_cases hpq:p=q;rw[av hpq,af hpq];exact rfl;rw[ak hpq,aa hpq];exact rfl
 |false=>
  rw[aa (show¬false=true by decide)];have hn:=Bx p;have hi:(dJ s).length<=2^20:=by unfold dJ;rw[ai];exact hl
  refine cG 3 kK ?_;refine⟨_,abq s oO,?_⟩;refine cl (IB p hp.sz hp.enc) ?_;refine cl (TI (dJ s) (cu p) oO oO) ?_;refine bq ?_;cases ha:sP (dJ s) (cu p)with
  |false=>rw[af rfl];exact rfl
  |true=>
   rw[aa (show¬true=false by decide)];refine cl (QV s p d hs hp.sz) ?_;refine cS (λh2=>?_) (λh2=>?_);rw[af h2];exact rfl;rw[aa λg=>g h2];have Sv:(((cU s).length:Nat):Int)=(s.length:Int):=by simp[cU]
   refine az (λh4=>?_) (λh4=>?_);have h4:(((cU s).length:Nat):Int)≥400:=h4;rw[af (show 400<=s.length by omega)];exact rfl;have h4:¬(((cU s).length:Nat):Int)≥400:=h4;rw[aa (show¬400<=s.length by omega)];refine cG 7 kK ?_;refine⟨_,rfl,?_⟩;refine⟨_,aeE s ⟨d,p⟩ hl,?_⟩;exact rfl
def IF (out:List Dg)(x:bK):Option bK->Bool|none=>!decide (x.id∈out)&&sP out (cu x.pat)|some y=>!decide (x.id∈out)&&(sP out (cu x.pat)&&decide (eZ x.id y.id<0))
def oE (out:List Dg):List bK->Option bK->Option bK|[],b=>b|x::l,b=>if IF out x b=true then oE out l (some x)else oE out l b
def oJ (s:List bK):Nat->List Dg->List Dg|0,out=>out|n+1,out=>match oE out s none with|none=>out|some x=>oJ s n (out++[x.id])
def bB (s:List bK):List Dg:=oJ s s.length []
theorem TK {s:List bK}{k:Nat}(h:k<s.length)(out:List Dg)(b:Option bK):oE out (s.drop k) b=if IF out s[k] b=true then oE out (s.drop (k+1)) (some s[k])else oE out (s.drop (k+1)) b:=by rw[bQ h];rfl
def kI:Option Nat->Int|none=>-1|some j=>(j:Int)
theorem abt (s:List bK)(hs:ED s)(hl:s.length<=2^20):aj C 70 [.sl (cU s)] (λr=>r=.val (.sl (jJ (bB s)))):=by
 unfold cU jJ;refine ag Tryz.func70 rfl rfl rfl ?_;refine bI 67 (λout:List Dg=>[(0,.p (.sl (s.map mO))),(3,.eU 6 31 32 (out.map cD))]) (λ_=>[]) (λout=>out.length<=s.length/\bB s=oJ s (s.length-out.length) out) (λout=>s.length-out.length) [] ⟨zL,rfl⟩ rfl wS trivial ?_;rintro out ⟨hout,hE⟩;have VG:(((out.map cD).length:Nat):Int)=(out.length:Int):=by rw[ai]
 have Sv:(((s.map mO).length:Nat):Int)=(s.length:Int):=by rw[ai]
 refine az (λhlt=>?_) (λhge=>?_);rotate_left;have hge:¬(((out.map cD).length:Nat):Int)<((s.map mO).length:Int):=hge;rw[show s.length-out.length=0 by omega]at hE;rw[hE];exact .inr rfl;have hlt:(((out.map cD).length:Nat):Int)<((s.map mO).length:Int):=hlt;obtain⟨n,hn⟩:∃n,s.length-out.length=n+1:=⟨s.length-out.length-1,oO⟩;rw[hn]at hE;have hE:bB s=match oE out s none with|none=>out|some x=>oJ s n (out++[x.id]):=hE;refine bI 67 (λx:Nat×Option Nat=>[(0,.p (.sl (s.map mO))),(3,.eU 6 31 32 (out.map cD)),(4,.p (.int .i64 (kI x.2))),(5,.p (.int .i64 x.1))]) (λ_=>[]) (λx=>x.1<=s.length/\(∀j,x.2=some j->j<s.length)/\oE out s none=oE out (s.drop x.1) (x.2.bind λj=>s[j]?)) (λx=>s.length-x.1) (0,none) ⟨zL,(λj h=>by cases h),rfl⟩ rfl wS trivial ?_;rintro⟨k,b⟩ ⟨hk,hb,hP⟩;have hk:k<=s.length:=hk;have hb:∀j,b=some j->j<s.length:=hb;have hP:oE out s none=oE out (s.drop k) (b.bind λj=>s[j]?):=hP;refine bY (λeH=>?_) (λvC=>?_);rw[TK eH]at hP;have w1:IntKind.i64.wrap ((k:Int)+1)=((k+1:Nat):Int):=by rw[wrap64 oO oO];omega
 have hfit:=hs.each s[k] (aL _);have stay:IF out s[k] (b.bind λj=>s[j]?)=false->k+1<=s.length/\(∀j,b=some j->j<s.length)/\oE out s none=oE out (s.drop (k+1)) (b.bind λj=>s[j]?):=λh=>⟨eH,hb,by rw[hP,h];rfl⟩;have take:IF out s[k] (b.bind λj=>s[j]?)=true->k+1<=s.length/\(∀j,some k=some j->j<s.length)/\oE out s none=oE out (s.drop (k+1)) ((some k).bind λj=>s[j]?):=λh=>⟨eH,λj hj=>by cases hj;exact eH,by rw[hP,h,af rfl];show _=oE out (s.drop (k+1)) s[k]?;rw[aq eH]⟩;have hnl:=Bx s[k].pat;refine cG 32 kK ?_;refine ix eH ?_;refine⟨_,abp out s[k].id oO,?_⟩;refine bq ?_;by_cases hm:s[k].id∈out;rw[av hm];exact⟨_,w1,aU (k+1,b) (stay (by cases b.bind (λj=>s[j]?)<;>simp[IF,hm])) (by show s.length-(k+1)<s.length-k;omega) rfl wS trivial⟩;rw[ak hm];refine ix eH ?_;refine⟨_,IB s[k].pat hfit.sz hfit.enc,?_⟩;refine⟨_,TI out (cu s[k].pat) oO oO,?_⟩;cases ha:sP out (cu s[k].pat)with
 |false=>exact⟨_,w1,aU (k+1,b) (stay (by cases b.bind (λj=>s[j]?)<;>simp[IF,ha])) (by show s.length-(k+1)<s.length-k;omega) rfl wS trivial⟩
 |true=>
  cases b with
  |none=>refine az (λ_=>?_) (λh=>absurd (show(-1:Int)<0 by decide) h);exact⟨_,w1,aU (k+1,some k) (take (by simp[IF,hm,ha])) (by show s.length-(k+1)<s.length-k;omega) rfl wS trivial⟩
  |some j=>have hj:j<s.length:=hb j rfl;have hsj:((some j).bind λj=>s[j]?)=some s[j]:=aq hj;refine az (λh=>absurd (show(j:Int)<0 from h) oO) (λ_=>?_);refine ix eH ?_;refine⟨(by show(0:Int)<=(j:Int);omega),_,cO rfl hj,rfl,?_⟩;refine cl (pz s[k].id s[j].id) ?_;refine az (λh=>?_) (λh=>?_);exact⟨_,w1,aU (k+1,some k) (take (by rw[hsj];simp[IF,hm,ha,show eZ s[k].id s[j].id<0 from h])) (by show s.length-(k+1)<s.length-k;omega) rfl wS trivial⟩;exact⟨_,w1,aU (k+1,some j) (stay (by rw[hsj];simp[IF,show¬eZ s[k].id s[j].id<0 from h])) (by show s.length-(k+1)<s.length-k;omega) rfl wS trivial⟩
 rw[dG oO]at hP;have hP:oE out s none=b.bind λj=>s[j]?:=hP;rw[hP]at hE;cases b with
 |none=>refine az (λ_=>?_) (λh=>absurd (show(-1:Int)<0 by decide) h);rw[show bB s=out from hE];exact .inr rfl
 |some j=>have hj:j<s.length:=hb j rfl;have hsj:((some j).bind λj=>s[j]?)=some s[j]:=aq hj;rw[hsj]at hE;refine az (λh=>absurd (show(j:Int)<0 from h) oO) (λ_=>?_);refine⟨(by show(0:Int)<=(j:Int);omega),_,cO rfl hj,rfl,?_⟩;refine⟨mQ,mQ (l:=[s[j].id]),by show((out.map cD).length+1)*32<=_;rw[ai];omega,(out++[s[j].id]).map cD,by rw[aN];rfl,?_⟩;refine aU (out++[s[j].id]) ⟨by rw[au];show out.length+1<=_;omega,by rw[au,show s.length-(out.length+[s[j].id].length)=n by show s.length-(out.length+1)=n;omega];exact hE⟩ (by show s.length-(out++[s[j].id]).length<_;rw[au];show s.length-(out.length+1)<_;omega) rfl wS trivial
def chW (c:ew):Nat:=1+c.lines.length+c.over.length
def vJ (l:List ew):Nat:=(l.map chW).sum
def yq (l:List bK):Nat:=(l.map λx=>vJ x.pat.changes).sum
def uM (s:List bK)(m:Nat):Bool:=(s.take (m+1)).any (λx=>iD x.pat)||(decide (m<s.length)||decide (300<yq (s.take (m+1))))
theorem XG {l:List ew}{k:Nat}(h:k<l.length):vJ (l.take (k+1))=vJ (l.take k)+chW l[k]:=by unfold vJ;rw[ct h,nR];simp
theorem NN (l:List ew)(k:Nat):vJ (l.take k)<=vJ l:=FH chW l k
theorem XH {l:List bK}{k:Nat}(h:k<l.length):yq (l.take (k+1))=yq (l.take k)+vJ l[k].pat.changes:=by unfold yq;rw[ct h,nR];simp
theorem VL {p:fW}(h:iD p=false):vJ p.changes<=1620/\p.changes.length<=20:=by
 unfold iD at h;simp only[jj,decide_eq_false_iff_not]at h;obtain⟨⟨⟨h1,-⟩,-⟩,h4⟩:=h;refine⟨?_,oO⟩;have :=zl chW 81 p.changes λc hc=>by
  have hb:Ez c=false:=by
   cases hq:Ez c with
   |false=>rfl
   |true=>rw[fS.2 ⟨c,hc,hq⟩]at h1;exact absurd h1 dD
  unfold Ez zk at hb;simp only[jj,decide_eq_false_iff_not]at hb;obtain⟨⟨g1,-⟩,g2⟩:=hb;unfold chW;omega
 have h2:p.changes.length*81<=20*81:=ec _ oO;unfold vJ;omega
theorem VM:∀(l:List bK),l.any (λx=>iD x.pat)=false->yq l<=1620*l.length|[],_=>ay _|x::l,h=>by simp only[xm,jj]at h;have h1:=(VL h.1).1;have h2:=VM l h.2;show vJ x.pat.changes+yq l<=_;simp only[aI];omega
theorem abu (s:List bK)(m:Nat)(hs:SzT s)(hm:m<=2^20):aj C 64 [.sl (cU s),.int .i64 (m:Int)] (λr=>r=.val (.bool (uM s m))):=by
 have hl:=hs.len;have Sv:(((s.map mO).length:Nat):Int)=(s.length:Int):=by rw[ai]
 unfold cU;refine ag Tryz.func64 rfl rfl rfl ?_;refine bI 70 (λk:Nat=>[(0,.p (.sl (s.map mO))),(1,.p (.int .i64 (m:Int))),(5,.p (.int .i64 (yq (s.take k):Int))),(6,.p (.int .i64 k))]) (λ_=>[]) (λk=>k<=s.length/\k<=m+1/\(s.take k).any (λx=>iD x.pat)=false) (λk=>s.length-k) 0 ⟨zL,zL,rfl⟩ rfl wS trivial ?_;rintro k ⟨hk,hkm,hn⟩;have hw:=VM _ hn;have JL:(s.take k).length<=k:=List.length_take_le _ _;refine⟨none,?_⟩;refine bY (λhlt=>az (λhle=>?_) (λhgt=>?_)) (λhge=>?_);have hle:k<=m:=by have :(k:Int)<=(m:Int):=hle;omega
 refine ix hlt ?_;refine cl (Xu s[k].pat (hs.each _ (aL _))) ?_;cases hg:iD s[k].pat with
 |true=>
  have h1:s[k]∈s.take (m+1):=by rw[List.mem_take_iff_getElem];exact⟨k,oO,rfl⟩
  have :(s.take (m+1)).any (λx=>iD x.pat)=true:=fS.2 ⟨_,h1,hg⟩;show dh.val (.bool true)=_;rw[uM,this];rfl
 |false=>
  obtain⟨g1,g2⟩:=VL hg;have hst:=XH hlt;refine bI 70 (λj:Nat=>[(0,.p (.sl (s.map mO))),(1,.p (.int .i64 (m:Int))),(5,.p (.int .i64 ((yq (s.take k)+vJ (s[k].pat.changes.take j):Nat):Int))),(6,.p (.int .i64 (k:Int))),(7,.p (.int .i64 j))]) (λ_=>[]) (λj=>j<=s[k].pat.changes.length) (λj=>s[k].pat.changes.length-j) 0 (zL) rfl wS trivial ?_;intro j hj;refine ix hlt ?_;refine bY (l:=s[k].pat.changes) (f:=cC) (λeH=>?_) (λvC=>?_);have hp:=XG eH;have YX:=NN s[k].pat.changes (j+1);have hcw:chW s[k].pat.changes[j]=1+s[k].pat.changes[j].lines.length+s[k].pat.changes[j].over.length:=rfl;refine cG 25 kK ?_;refine nx (yq (s.take k)+vJ (s[k].pat.changes.take j)+1) ?_;refine ix hlt ?_;refine ix eH ?_;refine⟨((yq (s.take k)+vJ (s[k].pat.changes.take j)+1+s[k].pat.changes[j].lines.length:Nat):Int),by rw[ai,wrap64 oO oO];omega,?_⟩;refine ix hlt ?_;refine ix eH ?_;refine⟨((yq (s.take k)+vJ (s[k].pat.changes.take (j+1)):Nat):Int),by show IntKind.i64.wrap (_+(((iS s[k].pat.changes[j].over).length:Nat):Int))=_;rw[iS,ai,wrap64 oO oO];omega,?_⟩;exact nx (j+1) (aU (j+1) eH oO rfl wS trivial);obtain rfl:j=s[k].pat.changes.length:=oO
  rw[aP,<-hst];exact nx (k+1) (aU (k+1) ⟨hlt,oO,AX hlt hn hg⟩ oO rfl wS trivial)
 have hgt:¬k<=m:=by have :¬(k:Int)<=(m:Int):=hgt;omega
 have hlen:m<s.length:=oO
 refine⟨none,?_⟩;refine az (λ_=>?_) (λh=>absurd (show(((s.map mO).length:Nat):Int)>(m:Int)by omega) h);show dh.val (.bool true)=_;simp[uM,hlen];obtain rfl:k=s.length:=oO
 have e1:s.take (m+1)=s:=cF hkm;rw[aP]at hn hw⊢;refine⟨none,?_⟩;refine az (λh=>?_) (λh=>az (λh2=>?_) (λh2=>?_));have :m<s.length:=by have :(((s.map mO).length:Nat):Int)>(m:Int):=h;omega
 show dh.val (.bool true)=_;simp[uM,this];have h2:300<yq s:=by have :(yq s:Int)>300:=h2;omega
 show dh.val (.bool true)=_;simp[uM,e1,h2];have h:¬m<s.length:=by have :¬(((s.map mO).length:Nat):Int)>(m:Int):=h;omega
 have h2:¬300<yq s:=by have :¬(yq s:Int)>300:=h2;omega
 show dh.val (.bool false)=_;simp only[uM,e1,hn,h,h2,decide_false,Bool.or_self]
def oq (s:List bK):Bool:=uM s 8
theorem XI (s:List bK)(hs:SzT s):aj C 32 [.sl (cU s)] (λr=>r=.val (.bool (oq s))):=by refine ag Tryz.func32 rfl rfl rfl ?_;refine cl (abu s 8 hs dD) ?_;exact rfl
def qQ:bK:=⟨bz,Dn⟩
def EE (s:List bK)(i:Nat):Int:=if(mL (s.getD i qQ).pat).2≠0 then(mL (s.getD i qQ).pat).2 else if(mL (s.getD i qQ).pat).1≠(s.getD i qQ).id then 13 else if 0<i/\0<=eZ (s.getD (i-1) qQ).id (mL (s.getD i qQ).pat).1 then 9 else 0
def xo (s:List bK):Int:=if 400<s.length then 4 else if ep ((List.range s.length).map (EE s))≠0 then ep ((List.range s.length).map (EE s))else if s.all (λx=>sP (dJ s) (cu x.pat))=false then 19 else if(bB s).length<s.length then 20 else ep (s.map (λx=>ux s x.pat x.id)++[])
theorem XJ (s:List bK)(hs:ED s):aj C 33 [.sl (cU s)] (λr=>r=.val (.int .i64 (xo s))):=by
 have Sv:(((s.map mO).length:Nat):Int)=(s.length:Int):=by rw[ai]
 obtain⟨E,hE⟩:∃E,xo s=E:=⟨_,rfl⟩;rw[hE];have hE:E=xo s:=hE.symm;unfold xo at hE;refine ag Tryz.func33 rfl rfl rfl ?_;refine az (λh=>?_) (λh=>?_);have h:(((s.map mO).length:Nat):Int)>400:=h;rw[af (show 400<s.length by omega)]at hE;rw[hE];exact rfl;have h:¬(((s.map mO).length:Nat):Int)>400:=h;have hl:s.length<=400:=oO
 rw[aa (show¬400<s.length by omega)]at hE;refine bI 95 (λk:Nat=>[(0,.p (.sl (s.map mO))),(3,.p (.int .i64 k))]) (λ_=>[]) (λk=>k<=s.length/\∀i,i<k->EE s i=0) (λk=>s.length-k) 0 ⟨zL,λi h=>absurd h (gu _)⟩ rfl wS trivial ?_;rintro k ⟨hk,hall⟩;refine bY (λhlt=>?_) (λhge=>?_)
 ·have hg:s.getD k qQ=s[k]:=by simp[List.getD,hlt]
  have hfit:=hs.each s[k] (aL _);have hb:EE s k=if(mL s[k].pat).2≠0 then(mL s[k].pat).2 else if(mL s[k].pat).1≠s[k].id then 13 else if 0<k/\0<=eZ (s.getD (k-1) qQ).id (mL s[k].pat).1 then 9 else 0:=by unfold EE;rw[hg]
  have bad:∀e,EE s k=e->e≠0->dh.val (.int .i64 e)=dh.val (.int .i64 E):=λe he h=>by subst he;rw[xb (EE s) s.length k hlt hall h,af h]at hE;rw[hE]
  have next:EE s k=0->k+1<=s.length/\∀i,i<k+1->EE s i=0:=λh=>⟨hlt,λi hi=>by by_cases hik:i=k;rw[hik];exact h;exact hall i oO⟩;refine ix hlt ?_;refine cl (TF s[k].pat hfit.sz hfit.enc) ?_;generalize mL s[k].pat=X at hb⊢;obtain⟨d,e⟩:=X;refine cS (λh=>?_) (λh=>?_);exact bad e (by rw[hb,af h]) h;rw[aa λg=>g h]at hb;refine cG 6 kK ?_;refine ix hlt ?_;refine⟨yw,dR,kP,rfl,rfl,?_⟩;refine QB (a:=d) (b:=s[k].id) ?_;by_cases hd:d=s[k].id;rotate_left;rw[ak hd];exact bad 13 (by rw[hb,af hd]) dD;rw[av hd];rw[aa λg=>g hd]at hb;refine cG 10 kK ?_;refine az (λh0=>?_) (λh0=>?_)
  ·have h0:0<k:=by have :(k:Int)>0:=h0;omega
   have hlt':k-1<s.length:=oO
   have hg':s.getD (k-1) qQ=s[k-1]:=by simp[List.getD,hlt']
   rw[hg']at hb;refine nx (k-1) ?_;refine ix hlt' ?_;refine cl (pz s[k-1].id d) ?_;refine az (λh2=>?_) (λh2=>?_);exact bad 9 (by rw[hb,af ⟨h0,h2⟩]) dD;rw[aa λh=>h2 h.2]at hb;exact nx (k+1) (aU (k+1) (next hb) oO rfl wS trivial)
  have h0:¬0<k:=by have :¬(k:Int)>0:=h0;omega
  rw[aa λh=>h0 h.1]at hb;exact nx (k+1) (aU (k+1) (next hb) oO rfl wS trivial)
 rw[uL (EE s) s.length λi hi=>hall i oO,aa λg=>g rfl]at hE;clear hall;refine cl (abq s oO) ?_;have hi:(dJ s).length<=400:=by unfold dJ;rw[ai];exact hl
 refine bI 95 (λk:Nat=>[(0,.p (.sl (s.map mO))),(6,.p (.sl (jJ (dJ s)))),(7,.p (.int .i64 k))]) (λ_=>[]) (λk=>k<=s.length/\(s.take k).all (λx=>sP (dJ s) (cu x.pat))=true) (λk=>s.length-k) 0 ⟨zL,rfl⟩ rfl wS trivial ?_;rintro k ⟨hk,hall⟩;refine bY (λhlt=>?_) (λhge=>?_);have hfit:=hs.each s[k] (aL _);have hn:=Bx s[k].pat;refine ix hlt ?_;refine cl (IB s[k].pat hfit.sz hfit.enc) ?_;refine cl (TI (dJ s) (cu s[k].pat) oO oO) ?_;refine bq ?_;cases hv:sP (dJ s) (cu s[k].pat)with
 |false=>rw[af (NK (f:=λx:bK=>sP (dJ s) (cu x.pat)) hlt hv)]at hE;rw[hE];exact rfl
 |true=>exact nx (k+1) (aU (k+1) ⟨hlt,rD hlt hall hv⟩ oO rfl wS trivial)
 rw[cF oO]at hall;rw[hall,aa (show¬true=false by decide)]at hE;refine cl (abt s hs oO) ?_;have VG:(((jJ (bB s)).length:Nat):Int)=((bB s).length:Int):=by simp[jJ]
 refine az (λh=>?_) (λh=>?_);have h:(((jJ (bB s)).length:Nat):Int)<((s.map mO).length:Int):=h;rw[af (show(bB s).length<s.length by omega)]at hE;rw[hE];exact rfl;have h:¬(((jJ (bB s)).length:Nat):Int)<((s.map mO).length:Int):=h;rw[aa (show¬(bB s).length<s.length by omega)]at hE;refine bI 95 (λk:Nat=>[(0,.p (.sl (s.map mO))),(8,.p (.int .i64 k))]) (λ_=>[]) (λk=>k<=s.length/\E=ep ((s.drop k).map (λx=>ux s x.pat x.id)++[])) (λk=>s.length-k) 0 ⟨zL,hE⟩ rfl wS trivial ?_;rintro k ⟨hk,hE⟩;refine bY (λhlt=>?_) (λhge=>?_);rw[oD hlt]at hE;refine cG 11 kK ?_;refine ix hlt ?_;refine ix hlt ?_;refine cl (QV s s[k].pat s[k].id hs (hs.each s[k] (aL _)).sz) ?_;refine cS (λh=>?_) (λh=>?_);rw[hE,eA h];exact rfl;rw[eW h]at hE;exact nx (k+1) (aU (k+1) ⟨hlt,hE⟩ oO rfl wS trivial);rw[dG oO]at hE;rw[hE];exact rfl
def Dr (s:List bK):Bool:=!oq s&&decide (xo s=0)
theorem aeG (s:List bK)(hz:SzT s)(hs:oq s=false->ED s):aj C 11 [.sl (cU s)] (λr=>r=.val (.bool (Dr s))):=by
 refine ag Tryz.func11 rfl rfl rfl ?_;refine⟨none,?_⟩;refine cl (XI s hz) ?_;refine bq ?_;unfold Dr;cases hg:oq s with
 |true=>exact rfl
 |false=>refine cl (XJ s (hs hg)) ?_;refine aD (λh=>?_) (λh=>?_);rw[av (show xo s=0 from h)];exact rfl;rw[ak (show¬xo s=0 from h)];exact rfl
theorem By {d:Nat}:∀{l:List Sx},(∀x,x∈l->dX x<=d)->VD l<=d|[],_=>zL|y::l,h=>by have h1:=h y (by simp);have h2:=By (l:=l) λx hx=>h x (bh _ hx);show max (dX y) (VD l)<=d;omega
theorem Bz {d:Nat}:∀{l:List Sx},(∀x,x∈l->aX x<=d)->aXs l<=d|[],_=>zL|y::l,h=>by have h1:=h y (by simp);have h2:=Bz (l:=l) λx hx=>h x (bh _ hx);show max (aX y) (aXs l)<=d;omega
theorem NO (a b:List Sx):sO (a++b)=sO a+sO b:=by rw[uv,uv,uv,aN,nR]
theorem ag5 {m:Nat}(hm:m<=2^40)(x:Sx):aX x<=m->(eX x).length<=nX x*(m+24):=by
 induction x using Sx.ind with
 |h1 s=>intro h;have h:s.length<=m:=h;have l1:=Lib.itoa_length_le (s.length:Int) oO oO;show(Lib.itoa (s.length:Int)++[58]++s).length<=1*(m+24);simp only[au,aI,bk];omega
 |h2 l ih=>
  intro h;have h:aXs l<=m:=h;have hs:∀l':List Sx,(∀x,x∈l'->(eX x).length<=nX x*(m+24))->(JN l').length<=sO l'*(m+24):=by
   intro l';induction l' with
   |nil=>intro _;exact zL
   |cons y l' ih2=>intro g;have g1:=g y (by simp);have g2:=ih2 λx hx=>g x (by simp[hx]);show(eX y++JN l').length<=(nX y+sO l')*(m+24);rw[au,bD];omega
  have g:=hs l λx hx=>ih x hx (by have :=GD hx;omega);show([40]++JN l++[41]).length<=(1+sO l)*(m+24);rw[bD];simp only[au,aI,bk];omega
theorem QW (n:Int):(QN n).length<=40:=by unfold QN;split;have :=Lib.itoa_length_le n oO oO;omega;exact zL
theorem VN (d:Dg):(dgB d).length<=40:=by unfold dgB;split;exact zL;rw[d.2];decide
theorem NP (n:Int):dX (cr n)<=3/\aX (cr n)<=65536:=⟨by show 1<=3;decide,by have :=QW n;show(QN n).length<=_;omega⟩
theorem abv (x:bf):aX (bO x)<=65536:=by have h1:=QW x.n;have h2:=VN x.p;show max (dgB x.p).length (max (QN x.n).length 0)<=_;omega
theorem NQ (x:bf):dX (bO x)<=3/\aX (bO x)<=65536:=⟨by show 1+max 1 (max 1 0)<=3;decide,abv x⟩
theorem abw (s:Bytes)(h:s.length<=65536):dX (.atom s)<=3/\aX (.atom s)<=65536:=⟨by show 1<=3;decide,h⟩
theorem aiY (l:List bf):dX (rN l)<=3/\aX (rN l)<=65536:=by
 constructor;show 1+VD (l.map bO)<=3;have :=By (d:=2) (l:=l.map bO) λx hx=>by obtain⟨y,-,rfl⟩:=aA.1 hx;show 1+max 1 (max 1 0)<=2;decide
 omega;exact Bz (l:=l.map bO) λx hx=>by obtain⟨y,-,rfl⟩:=aA.1 hx;exact abv y
theorem aiZ (l:List Bytes)(h:l.all qc=true):dX (Sy l)<=3/\aX (Sy l)<=65536:=by
 constructor;show 1+VD (l.map Sx.atom)<=3;have :=By (d:=1) (l:=l.map Sx.atom) λx hx=>by obtain⟨y,-,rfl⟩:=aA.1 hx;exact ay 1
 omega;exact Bz (l:=l.map Sx.atom) λx hx=>by obtain⟨y,hy,rfl⟩:=aA.1 hx;have :=bU.1 h y hy;simp only[qc,aY,decide_eq_true_eq]at this;show y.length<=_;omega
theorem ai0 (l:List bf):nX (rN l)=1+3*l.length:=by
 show 1+sO (l.map bO)=_;have :sO (l.map bO)=3*l.length:=by
  induction l with
  |nil=>rfl
  |cons y l ih=>show nX (bO y)+sO (l.map bO)=_;rw[ih,aI];show 3+3*l.length=_;omega
 rw[this]
theorem ai1 (l:List Bytes):nX (Sy l)=1+l.length:=by
 show 1+sO (l.map Sx.atom)=_;have :sO (l.map Sx.atom)=l.length:=by
  induction l with
  |nil=>rfl
  |cons y l ih=>show 1+sO (l.map Sx.atom)=_;rw[ih,aI];omega
 rw[this]
theorem NR {c:ew}(h:cQ c=0)(hk:c.kind=2):iy c.name=true:=by
 cases hn:iy c.name with
 |true=>rfl
 |false=>unfold cQ at h;rw[aa (show¬(c.kind<1\/7<c.kind)by omega)]at h;by_cases h2:bG (eE c)=false;rw[af h2]at h;exact absurd h dD;rw[aa h2,aa (show¬(c.kind=1/\(c.type<1\/4<c.type))by omega),af ⟨hk,hn⟩]at h;exact absurd h dD
theorem Ly {s:Bytes}(h:iy s=true):s.length<=40:=by simp only[iy,aY,decide_eq_true_eq]at h;exact h.1.2
theorem abx {c:ew}(h:cQ c=0):∀x,x∈qA c->dX x<=3/\aX x<=65536:=by obtain⟨g1,g2,g3,-,-,g6⟩:=gw h;intro x hx;unfold qA at hx;rcases aW.1 hx with hx|hx;obtain rfl:=aO.1 hx;exact NP _;rcases aW.1 hx with hx|hx;by_cases e1:c.kind=1;rw[af e1]at hx;cases hx;rw[aa e1]at hx;by_cases e7:c.kind=7;rw[af e7]at hx;cases hx;rw[aa e7]at hx;obtain rfl:=aO.1 hx;exact NQ _;rcases aW.1 hx with hx|hx;by_cases e1:c.kind=1;rw[af e1]at hx;obtain rfl:=aO.1 hx;exact NP _;rw[aa e1]at hx;by_cases e2:c.kind=2;rw[af e2]at hx;have hn:=Ly (NR h e2);simp only[aG,fQ,or_false]at hx;rcases hx with rfl|rfl;exact NQ _;exact abw _ oO;rw[aa e2]at hx;by_cases e3:c.kind=3;rw[af e3]at hx;obtain rfl:=aO.1 hx;exact NP _;rw[aa e3]at hx;by_cases e4:c.kind=4;rw[af e4]at hx;obtain rfl:=aO.1 hx;exact abw _ g6;rw[aa e4]at hx;by_cases e5:c.kind=5\/c.kind=6;rw[af e5]at hx;simp only[aG,fQ,or_false]at hx;rcases hx with rfl|rfl;exact NQ _;exact NQ _;rw[aa e5]at hx;cases hx;by_cases e5:c.kind=5;rw[af e5]at hx;obtain rfl:=aO.1 hx;exact aiZ _ (g3 e5).2;rw[aa e5]at hx;by_cases e1:c.kind=1;rw[af e1]at hx;cases hx;rw[aa e1]at hx;obtain rfl:=aO.1 hx;exact aiY _
def chN (c:ew):Nat:=12+c.lines.length+3*c.over.length
theorem ag6 (c:ew):nX (mD c)<=chN c:=by
 show 1+sO (qA c)<=_;unfold qA chN;rw[NO,NO,NO];have a1:sO [cr c.kind]=1:=rfl;have a2:sO (if c.kind=1 then[]else if c.kind=7 then[]else[bO c.file])<=3:=by split;exact zL;split;exact zL;exact ay 3
 have a3:sO (if c.kind=1 then[cr c.type]else if c.kind=2 then[bO c.parent,.atom c.name]else if c.kind=3 then[cr c.mode]else if c.kind=4 then[.atom c.data]else if c.kind=5\/c.kind=6 then[bO c.dc,bO c.dy]else[])<=6:=by
  repeat' split
  all_goals first|exact zL|exact ay 6|(show 1<=6;decide)|(show 4<=6;decide)
 have a4:sO (if c.kind=5 then[Sy c.lines]else if c.kind=1 then[]else[rN c.over])<=1+c.lines.length+3*c.over.length:=by split;show nX (Sy c.lines)+0<=_;rw[ai1];omega;split;exact zL;show nX (rN c.over)+0<=_;rw[ai0];omega
 omega
def BdP (p:fW):Prop:=(p.changes.map chN).sum<=19000
theorem ag7 {p:fW}(hb:BdP p)(h:TE p):OkX (kj p):=by
 have hd:=zw h;have hname:=Ly h.name;have aod:=h.message;have ha:aX (kj p)<=65536:=by
  refine Bz λx hx=>?_;simp only[aG,fQ,or_false]at hx;rcases hx with rfl|rfl|rfl|rfl|rfl|rfl;show q1B.length<=_;decide;show p.eV.length<=_;omega;show p.message.length<=_;omega;exact(NP _).2;exact Bz λx hx=>by obtain⟨y,-,rfl⟩:=aA.1 hx;have :=VN y;show(dgB y).length<=_;omega
  exact Bz λx hx=>by obtain⟨c,hc,rfl⟩:=aA.1 hx;exact Bz λy hy=>(abx (h.each c hc) y hy).2
 have hn:nX (kj p)<=20000:=by
  have e1:sO (p.deps.map nc)=p.deps.length:=by
   generalize p.deps=l;induction l with
   |nil=>rfl
   |cons y l ih=>show 1+sO (l.map nc)=_;rw[ih,aI];omega
  have e2:sO (p.changes.map mD)<=(p.changes.map chN).sum:=by
   generalize p.changes=l;induction l with
   |nil=>exact ay _
   |cons y l ih=>have :=ag6 y;show nX (mD y)+sO (l.map mD)<=chN y+(l.map chN).sum;omega
  show 1+(1+(1+(1+(1+((1+sO (p.deps.map nc))+((1+sO (p.changes.map mD))+0))))))<=_;unfold BdP at hb;omega
 refine⟨hn,?_,ha,?_⟩;show 1+VD _<=12;have :=By (d:=11) (l:=[.atom q1B,.atom p.eV,.atom p.message,cr p.time,.list (p.deps.map nc),.list (p.changes.map mD)]) λx hx=>by
  simp only[aG,fQ,or_false]at hx;rcases hx with rfl|rfl|rfl|rfl|rfl|rfl;show 1<=11;decide;show 1<=11;decide;show 1<=11;decide;show 1<=11;decide;show 1+VD (p.deps.map nc)<=11;have :=By (d:=1) (l:=p.deps.map nc) λx hx=>by obtain⟨y,-,rfl⟩:=aA.1 hx;exact ay 1
  omega;show 1+VD (p.changes.map mD)<=11;have :=By (d:=4) (l:=p.changes.map mD) λx hx=>by obtain⟨c,hc,rfl⟩:=aA.1 hx;show 1+VD (qA c)<=4;have :=By (d:=3) (l:=qA c) λy hy=>(abx (h.each c hc) y hy).1;omega
  omega
 omega;have :=ag5 (m:=65536) dD (kj p) ha;have h2:nX (kj p)*(65536+24)<=20000*(65536+24):=ec _ hn;omega
theorem TL {p:fW}(h:iD p=false):BdP p:=by
 unfold iD at h;simp only[jj,decide_eq_false_iff_not]at h;obtain⟨⟨⟨h1,-⟩,-⟩,h4⟩:=h;have :=zl chN 172 p.changes λc hc=>by
  have hb:Ez c=false:=by
   cases hq:Ez c with
   |false=>rfl
   |true=>rw[fS.2 ⟨c,hc,hq⟩]at h1;exact absurd h1 dD
  unfold Ez zk at hb;simp only[jj,decide_eq_false_iff_not]at hb;obtain⟨⟨g1,-⟩,g2⟩:=hb;unfold chN;omega
 have h2:p.changes.length*172<=20*172:=ec _ oO;unfold BdP;omega
theorem GF {p:fW}(hz:Sw p)(hb:BdP p):zy p:=⟨hz,ag7 hb⟩
theorem VO {s:List bK}(hz:SzT s)(h:oq s=false):ED s/\s.length<=8:=by
 unfold oq uM at h;simp only[jj,decide_eq_false_iff_not]at h;obtain⟨h1,h2,-⟩:=h;have hl:s.length<=8:=oO
 refine⟨⟨hz.len,λx hx=>GF (hz.each x hx) (TL ?_)⟩,hl⟩;rw[cF oO]at h1;cases hq:iD x.pat with
 |false=>rfl
 |true=>rw[fS.2 ⟨x,hx,hq⟩]at h1;exact absurd h1 dD
theorem QX (s:List bK)(hz:SzT s):aj C 11 [.sl (cU s)] (λr=>r=.val (.bool (Dr s))):=aeG s hz λh=>(VO hz h).1
def EF (s:List bK)(p:fW):List bK×Dg×Bool:=((kJ s p).1,(kJ s p).2.1,decide ((kJ s p).2.2=0))
def EG (x:List bK×Dg×Bool):AV:=.eY [.sl (cU x.1),.agg (cD x.2.1),.bool x.2.2]
theorem vK (s:List bK)(p:fW)(hs:ED s)(hl:s.length<=2^20)(hp:zy p):aj C 17 [.sl (cU s),.agg (cP p)] (λr=>r=.val (EG (EF s p))):=by refine ag Tryz.func17 rfl rfl rfl ?_;refine cl (aeF s p hs hl hp) ?_;unfold EF;generalize kJ s p=X;obtain⟨t,d,e⟩:=X;refine⟨.plan ⟨[2,3],[5],[],[]⟩ (.one 0 (.one 1 (.one 4 (.one 2 (.one 3 (.alt 5 (.one 6 .fin) .stop)))))) none,kK,?_⟩;refine⟨_,rfl,?_⟩;refine⟨_,rfl,?_⟩;refine⟨_,rfl,?_⟩;refine⟨_,rfl,rfl,?_⟩;refine⟨.p (.bool (decide (e=0))),⟨λt ht=>by rw[ht];rfl⟩,rfl,?_⟩;refine⟨rfl,?_⟩;refine⟨_,rfl,?_⟩;exact rfl
def oQ (file:bf)(mode:Int)(over:List bf):ew:=⟨3,file,0,aT,[],mode,[],aT,aT,[],over⟩
def dF (file:bf)(mode time:Int)(over:List bf):fW:=⟨[97,110,110],[],time,[],[oQ file mode over]⟩
theorem zA (file:bf)(mode time:Int)(over:List bf):aj C 18 [.agg (cI file),.int .i64 mode,.int .i64 time,.sl (iS over)] (λr=>r=.val (.agg (cP (dF file mode time over)))):=by refine ag Tryz.func18 rfl rfl rfl ?_;exact rfl
theorem Am (file:bf)(mode time:Int)(over:List bf)(h:over.length<=6000):zy (dF file mode time over):=by refine GF ⟨by show 3<=_;decide,zL,zL,by show 1<=_;decide,λc hc=>?_⟩ ?_;obtain rfl:=aO.1 hc;exact⟨zL,zL,⟨zL,λs hs=>by cases hs⟩,by show over.length<=_;omega⟩;show 12+0+3*over.length+0<=19000;omega
def fu (s:List bK)(ids:List Dg):List bw:=ids.flatMap λd=>(dx (gh s d).1).1
theorem XK {s:List bK}{ids:List Dg}{k:Nat}(h:k<ids.length):fu s (ids.take (k+1))=fu s (ids.take k)++(dx (gh s ids[k]).1).1:=lq h
theorem zB (s:List bK):∀ids:List Dg,(fu s ids).length<=2^22*ids.length|[]=>ay _|d::l=>by have h1:=zB s l;have h2:=ID (gh s d).1;show((dx (gh s d).1).1++fu s l).length<=_;rw[au,aI];omega
def cq (s:List bK):List bw:=fu s (dJ s)
theorem IG (d:Dg)(a:bw):(fD d a).over=OX d a.over:=by unfold fD Za;show OX d (JP d (JO d (st2 d (st1 d a)))).over=_;rw[Iv,Iu,It];rfl
theorem QY (p:fW):∀a,a∈(dx p).1->a.over.length<=400:=by unfold dx;by_cases h:(mL p).2≠0;rw[af h];intro a ha;cases ha;rw[aa h];intro a ha;obtain⟨b,hb,rfl⟩:=aA.1 ha;rw[IG];have h1:=VI (mL p).1 b.over;have h2:=(kn p).2 b hb;omega
theorem EH {s:List bK}{ids:List Dg}:∀a,a∈fu s ids->a.over.length<=400:=by intro a ha;obtain⟨d,-,hd⟩:=dH.1 ha;exact QY _ a hd
def uy:List bw->bf->bw×Bool|[],_=>(hU,false)|a::l,x=>if a.id=x then(a,true)else uy l x
def xq (x:bf)(out:List bf)(a:bw):List bf:=if x∈a.over then kX out a.id else out
def sr (l:List bw)(x:bf):List bf:=l.foldl (xq x) []
theorem Lz (x:bf):∀(l:List bw)(out:List bf),(l.foldl (xq x) out).length<=out.length+l.length
 |[],out=>ay _
 |a::l,out=>by
  have h1:=Lz x l (xq x out a);have h2:(xq x out a).length<=out.length+1:=by unfold xq;split;exact Iw _ _;omega
  simp only[eD,aI];omega
def NS (out:List bw)(a:bw):Bool:=out.any λb=>decide (b.kind=7)&&decide (a.id∈b.over)
def oR (a:bw)(out:List bw):List bw:=if NS out a=true then out else a::out
def jr (l:List bw):List bw:=l.foldr oR []
theorem EI:∀l:List bw,(jr l).length<=l.length|[]=>ay _|a::l=>by have :=EI l;show(oR a (jr l)).length<=_;unfold oR;split;simp only[aI];omega;simp only[aI];omega
theorem EJ {x:bw}:∀{l:List bw},x∈jr l->x∈l
 |[],h=>by cases h
 |a::l,h=>by have h:x∈oR a (jr l):=h;unfold oR at h;split at h;exact bh _ (EJ h);rcases aG.1 h with rfl|h;simp;exact bh _ (EJ h)
def pL (s:List bK):List bw:=jr (fu s (bB s))
theorem FN (s:List bK):∀(n:Nat)(out:List Dg),(oJ s n out).length<=out.length+n|0,out=>ay _|n+1,out=>by unfold oJ;split;omega;rename_i x _;have :=FN s n (out++[x.id]);rw[au]at this;simp only[aI,bk]at this;omega
theorem qR (s:List bK):(bB s).length<=s.length:=by have :=FN s s.length [];simpa[bB]using this
def FO (s:List bK)(a:bw):Bool:=decide ((sr (pL s) a.id).length=0)
def BA (s:List bK):List bw:=(cq s).filter (FO s)
def lu (s:List bK):List bf:=(BA s).map λa=>a.id
theorem nT {α:Type}{f:α->Bool}{l:List α}{k:Nat}(h:k<l.length):(l.take (k+1)).filter f=(l.take k).filter f++(if f l[k]=true then[l[k]]else[]):=by rw[<-eS h,ko];cases hf:f l[k]<;>simp[hf]
theorem mE {s:List bK}(hl:s.length<=400):(cq s).length<=2^22*400:=by
 have h1:=zB s (dJ s);have h2:(dJ s).length<=400:=by unfold dJ;rw[ai];exact hl
 have h3:2^22*(dJ s).length<=2^22*400:=nO _ h2;unfold cq;omega
theorem QZ {s:List bK}(hl:s.length<=400):(BA s).length<=2^22*400:=bH (dO _ _) (mE hl)
def aeH (TM:List bf)(file:bf)(kind:Int)(a:bw):Bool:=decide (a.kind=kind)&&(decide (a.file=file)&&decide (a.id∈TM))
def uN (all:List bw)(TM:List bf)(file:bf)(kind:Int):List bw:=all.filter (aeH TM file kind)
def cR (s:List bK)(file:bf)(kind:Int):List bw:=if kind≠3/\kind≠4 then[]else uN (cq s) (lu s) file kind
def zC (s:List bK)(file:bf):Int:=match cR s file 3 with|[]=>0|a::_=>a.mode
theorem fC (x:bf):aj C 151 [.agg (cI x)] (λr=>r=.val (.bool (decide (x.p=bz)))):=by refine ag Tryz.func151 rfl rfl rfl ?_;refine⟨yw,dR,kP,rfl,rfl,?_⟩;refine Ib (a:=x.p) (b:=bz) ?_;exact rfl
theorem II (l:List Sx):aj C 219 [.sl (mw l)] (λr=>r=.val (.agg (cX (.list l)))):=by refine ag Tryz.func219 rfl rfl rfl ?_;exact rfl
theorem qh (s:Bytes):aj C 220 [.str s] (λr=>r=.val (.agg (cX (.atom s)))):=by refine ag Tryz.func220 rfl rfl rfl ?_;exact rfl
def vL (l:List bw):List bf:=l.foldl (λout a=>kX out a.id) []
theorem zD:∀(l:List bw)(out:List bf),(l.foldl (λout a=>kX out a.id) out).length<=out.length+l.length|[],out=>ay _|a::l,out=>by have h1:=zD l (kX out a.id);have h2:=Iw out a.id;simp only[eD,aI];omega
theorem NT (l:List bw)(hl:l.length<=2^20):aj C 19 [.sl (fH l)] (λr=>r=.val (.sl (iS (vL l)))):=by
 unfold fH vL;refine ag Tryz.func19 rfl rfl rfl ?_;refine bI 19 (λk:Nat=>[(3,.p (.sl (iS ((l.take k).foldl (λout a=>kX out a.id) [])))),(7,.p (.sl (l.map cA))),(8,.p (.int .i64 (l.map cA).length)),(9,.p (.int .i64 k))]) (λ_=>[]) (λk=>k<=l.length) (λk=>l.length-k) 0 (zL) rfl ⟨aR.Qw _ _ _ _,aR.refl _,aR.refl _,aR.refl _,trivial⟩ trivial ?_;intro k hk;refine bY (λhlt=>?_) (λhge=>?_);have hs:=iY (f:=λ(out:List bf) (a:bw)=>kX out a.id) hlt [];have hb:=zD (l.take k) [];rw[aH]at hb;simp only[bk]at hb;refine ix hlt ?_;refine⟨_,VA _ l[k].id oO,λr hr=>?_⟩;rw[<-hs]at hr;subst hr;exact nx (k+1) (aU (k+1) hlt oO rfl wS trivial);obtain rfl:k=l.length:=oO
 rw[aP];exact rfl
abbrev uO:Extra:={opens:=[],Be:=[],full:=false}
theorem NU (w:World)(k:Nat)(os:Array Obj):RowKit.Below w.heap.size w (Sort.grow (w.drewN k) os):=⟨rfl,rfl,rfl,by simp[Sort.grow],λi hi=>by show(w.heap++os)[i]?=w.heap[i]?;rw[sF hi]⟩
theorem Ra (n:Int)(h0:-9223372036854775808<=n)(h1:n<=9223372036854775807):aj C 286 [.int .i64 n] (λr=>r=.val (.str (Lib.itoa n))):=by
 refine⟨⟨_,Tryz.func286,rfl,rfl⟩,λaZ w vs hJ hn hi hl hr=>?_⟩;match vs,hl with
  |[v0],_=>
   have h:=hr 0 v0 _ rfl rfl;obtain rfl:v0=.int .i64 n:=by cases h;rfl
   refine(Tryz.strconv_Itoa n h0 h1 w hJ.1).mono ?_;rintro e w' ⟨rfl,k,os,rfl⟩;exact⟨_,_,rfl,rfl,.str _,NU w k os⟩
theorem An (n:Int):aj C 222 [.int .i64 n] (λr=>r=.val (.agg (cX (cr n)))):=by
 have key:aj C 267 [.int .i64 n] (λr=>r=.val (.eY [.agg (cX (cr n)),.int .i64 (if-1099511627776<=n/\n<=1099511627776 then 0 else 2)])):=by refine ag Tryz.func267 rfl rfl rfl ?_;refine⟨none,?_⟩;unfold cr QN;refine az (λh=>?_) (λh=>az (λh2=>?_) (λh2=>?_));have h:n< -1099511627776:=h;rw[aa (show¬(-1099511627776<=n/\n<=1099511627776)by omega),aa (show¬(-1099511627776<=n/\n<=1099511627776)by omega)];exact rfl;have h2:n>1099511627776:=h2;rw[aa (show¬(-1099511627776<=n/\n<=1099511627776)by omega),aa (show¬(-1099511627776<=n/\n<=1099511627776)by omega)];exact rfl;have h:¬n< -1099511627776:=h;have h2:¬n>1099511627776:=h2;rw[af (show-1099511627776<=n/\n<=1099511627776 by omega),af (show-1099511627776<=n/\n<=1099511627776 by omega)];refine cl (Ra n oO oO) ?_;exact rfl
 refine ag Tryz.func222 rfl rfl rfl ?_;refine cl key ?_;exact rfl
theorem aeI (x:bw):aj C 250 [.agg (cA x)] (λr=>r=.val (.bool (decide (x.kind=1)))):=by refine ag Tryz.func250 rfl rfl rfl ?_;refine aD (λh=>?_) (λh=>?_);show dh.val (.bool true)=_;rw[av (show x.kind=1 from h)];show dh.val (.bool false)=_;rw[ak (show¬x.kind=1 from h)]
theorem aeJ (x:bw):aj C 251 [.agg (cA x)] (λr=>r=.val (.bool (decide (x.kind=1)&&(decide (x.type=2)||decide (x.type=3))))):=by refine ag Tryz.func251 rfl rfl rfl ?_;refine⟨none,?_⟩;refine aD (λh=>aD (λh2=>?_) (λh2=>aD (λh3=>?_) (λh3=>?_))) (λh=>?_);show dh.val (.bool true)=_;rw[av (show x.kind=1 from h),av (show x.type=2 from h2)];rfl;show dh.val (.bool true)=_;rw[av (show x.kind=1 from h),ak (show¬x.type=2 from h2),av (show x.type=3 from h3)];rfl;show dh.val (.bool false)=_;rw[av (show x.kind=1 from h),ak (show¬x.type=2 from h2),ak (show¬x.type=3 from h3)];rfl;show dh.val (.bool false)=_;rw[ak (show¬x.kind=1 from h)];rfl
theorem aeK (x:bw):aj C 252 [.agg (cA x)] (λr=>r=.val (.bool (decide (x.kind=1)&&decide (x.type=1)))):=by refine ag Tryz.func252 rfl rfl rfl ?_;refine⟨none,?_⟩;refine aD (λh=>aD (λh2=>?_) (λh2=>?_)) (λh=>?_);show dh.val (.bool true)=_;rw[av (show x.kind=1 from h),av (show x.type=1 from h2)];rfl;show dh.val (.bool false)=_;rw[av (show x.kind=1 from h),ak (show¬x.type=1 from h2)];rfl;show dh.val (.bool false)=_;rw[ak (show¬x.kind=1 from h)];rfl
theorem aeL (x:bw):aj C 253 [.agg (cA x)] (λr=>r=.val (.bool (decide (x.kind=1)&&decide (x.type=4)))):=by refine ag Tryz.func253 rfl rfl rfl ?_;refine⟨none,?_⟩;refine aD (λh=>aD (λh2=>?_) (λh2=>?_)) (λh=>?_);show dh.val (.bool true)=_;rw[av (show x.kind=1 from h),av (show x.type=4 from h2)];rfl;show dh.val (.bool false)=_;rw[av (show x.kind=1 from h),ak (show¬x.type=4 from h2)];rfl;show dh.val (.bool false)=_;rw[ak (show¬x.kind=1 from h)];rfl
theorem aeM (x:bw)(c:ew):aj C 254 [.agg (cA x),.imp (cC c)] (λr=>r=.val (.bool (decide (x.id=c.file)||(decide (x.kind=5)&&decide (x.file=c.file))))):=by refine ag Tryz.func254 rfl rfl rfl ?_;refine⟨none,?_⟩;refine rB ?_;refine jK (a:=x.id) (b:=c.file) ?_;by_cases h:x.id=c.file;rw[av h];exact rfl;rw[ak h];refine aD (λh2=>?_) (λh2=>?_);refine rB ?_;refine jK (a:=x.file) (b:=c.file) ?_;show dh.val _=_;rw[av (show x.kind=5 from h2)];rfl;show dh.val (.bool false)=_;rw[ak (show¬x.kind=5 from h2)];rfl
theorem abJ (k:Int)(hk:k=2\/k=3\/k=4\/k=6):aj C 256 [.int .i64 k] (λr=>r=.val (.int .i64 k)):=by
 have vM:eM Tryz.prog 40 3=some [.int .i64]:=kK
 have jF:∀{L:List gI}{l:List (AV×FV)},(l.all λp=>gz false L p.1)=true->∀p,p∈l->gz false L p.1=true:=λh p hp=>bU.1 h p hp;refine ag Tryz.func256 rfl rfl rfl ?_;refine⟨[.int .i64],vM,rfl,(λp hp=>nomatch hp),_,rfl,?_⟩;refine⟨[.int .i64],vM,rfl,jF rfl,_,rfl,?_⟩;refine⟨[.int .i64],vM,rfl,jF rfl,_,rfl,?_⟩;refine⟨[.int .i64],vM,rfl,jF rfl,_,rfl,?_⟩;rcases hk with rfl|rfl|rfl|rfl;all_goals exact⟨[.int .i64],vM,rfl,jF rfl,_,rfl,rfl⟩
theorem aeN (x:bw)(c:ew)(hk:c.kind=2\/c.kind=3\/c.kind=4\/c.kind=6\/c.kind=7):aj C 255 [.agg (cA x),.imp (cC c)] (λr=>r=.val (.bool (fh c.kind c.file x))):=by
 refine ag Tryz.func255 rfl rfl rfl ?_;refine cG 19 kK ?_;refine aD (λh=>?_) (λh=>?_);have h:c.kind=7:=h;show dh.val (.bool true)=_;simp[fh,Il,h];have h:c.kind≠7:=h;refine⟨_,abJ c.kind oO,?_⟩;have hw:Il c.kind=c.kind:=aa h;have h0:¬c.kind=0:=oO
 refine aD (λh2=>?_) (λh2=>?_);have h2:x.kind=c.kind:=h2;refine rB ?_;refine jK (a:=x.file) (b:=c.file) ?_;show dh.val _=_;rw[fh,hw,ak h0,av h2];rfl;have h2:¬x.kind=c.kind:=h2;show dh.val (.bool false)=_;rw[fh,hw,ak h0,ak h2];rfl
theorem IJ (s:Bytes)(hs:s.length<=2^50):aj C 212 [.str s] (λr=>r=.val (.bool (iy s))):=by
 refine ag Tryz.func212 rfl rfl rfl ?_;refine bI 63 (λk:Nat=>[(0,.p (.str s)),(6,.p (.int .i64 (s.length:Int))),(7,.p (.int .i64 k))]) (λ_=>[]) (λk=>k<=s.length/\∀i c,i<k->s[i]?=some c->oC c.toNat) (λk=>s.length-k) 0 ⟨zL,λi c h=>absurd h (gu _)⟩ rfl wS trivial ?_;rintro k ⟨hk,hall⟩;have hw:IntKind.i64.wrap ((k:Int)+1)=((k+1:Nat):Int):=by rw[wrap64 oO oO];omega
 refine az (λhlt=>?_) (λhge=>?_)
 ·have hlt:k<s.length:=by have :(k:Int)<(s.length:Int):=hlt;omega
  obtain⟨c,hc⟩:∃c,s[k]?=some c:=⟨_,aq hlt⟩;refine⟨oO,c,GC rfl hc,?_⟩;have bad:¬oC c.toNat->iy s=false:=λh=>jq (.inr (.inr (.inr (.inr ⟨c,bA hc,h⟩))));have good:oC c.toNat->k+1<=s.length/\∀i d,i<k+1->s[i]?=some d->oC d.toNat:=λh=>⟨hlt,λi d hi hd=>by by_cases hik:i=k;subst hik;rw[hc]at hd;obtain rfl:=an hd;exact h;exact hall i d oO hd⟩;refine⟨none,?_⟩;have aaF:¬oC c.toNat->dh.val (.bool false)=dh.val (.bool (iy s)):=λh=>by rw[bad h]
  repeat' (first|refine az (λh=>?_) (λh=>?_)|refine cS (λh=>?_) (λh=>?_)|refine bq ?_)
  all_goals first|exact aaF (by unfold oC;omega)|exact⟨_,hw,aU (k+1) (good (by unfold oC;omega)) oO rfl wS trivial⟩
 have hge:¬k<s.length:=by intro h;exact hge (show(k:Int)<(s.length:Int)by omega)
 have hn:∀c,c∈s->oC c.toNat:=λc hc=>by obtain⟨i,hi⟩:=iI hc;exact hall i c (by have :=(aC.1 hi).1;omega) hi
 refine⟨none,?_⟩;refine uK (λhne=>?_) (λhne=>?_);refine az (λh2=>?_) (λh2=>?_);refine uK (λh3=>?_) (λh3=>?_);refine uK (λh4=>?_) (λh4=>?_);rw[Ie hne h3 h4 oO hn];exact rfl;rw[jq (.inr (.inr (.inl h4)))];exact rfl;rw[jq (.inr (.inl h3))];exact rfl;rw[jq (.inr (.inr (.inr (.inl oO))))];exact rfl;rw[jq (.inl hne)];exact rfl
theorem tN (c:UInt8):∀l:Bytes,(Lib.indexByte l c<0)↔c∉l
 |[]=>by simp[Lib.indexByte]
 |b::l=>by
  have ih:=tN c l;have hge:=Lib.indexByte_ge l c;unfold Lib.indexByte;by_cases hb:b=c;subst hb;simp;have hb':(b==c)=false:=by simpa using hb
  rw[hb'];simp only[sw,if_false,aG,not_or];by_cases h1:Lib.indexByte l c=-1;rw[h1];simp only[beq_self_eq_true,if_true];refine⟨λ_=>⟨λe=>hb e.symm,ih.1 oO⟩,λ_=>dD⟩;have :(Lib.indexByte l c==-1)=false:=by simpa using h1
  rw[this];simp only[sw,if_false];refine⟨λh=>oO,λh=>?_⟩;have :=ih.2 h.2;omega
theorem Ds (s:Bytes)(c:UInt8):aj C 248 [.str s,.int .u8 (c.toNat:Int)] (λr=>r=.val (.int .i64 (Lib.indexByte s c))):=by
 refine⟨⟨_,Tryz.func248,rfl,rfl⟩,λaZ w vs hJ hn hi hl hr=>?_⟩;match vs,hl with
  |[v0,v1],_=>
   have h0:=hr 0 v0 _ rfl rfl;have h1:=hr 1 v1 _ rfl rfl;obtain rfl:v0=.string ⟨s.toArray⟩:=by cases h0;rfl
   obtain rfl:v1=.int .u8 (c.toNat:Int):=by cases h1;rfl
   refine(Tryz.strings_IndexByte ⟨s.toArray⟩ (c.toNat:Int) w).mono ?_;rintro e w' ⟨rfl,rfl⟩;have hc:((c.toNat:Int)).toNat.toUInt8=c:=by simp
   exact⟨_,_,rfl,rfl,by rw[hc];exact .int _ _,RowKit.Below.refl _ _⟩
theorem XL (s:Bytes)(hs:s.length<=2^47):aj C 215 [.str s] (λr=>r=.val (.bool (qc s))):=by
 have key:∀x:UInt8,x∉s↔(s.all λc=>c !=x)=true:=λx=>by rw[bU];exact⟨λh c hc=>by simp only[bne_iff_ne,ne_eq];exactλe=>h (e▸hc),λh hm=>by simpa using h x hm⟩
 have jE:zm s 10 0=((s.all λc=>c !=10)&&(s.all λc=>c !=0)):=by unfold zm;rw[kg];simp only[bU,aY];exact⟨λh=>⟨λc hc=>(h c hc).1,λc hc=>(h c hc).2⟩,λh c hc=>⟨h.1 c hc,h.2 c hc⟩⟩
 refine ag Tryz.func215 rfl rfl rfl ?_;refine⟨none,?_⟩;unfold qc;rw[jE];refine az (λh=>?_) (λh=>?_);have h:s.length<=1000:=by have :(s.length:Int)<=1000:=h;omega
 refine cl (Ds s 10) ?_;refine az (λh2=>?_) (λh2=>?_);have h2:=(key 10).1 ((tN 10 s).1 h2);refine cl (Ds s 0) ?_;refine az (λh3=>?_) (λh3=>?_);have h3:=(key 0).1 ((tN 0 s).1 h3);show dh.val _=_;simp only[h,h2,h3,decide_true,Bool.and_self];have h3:(s.all λc=>c !=0)=false:=by
  cases hq:s.all λc=>c !=0 with
  |false=>rfl
  |true=>exact absurd ((tN 0 s).2 ((key 0).2 hq)) h3
 show dh.val _=_;simp only[h3,Bool.and_false];have h2:(s.all λc=>c !=10)=false:=by
  cases hq:s.all λc=>c !=10 with
  |false=>rfl
  |true=>exact absurd ((tN 10 s).2 ((key 10).2 hq)) h2
 show dh.val _=_;simp only[h2,Bool.and_false,qi];have h:¬s.length<=1000:=by have :¬(s.length:Int)<=1000:=h;omega
 show dh.val _=_;simp only[h,decide_false,qi]
def yc (p:fW):Int:=if iy p.eV=false then 5 else if 1000<p.message.length then 4 else if p.time<0\/1099511627776<p.time then 2 else if mS p.deps≠0 then mS p.deps else if p.changes.length=0 then 1 else if 400<p.changes.length then 4 else 0
theorem TN (p:fW):cn p=if yc p≠0 then([],yc p)else fN p.changes []:=by unfold cn yc;by_cases h1:iy p.eV=false;simp only[af h1];rfl;simp only[aa h1];by_cases h2:1000<p.message.length;simp only[af h2];rfl;simp only[aa h2];by_cases h3:p.time<0\/1099511627776<p.time;simp only[af h3];rfl;simp only[aa h3];by_cases h4:mS p.deps≠0;simp only[af h4];simp only[aa h4];by_cases h5:p.changes.length=0;simp only[af h5];rfl;simp only[aa h5];by_cases h6:400<p.changes.length;simp only[af h6];rfl;simp only[aa h6];rfl
theorem aby (p:fW)(hz:Sw p):aj C 185 [.agg (cP p)] (λr=>r=.val (.int .i64 (yc p))):=by
 obtain⟨eV,message,time,deps,changes⟩:=p;have hza:=hz.eV;have hzd:=hz.deps;have GA:=hz.len;obtain⟨E,hE⟩:∃E,yc ⟨eV,message,time,deps,changes⟩=E:=⟨_,rfl⟩;rw[hE];unfold yc at hE;simp only at hE hza hzd GA;refine ag Tryz.func185 rfl rfl rfl ?_;refine cl (IJ eV oO) ?_;refine bq ?_;cases hn:iy eV with
 |false=>rw[af hn]at hE;subst hE;exact rfl
 |true=>
  rw[aa (by rw[hn];decide)]at hE;refine az (λh=>?_) (λh=>?_);rw[af (show 1000<message.length by have :(message.length:Int)>1000:=h;omega)]at hE;subst hE;exact rfl;rw[aa (show¬1000<message.length by have :¬(message.length:Int)>1000:=h;omega)]at hE;refine⟨none,?_⟩;refine az (λh=>?_) (λh3=>?_);rw[af (show time<0\/1099511627776<time from .inl h)]at hE;subst hE;exact rfl;refine az (λh=>?_) (λh4=>?_);rw[af (show time<0\/1099511627776<time from .inr h)]at hE;subst hE;exact rfl;rw[aa (show¬(time<0\/1099511627776<time)fromλg=>g.elim h3 h4)]at hE;have he:(((deps.map cD).length:Nat):Int)=(deps.length:Int):=by rw[ai]
  refine az (λh=>?_) (λh=>?_);have h1:100<deps.length:=by have :(((deps.map cD).length:Nat):Int)>100:=h;omega
  have hd:mS deps=4:=by rw[mS,af h1]
  rw[af (by rw[hd];decide),hd]at hE;subst hE;exact rfl;have h1:¬100<deps.length:=by have :¬(((deps.map cD).length:Nat):Int)>100:=h;omega
  refine bI 64 (λk:Nat=>[(1,.ptr 1 0),(31,.p (.sl (deps.map cD))),(32,.p (.int .i64 ((deps.map cD).length:Int))),(33,.p (.int .i64 k))]) (λ_=>[(1,aF (cP ⟨eV,message,time,deps,changes⟩))]) (λk=>k<=deps.length/\∀i,i<k->zq deps i=0) (λk=>deps.length-k) 0 ⟨zL,λi h=>absurd h (gu _)⟩ rfl wS oS ?_;rintro k ⟨hk,hall⟩;refine bY (λhlt=>?_) (λhge=>?_)
  ·have hb:=NL hlt;have bad:zq deps k≠0->dh.val (.int .i64 (zq deps k))=dh.val (.int .i64 E):=λh=>by
    have hd:mS deps=zq deps k:=by rw[mS,aa h1,xb (zq deps) deps.length k hlt hall h]
    rw[af (by rw[hd];exact h),hd]at hE;rw[hE]
   have next:zq deps k=0->k+1<=deps.length/\∀i,i<k+1->zq deps i=0:=λh=>⟨hlt,λi hi=>by by_cases hik:i=k;rw[hik];exact h;exact hall i oO⟩;refine ix hlt ?_;refine⟨yw,dR,kP,rfl,rfl,?_⟩;refine Ib (a:=deps[k]) (b:=bz) ?_;by_cases hz:deps[k]=bz;rw[av hz];rw[af hz]at hb;have :=bad (by rw[hb];decide);rw[hb]at this;exact this;rw[ak hz];rw[aa hz]at hb;refine cG 13 kK ?_;refine az (λh0=>?_) (λh0=>?_)
   ·have h0:0<k:=by have :(k:Int)>0:=h0;omega
    have hlt':k-1<deps.length:=oO
    have hg:deps.getD (k-1) bz=deps[k-1]:=by simp[List.getD,hlt']
    rw[hg]at hb;refine nx (k-1) ?_;refine ix hlt' ?_;refine⟨_,aaz deps[k-1] deps[k],?_⟩;refine az (λh2=>?_) (λh2=>?_);rw[af ⟨h0,h2⟩]at hb;have :=bad (by rw[hb];decide);rw[hb]at this;exact this;rw[aa λh=>h2 h.2]at hb;exact nx (k+1) (aU (k+1) (next hb) oO rfl wS oS)
   have h0:¬0<k:=by have :¬(k:Int)>0:=h0;omega
   rw[aa λh=>h0 h.1]at hb;exact nx (k+1) (aU (k+1) (next hb) oO rfl wS oS)
  have hd:mS deps=0:=by rw[mS,aa h1];exact uL _ _ λi hi=>hall i oO
  rw[aa (by rw[hd];decide)]at hE;have hec:(((changes.map cC).length:Nat):Int)=(changes.length:Int):=by rw[ai]
  refine aD (λh=>?_) (λh=>?_);rw[af (by have :(((changes.map cC).length:Nat):Int)=0:=h;omega)]at hE;subst hE;exact rfl;rw[aa (by have :¬(((changes.map cC).length:Nat):Int)=0:=h;omega)]at hE;refine az (λh=>?_) (λh=>?_);rw[af (by have :(((changes.map cC).length:Nat):Int)>400:=h;omega)]at hE;subst hE;exact rfl;rw[aa (by have :¬(((changes.map cC).length:Nat):Int)>400:=h;omega)]at hE;subst hE;exact rfl
def abz (l:List Int):List (List AV):=l.map λn=>[.int .i64 n]
def oT (x:Int):List Int->Int|[]=>-1|y::l=>if x=y then 0 else if oT x l<0 then-1 else oT x l+1
theorem EK (x:Int):∀l,-1<=oT x l|[]=>Int.le_refl _|y::l=>by have :=EK x l;unfold oT;split;omega;split<;>omega
theorem IK (x:Int):∀(a b:List Int),x∉a->oT x (a++b)=if oT x b<0 then-1 else oT x b+a.length
 |[],b,h=>by have :=EK x b;simp only[jU,bk];split<;>omega
 |y::a,b,h=>by have hx:x≠y:=λe=>h (by rw[e];simp);have ih:=IK x a b (λhm=>h (by simp[hm]));rw[dZ,oT,aa hx,ih];have :=EK x b;simp only[aI];split;rename_i h1;rw[af oO];rename_i h1;rw[aa oO];omega
theorem zF (x:Int):∀(a:List Int),x∉a->oT x a=-1|[],h=>rfl|y::a,h=>by have hx:x≠y:=λe=>h (by rw[e];simp);rw[oT,aa hx,zF x a (λhm=>h (by simp[hm]))];rfl
theorem IL (x:Int)(l:List Int):(0<=oT x l)↔x∈l:=by
 constructor;intro h;refine gR λhn=>?_;rw[zF x l hn]at h;omega;intro h;induction l with
 |nil=>cases h
 |cons y l ih=>unfold oT;split;omega;rename_i hne;rcases aG.1 h with rfl|h;exact absurd rfl hne;have :=ih h;rw[aa oO];omega
theorem abA (l:List Int)(x:Int)(hl:l.length<=2^40):aj C 284 [.sl (abz l),.int .i64 x] (λr=>r=.val (.int .i64 (oT x l))):=by
 unfold abz;refine ag Tryz.func284 rfl rfl rfl ?_;refine bI 19 (λk:Nat=>[(0,.p (.sl (l.map λn=>[.int .i64 n]))),(1,.p (.int .i64 x)),(7,.p (.int .i64 ((l.map λn=>[AV.int .i64 n]).length:Int))),(8,.p (.int .i64 k))]) (λ_=>[]) (λk=>k<=l.length/\x∉l.take k) (λk=>l.length-k) 0 ⟨zL,by simp⟩ rfl wS trivial ?_;rintro k ⟨hk,hx⟩;refine bY (λhlt=>?_) (λhge=>?_);refine ix hlt ?_;refine aD (λh=>?_) (λh=>?_);have h:x=l[k]:=h;have e:l=l.take k++l[k]::l.drop (k+1):=by rw[List.getElem_cons_drop,dw]
 have :oT x l=k:=by
  conv=>lhs;rw[e]
  rw[IK x _ _ hx,oT,af h,aa oO,aH];omega
 rw[this];exact rfl;exact nx (k+1) (aU (k+1) ⟨hlt,wX hlt hx (λe=>h e.symm)⟩ oO rfl wS trivial);obtain rfl:k=l.length:=oO
 rw[aP]at hx;rw[zF x l hx];exact rfl
theorem NV (l:List Int)(x:Int)(hl:l.length<=2^40):aj C 247 [.sl (abz l),.int .i64 x] (λr=>r=.val (.bool (decide (x∈l)))):=by refine ag Tryz.func247 rfl rfl rfl ?_;refine cl (abA l x hl) ?_;refine az (λh=>?_) (λh=>?_);rw[av ((IL x l).1 h)];exact rfl;rw[ak λhm=>h ((IL x l).2 hm)];exact rfl
theorem XM (l:List Int)(x:Int)(hl:l.length<=2^40):aj C 246 [.sl (abz l),.imp [.int .i64 x]] (λr=>r=.val (.bool (decide (x∈l)))):=by refine ag Tryz.func246 rfl rfl rfl ?_;refine cl (NV l x hl) ?_;exact rfl
theorem iz (l:List Int)(x:Int)(b:Bool)(hl:l.length<=2^40)(h:decide (x∈l)=b):aj C 246 [.sl (abz l),.imp [.int .i64 x]] (λr=>r=.val (.bool b)):=by subst h;exact XM l x hl
theorem uY.dL {C:Ctx}{e:Extra}{l:List Nat}{f:FuncId}{args:List AV}{bs:List UInt8}{out:Option (List UInt8)}{r:AV}(h:uY C f args bs out r):uY ((C.cut l).open e) f args bs out r:=h
theorem LI {bs s:Bytes}(hlen:bs.length+s.length<=140737488355328):uY C 289 [.str s] bs (some (bs++s)) (.eY [.int .i64 s.length,.rW]):=Rm ai9 Rn rfl rfl rfl Tryz.func289 rfl rfl hlen
theorem EL {bs:Bytes}{c:UInt8}(hlen:bs.length+1<=140737488355328):uY C 290 [.int .u8 c.toNat] bs (some (bs++[c])) .rW:=Gq aja Ro rfl rfl rfl Tryz.func290 rfl rfl hlen
theorem aeW {bs:Bytes}:uY C 270 [] bs none (.str bs):=NZ Tryz.lays169 Tryz.Builder_Extra_169 rfl rfl rfl Tryz.func270 rfl rfl
theorem ahj (x:Sx):∀n d:Nat,n+nX x<=20000->d+dX x<=13->GV C 287 [.int .i64 (n:Int),.bool false] [.agg (cX x),.int .i64 (d:Int)] (λr ys=>r=.eY []/\ys=[.int .i64 ((n+nX x:Nat):Int),.bool false]):=by
 induction x using Sx.ind with
 |h1 s=>intro n d h1 h2;have h1:n+1<=20000:=h1;have h2:d+1<=13:=h2;refine CW uO [] Tryz.func287 rfl rfl rfl ?_;refine nx (n+1) ?_;refine⟨none,?_⟩;refine az (λh=>absurd h oO) (λ_=>?_);refine az (λh=>absurd h oO) (λ_=>?_);refine bq ?_;exact⟨rfl,rfl,rfl⟩
 |h2 l ih=>
  intro n d h1 h2;have h1:n+(1+sO l)<=20000:=h1;have h2:d+(1+VD l)<=13:=h2;have hlen:=wY l;refine CW uO [] Tryz.func287 rfl rfl rfl ?_;refine nx (n+1) ?_;refine⟨none,?_⟩;refine az (λh=>absurd h oO) (λ_=>?_);refine az (λh=>absurd h oO) (λ_=>?_);refine bq ?_;refine bI 47 (λk:Nat=>[(0,.ptr 999999 0),(2,.p (.int .i64 (d:Int))),(31,.p (.sl (mw l))),(32,.p (.int .i64 ((mw l).length:Int))),(33,.p (.int .i64 k))]) (λk=>[(999999,aF [.int .i64 ((n+1+sO (l.take k):Nat):Int),.bool false])]) (λk=>k<=l.length) (λk=>l.length-k) 0 (zL) rfl wS oS ?_;intro k hk;refine EA (λhlt=>?_) (λhge=>?_)
  ·have hm:=aL hlt;have hs:=vH hlt;have ht2:=nw l (k+1);have hi:=ih l[k] hm (n+1+sO (l.take k)) (d+1) oO (by have :=NB hm;omega);have jc:=Xw hlt;have he:n+1+sO (l.take k)+nX l[k]=n+1+sO (l.take (k+1)):=oO
   rw[he]at hi;generalize l[k]=y at hi jc;cases y;all_goals refine⟨oO,_,jc,rfl,?_⟩;refine nx (d+1) ?_;refine .inr (.inr ⟨_,hi.dL,λr ys hr=>?_⟩);obtain⟨rfl,rfl⟩:=hr;exact nx (k+1) (aU (k+1) hlt oO rfl wS oS)
  have :k=l.length:=oO
  subst this;rw[aP];exact⟨rfl,rfl,by rw[show nX (.list l)=1+sO l from rfl,gj]⟩
theorem abQ (x:Sx):aX x<=65536->nX x<=2^20->aj C 288 [.agg (cX x)] (λr=>r=.val (.int .i64 0)):=by
 induction x using Sx.ind with
 |h1 s=>intro h1 _;have h1:s.length<=65536:=h1;refine ag Tryz.func288 rfl rfl rfl ?_;refine⟨none,?_⟩;refine bq ?_;refine az (λh=>absurd h dD) (λ_=>?_);refine az (λh=>absurd h oO) (λ_=>?_);refine bI 43 (λk:Nat=>[(31,.p (.sl [])),(32,.p (.int .i64 0)),(33,.p (.int .i64 k))]) (λ_=>[]) (λk=>k=0) (λk=>k) 0 rfl rfl wS trivial ?_;intro k hk;subst hk;refine az (λh=>absurd h dD) (λ_=>?_);exact rfl
 |h2 l ih=>
  intro h1 h2;have h1:aXs l<=65536:=h1;have h2:1+sO l<=2^20:=h2;have hlen:=wY l;refine ag Tryz.func288 rfl rfl rfl ?_;refine⟨none,?_⟩;refine uK (λh=>absurd rfl h) (λ_=>?_);refine bq ?_;refine az (λh=>absurd h dD) (λ_=>?_);refine bI 43 (λk:Nat=>[(31,.p (.sl (mw l))),(32,.p (.int .i64 ((mw l).length:Int))),(33,.p (.int .i64 k))]) (λ_=>[]) (λk=>k<=l.length) (λk=>l.length-k) 0 (zL) rfl wS trivial ?_;intro k hk;refine EA (λhlt=>?_) (λhge=>?_)
  ·have hm:=aL hlt;have hs:=vH hlt;have ht2:=nw l (k+1);have hi:=ih l[k] hm (by have :=GD hm;omega) oO;have jc:=Xw hlt;generalize l[k]=y at hi jc hs;cases y;all_goals refine⟨oO,_,jc,rfl,?_⟩;refine cl hi ?_;refine cS (λh=>absurd rfl h) (λ_=>?_);exact nx (k+1) (aU (k+1) hlt oO rfl wS trivial)
  exact rfl
theorem XS (x:Sx)(h1:nX x<=20000)(h2:dX x<=12)(h3:aX x<=65536):aj C 268 [.agg (cX x)] (λr=>r=.val (.int .i64 0)):=by have ha:=ahj x 0 1 oO oO;have hk:=abQ x h3 oO;cases x;all_goals refine ag Tryz.func268 rfl rfl rfl ?_;refine .inr (.inr ⟨_,ha,λr ys hr=>?_⟩);obtain⟨rfl,rfl⟩:=hr;refine cl hk ?_;exact rfl
theorem aeX (x:Sx):∀bs:Bytes,bs.length+(eX x).length<=2^46->nX x<=2^20->uY C 269 [.agg (cX x)] bs (some (bs++eX x)) (.eY []):=by
 induction x using Sx.ind with
 |h1 s=>intro bs h1 _;have h1:bs.length+(Lib.itoa (s.length:Int)++[58]++s).length<=2^46:=h1;simp only[au,aI,bk]at h1;refine Ba uO [] Tryz.func269 rfl rfl rfl ?_;refine bq ?_;refine cl (Ra (s.length:Int) oO oO).dL ?_;refine⟨_,_,(LI oO).dL,?_⟩;refine⟨_,_,(EL (c:=58) (by simp only[au];omega)).dL,?_⟩;refine⟨_,_,(LI (by simp only[au,aI,bk];omega)).dL,?_⟩;exact⟨rfl,by show some _=some _;rw[show eX (.atom s)=Lib.itoa (s.length:Int)++[58]++s from rfl];simp only[br]⟩
 |h2 l ih=>
  intro bs h1 h2;have h1:bs.length+([40]++JN l++[41]).length<=2^46:=h1;have h2:1+sO l<=2^20:=h2;simp only[au,aI,bk]at h1;have hlen:=wY l;refine Ba uO [] Tryz.func269 rfl rfl rfl ?_;refine bq ?_;refine⟨_,_,(EL (c:=40) oO).dL,?_⟩;refine afW 36 (λk:Nat=>[(0,.ptr 999999 0),(24,.p (.sl (mw l))),(25,.p (.int .i64 ((mw l).length:Int))),(26,.p (.int .i64 k))]) (λ_=>[]) (λk=>[(999999,bs++([40]++JN (l.take k)))]) (λk=>k<=l.length) (λk=>l.length-k) 0 (zL) rfl wS trivial ⟨rfl,trivial⟩ ?_;intro k hk;refine EA (λhlt=>?_) (λhge=>?_)
  ·have hm:=aL hlt;have hs:=vH hlt;have he:=QM hlt;have hel:=aS List.length he;rw[au]at hel;have ht2:=nw l (k+1);have hb:=FI l (k+1);have hi:=ih l[k] hm (bs++([40]++JN (l.take k))) (by simp only[au,aI,bk];omega) oO;rw[show bs++([40]++JN (l.take k))++eX l[k]=bs++([40]++JN (l.take (k+1)))from by rw[he];simp only[br]]at hi;have jc:=Xw hlt;generalize l[k]=y at hi jc;cases y;all_goals refine⟨oO,_,jc,rfl,?_⟩;refine⟨_,_,hi.dL,?_⟩;exact nx (k+1) (aiH (k+1) hlt oO rfl wS trivial ⟨rfl,trivial⟩)
  have :k=l.length:=oO
  subst this;rw[aP];refine⟨_,_,(EL (c:=41) (by simp only[au,aI,bk];omega)).dL,?_⟩;exact⟨rfl,by show some _=some _;rw[show eX (.list l)=[40]++JN l++[41]from rfl];simp only[br]⟩
theorem TR (x:Sx)(h:OkX x):aj C 223 [.agg (cX x)] (λr=>r=.val (.eY [.str (eX x),.int .i64 0])):=by have hc:=XS x h.nodes h.depth h.atoms;have hk:=aeX x [] (by have :=h.len;simp only[bk];omega) (by have :=h.nodes;omega);rw[jU]at hk;clear h;cases x;all_goals refine ag Tryz.func223 rfl rfl rfl ?_;refine cl hc ?_;refine cS (λh=>absurd rfl h) (λ_=>?_);refine⟨_,_,hk,?_⟩;refine⟨_,_,aeW,?_⟩;exact rfl
end Qv
