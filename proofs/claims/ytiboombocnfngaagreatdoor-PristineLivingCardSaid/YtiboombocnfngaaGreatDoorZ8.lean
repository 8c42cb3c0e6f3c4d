/- Part 14 of the proof: its lemmas. No condition. -/
import Derived.Test.YtiboombocnfngaaGreatDoorZ1
import Derived.Test.YtiboombocnfngaaGreatDoorZ3
import Derived.Test.YtiboombocnfngaaGreatDoorZ5
import Derived.Test.YtiboombocnfngaaGreatDoorZ6
set_option maxRecDepth 10000
set_option maxHeartbeats 80000000
set_option linter.all false
open Go Go.Proofs Go.RowKit
namespace Qv
def cS (n:Int):bB:=⟨bg,n⟩
def uU (file:bB)(f:Nat)(ls:List Bytes)(i:Nat):bO:=⟨cS ((f+i:Nat):Int),5,file,0,aM,[],0,[],ls.getD i [],aM,aM,[]⟩
def AF (file eH eY:bB)(f k i:Nat):bO:=⟨cS ((f+k+i:Nat):Int),6,file,0,aM,[],0,[],[],if 0<i then cS ((f+i-1:Nat):Int)else eH,if i<k then cS ((f+i:Nat):Int)else eY,[]⟩
def kG (c:dH)(f:Nat):bO:=if c.kind=1 then⟨cS f,1,cS f,c.type,aM,[],0,[],[],aM,aM,[]⟩else if c.kind=2 then⟨cS f,2,c.file,0,c.parent,c.name,0,[],[],aM,aM,c.over⟩else if c.kind=3 then⟨cS f,3,c.file,0,aM,[],c.mode,[],[],aM,aM,c.over⟩else if c.kind=4 then⟨cS f,4,c.file,0,aM,[],0,c.data,[],aM,aM,c.over⟩else if c.kind=6 then⟨cS f,6,c.file,0,aM,[],0,[],[],c.eH,c.eY,c.over⟩else⟨cS f,7,aM,0,aM,[],0,[],[],aM,aM,c.over⟩
def dI (c:dH)(f:Nat):List bO:=if c.kind=5 then(List.range c.lines.length).map (uU c.file f c.lines)++(List.range (c.lines.length+1)).map (AF c.file c.eH c.eY f c.lines.length)else[kG c f]
theorem afP (c:dH)(f:Nat)(hk:c.kind=1):dI c f=[⟨cS f,1,cS f,c.type,aM,[],0,[],[],aM,aM,[]⟩]:=by unfold dI kG;rw[aa (show¬c.kind=5 by omega)];rw[af hk]
theorem afQ (c:dH)(f:Nat)(hk:c.kind=2):dI c f=[⟨cS f,2,c.file,0,c.parent,c.name,0,[],[],aM,aM,c.over⟩]:=by unfold dI kG;rw[aa (show¬c.kind=5 by omega)];rw[aa (show¬c.kind=1 by omega)];rw[af hk]
theorem afR (c:dH)(f:Nat)(hk:c.kind=3):dI c f=[⟨cS f,3,c.file,0,aM,[],c.mode,[],[],aM,aM,c.over⟩]:=by unfold dI kG;rw[aa (show¬c.kind=5 by omega)];rw[aa (show¬c.kind=1 by omega)];rw[aa (show¬c.kind=2 by omega)];rw[af hk]
theorem afS (c:dH)(f:Nat)(hk:c.kind=4):dI c f=[⟨cS f,4,c.file,0,aM,[],0,c.data,[],aM,aM,c.over⟩]:=by unfold dI kG;rw[aa (show¬c.kind=5 by omega)];rw[aa (show¬c.kind=1 by omega)];rw[aa (show¬c.kind=2 by omega)];rw[aa (show¬c.kind=3 by omega)];rw[af hk]
theorem afT (c:dH)(f:Nat)(hk:c.kind=6):dI c f=[⟨cS f,6,c.file,0,aM,[],0,[],[],c.eH,c.eY,c.over⟩]:=by unfold dI kG;rw[aa (show¬c.kind=5 by omega)];rw[aa (show¬c.kind=1 by omega)];rw[aa (show¬c.kind=2 by omega)];rw[aa (show¬c.kind=3 by omega)];rw[aa (show¬c.kind=4 by omega)];rw[af hk]
theorem afU (c:dH)(f:Nat)(hk:c.kind=7):dI c f=[⟨cS f,7,aM,0,aM,[],0,[],[],aM,aM,c.over⟩]:=by unfold dI kG;rw[aa (show¬c.kind=5 by omega)];rw[aa (show¬c.kind=1 by omega)];rw[aa (show¬c.kind=2 by omega)];rw[aa (show¬c.kind=3 by omega)];rw[aa (show¬c.kind=4 by omega)];rw[aa (show¬c.kind=6 by omega)]
theorem afV (c:dH)(f:Nat)(hk:c.kind=5):dI c f=(List.range c.lines.length).map (uU c.file f c.lines)++(List.range (c.lines.length+1)).map (AF c.file c.eH c.eY f c.lines.length):=by unfold dI;rw[af hk]
theorem nP {l:List bO}:∀zs,zs∈l.map cA->zs.length=172:=by intro zs h;obtain⟨x,-,rfl⟩:=aB.1 h;exact afC x
structure Hid (T:Prop):Prop where
 out:T
theorem share {T G:Prop}(h:Hid T->G)(t:T):G:=h ⟨t⟩
def bk:List Int->Int|[]=>0|e::l=>if e≠0 then e else bk l
theorem fW {e:Int}{l:List Int}(h:e≠0):bk (e::l)=e:=af h
theorem ef {e:Int}{l:List Int}(h:e=0):bk (e::l)=bk l:=aa (λg=>g h)
theorem EA {p:Prop}[Decidable p]{e:Int}{l:List Int}(h:¬p):bk ((if p then e else 0)::l)=bk l:=by rw[aa h];exact ef rfl
theorem Iu {p:Prop}[Decidable p]{e:Int}{l:List Int}(h:p):bk ((if p then e else 0)::l)=bk (e::l):=by rw[af h]
def lJ (x:bO):Bool:=decide (x.kind=1)&&decide (x.type=4)
def ZU (c:dH)(own:List bO):List Int:=(if 2<=c.kind/\c.kind<=6 then Da c.file own.length (bH c.kind (Is own c.file))else 0)::(if c.kind=2/\c.parent≠lD then Da c.parent own.length (lJ (Is own c.parent))else 0)::(if iS c.kind=true then Da c.eH own.length (decide (c.eH=c.file)||gH c.file (Is own c.eH))else 0)::(if iS c.kind=true then Da c.eY own.length (decide (c.eY=c.file)||gH c.file (Is own c.eY))else 0)::((c.over.map λx=>Da x own.length (gj c.kind c.file (Is own x)))++[if c.kind=2/\c.parent=c.file then 20 else 0,if iS c.kind=true/\c.eH=c.eY/\(c.kind=6\/c.eH≠c.file)then 1 else 0])
def oa (c:dH)(own:List bO):Int:=bk (ZU c own)
theorem JZ {α β:Type}{g:α->β}{l:List α}{k:Nat}(h:k<l.length)(r:List β):(l.drop k).map g++r=g l[k]::((l.drop (k+1)).map g++r):=by rw[bM h,bw,cr]
def SE (l:List Bytes):Int:=if l.length=0 then 1 else if 2000<l.length then 4 else if l.all qZ=true then 0 else 3
theorem Ka {α:Type}{f:α->Bool}{l:List α}{k:Nat}(hk:k<l.length)(h:(l.take k).all f=true)(h2:f l[k]=true):(l.take (k+1)).all f=true:=by rw[<-me hk,List.all_append,h];simp[h2]
theorem afW {α:Type}{f:α->Bool}{l:List α}{k:Nat}(hk:k<l.length)(h2:f l[k]=false):l.all f=false:=List.all_eq_false.2 ⟨_,aT hk,by rw[h2];decide⟩
def Iv (l:List Dg)(i:Nat):Int:=if l.getD i bg=bg then 1 else if 0<i/\0<=dA (l.getD (i-1) bg) (l.getD i bg)then 9 else 0
def rj (l:List Dg):Int:=if 100<l.length then 4 else bk ((List.range l.length).map (Iv l))
theorem Ni (g:Nat->Int)(n k:Nat)(hk:k<n)(h:∀i,i<k->g i=0)(h2:g k≠0):bk ((List.range n).map g)=g k:=by
 have e:List.range n=List.range k++(k::(List.range (n-k-1)).map (·+(k+1))):=by apply List.ext_getElem;simp;omega;intro i h1 h3;simp only[sy,List.getElem_append,ko,List.getElem_cons,mg];split;rfl;split;omega;omega
 rw[e,aF,bw];have :∀(l:List Nat)(r:List Int),(∀i,i∈l->g i=0)->bk (l.map g++r)=bk r:=by
  intro l;induction l with
  |nil=>intro r _;rfl
  |cons a l ih=>intro r hr;rw[bw,cr,ef (hr a (by simp))];exact ih r λi hi=>hr i (by simp[hi])
 rw[this _ _ λi hi=>h i (fA.1 hi),fW h2]
theorem Kb (g:Nat->Int)(n:Nat)(h:∀i,i<n->g i=0):bk ((List.range n).map g)=0:=by
 have :∀(l:List Nat),(∀i,i∈l->g i=0)->bk (l.map g)=0:=by
  intro l;induction l with
  |nil=>intro _;rfl
  |cons a l ih=>intro hr;rw[bw,ef (hr a (by simp))];exact ih λi hi=>hr i (by simp[hi])
 exact this _ λi hi=>h i (fA.1 hi)
theorem UP {l:List Dg}{k:Nat}(h:k<l.length):Iv l k=if l[k]=bg then 1 else if 0<k/\0<=dA (l.getD (k-1) bg) l[k]then 9 else 0:=by
 have :l.getD k bg=l[k]:=by simp[List.getD,h]
 unfold Iv;rw[this]
def cF (c:dH):Int:=if c.kind<1\/7<c.kind then 8 else if bN (fI c)=false then 1 else if c.kind=1/\(c.type<1\/4<c.type)then 8 else if c.kind=2/\iq c.name=false then 5 else if c.kind=3/\(c.mode<0\/511<c.mode)then 2 else if 65536<c.data.length then 4 else if c.kind=5 then SE c.lines else if c.kind=7/\c.over.length=0 then 1 else if 400<c.over.length then 4 else if wz c.over=false then 9 else 0
theorem fZ {c:dH}(h:cF c=0):1<=c.kind/\c.kind<=7/\(c.kind=5->c.lines.length<=2000/\c.lines.all qZ=true)/\(c.kind≠5->c.over.length<=400)/\bN (fI c)=true/\c.data.length<=65536:=by
 unfold cF at h;by_cases h1:c.kind<1\/7<c.kind;rw[af h1]at h;exact absurd h dD;rw[aa h1]at h;by_cases h2:bN (fI c)=false;rw[af h2]at h;exact absurd h dD;rw[aa h2]at h;by_cases h3:c.kind=1/\(c.type<1\/4<c.type);rw[af h3]at h;exact absurd h dD;rw[aa h3]at h;by_cases h4:c.kind=2/\iq c.name=false;rw[af h4]at h;exact absurd h dD;rw[aa h4]at h;by_cases h5:c.kind=3/\(c.mode<0\/511<c.mode);rw[af h5]at h;exact absurd h dD;rw[aa h5]at h;by_cases h6:65536<c.data.length;rw[af h6]at h;exact absurd h dD;rw[aa h6]at h;have he:bN (fI c)=true:=by simpa using h2
 by_cases h7:c.kind=5;rw[af h7]at h;refine⟨oO,oO,λ_=>?_,λg=>absurd h7 g,he,oO⟩;unfold SE at h;by_cases g1:c.lines.length=0;rw[af g1]at h;exact absurd h dD;rw[aa g1]at h;by_cases g2:2000<c.lines.length;rw[af g2]at h;exact absurd h dD;rw[aa g2]at h;by_cases g3:c.lines.all qZ=true;exact⟨oO,g3⟩;rw[aa g3]at h;exact absurd h dD;rw[aa h7]at h;by_cases h8:c.kind=7/\c.over.length=0;rw[af h8]at h;exact absurd h dD;rw[aa h8]at h;by_cases h9:400<c.over.length;rw[af h9]at h;exact absurd h dD;exact⟨oO,oO,λg=>absurd g h7,λ_=>oO,he,oO⟩
theorem uV (c:dH)(f:Nat):(dI c f).length=if c.kind=5 then 2*c.lines.length+1 else 1:=by unfold dI;by_cases h:c.kind=5;rw[af h,af h];simp;omega;rw[aa h,aa h];rfl
theorem Db {c:dH}(h:cF c=0)(f:Nat):(dI c f).length<=4001:=by rw[uV];obtain⟨-,-,h5,-⟩:=fZ h;by_cases hk:c.kind=5;have :=(h5 hk).1;rw[af hk];omega;rw[aa hk];omega
def kH:List dH->List bO->List bO×Int|[],own=>(own,0)|c::l,own=>if cF c≠0 then([],cF c)else if oa c own≠0 then([],oa c own)else kH l (own++dI c own.length)
theorem kU (c:dH)(l:List dH)(own:List bO):kH (c::l) own=if cF c≠0 then([],cF c)else if oa c own≠0 then([],oa c own)else kH l (own++dI c own.length):=rfl
def eM (p:iA):List bO×Int:=if iq p.ja=false then([],5)else if 1000<p.message.length then([],4)else if p.time<0\/1099511627776<p.time then([],2)else if rj p.deps≠0 then([],rj p.deps)else if p.changes.length=0 then([],1)else if 400<p.changes.length then([],4)else kH p.changes []
theorem Iw:∀(l:List dH)(own:List bO),(kH l own).2=0->∀c,c∈l->cF c=0
 |[],_,_=>λc h=>by cases h
 |c::l,own,h=>by rw[kU]at h;by_cases h1:cF c≠0;rw[af h1]at h;exact absurd h h1;rw[aa h1]at h;by_cases h2:oa c own≠0;rw[af h2]at h;exact absurd h h2;rw[aa h2]at h;intro x hx;rcases aC.1 hx with rfl|hx;simpa using h1;exact Iw l _ h x hx
structure OkP (p:iA):Prop where
 name:iq p.ja=true
 message:p.message.length<=1000
 time:0<=p.time/\p.time<=1099511627776
 deps:rj p.deps=0
 changes:1<=p.changes.length/\p.changes.length<=400
 each:∀c,c∈p.changes->cF c=0
 all:eM p=kH p.changes []
theorem yG {p:iA}(h:(eM p).2=0):OkP p:=by
 have hE:eM p=eM p:=rfl;conv at hE=>rhs;unfold eM
 rw[hE]at h;by_cases h1:iq p.ja=false;rw[af h1]at h;exact absurd h dD;rw[aa h1]at h hE;by_cases h2:1000<p.message.length;rw[af h2]at h;exact absurd h dD;rw[aa h2]at h hE;by_cases h3:p.time<0\/1099511627776<p.time;rw[af h3]at h;exact absurd h dD;rw[aa h3]at h hE;by_cases h4:rj p.deps≠0;rw[af h4]at h;exact absurd h h4;rw[aa h4]at h hE;by_cases h5:p.changes.length=0;rw[af h5]at h;exact absurd h dD;rw[aa h5]at h hE;by_cases h6:400<p.changes.length;rw[af h6]at h;exact absurd h dD;rw[aa h6]at h hE;exact⟨by simpa using h1,oO,oO,by simpa using h4,oO,Iw _ _ h,hE⟩
theorem sV {c:dH}(h:bN (fI c)=true)(h1:1<=c.kind)(h7:c.kind<=7):(c.kind=5->c.over=[])/\(c.kind≠5->c.lines=[]):=by simp only[bN,aR,decide_eq_true_eq]at h;obtain⟨-,-,-,-,-,-,-,-,hl,ho⟩:=h;refine⟨λe=>?_,λe=>?_⟩;rw[SC c e]at ho;exact ho;by_cases e1:c.kind=1;rw[Ez c e1]at hl;exact hl;by_cases e2:c.kind=2;rw[SA c e2]at hl;exact hl;by_cases e3:c.kind=3;rw[SB c e3]at hl;exact hl;by_cases e4:c.kind=4;rw[Nh c e4]at hl;exact hl;by_cases e6:c.kind=6;rw[SD c e6]at hl;exact hl;rw[It c oO]at hl;exact hl
def sA (p:iA):Bytes×Int:=if(eM p).2≠0 then([],(eM p).2)else if(eX (pI p)).length<=65536 then(eX (pI p),0)else([],4)
def mA (p:iA):Dg×Int:=if(sA p).2≠0 then(bg,(sA p).2)else(Sm (sA p).1,0)
def idR (x:Dg×Int):AV:=.eS [.agg (cD x.1),.int .i64 x.2]
theorem ZV {l:List Dg}:∀zs,zs∈l.map cD->zs.length=32:=by intro zs h;obtain⟨x,-,rfl⟩:=aB.1 h;rfl
def yH:List Dg->Dg->List Dg|[],x=>[x]|y::l,x=>if dA y x<0 then y::yH l x else if y=x then y::l else x::y::l
def bz (x:bB)(d:Dg):bB:=if x.p=bg/\0<=x.n then⟨d,x.n⟩else x
def st1 (d:Dg)(a:bO):bO:={a with id:=⟨d,a.id.n⟩}
def st2 (d:Dg)(a:bO):bO:=if a.kind≠7 then{a with file:=bz a.file d}else a
def Nj (d:Dg)(a:bO):bO:=if a.kind=2 then{a with parent:=bz a.parent d}else a
def Nk (d:Dg)(a:bO):bO:=if a.kind=6 then{a with fr:=bz a.fr d,to:=bz a.to d}else a
def UQ (d:Dg)(l:List bB):List bB:=(l.map λx=>bz x d).foldl Aj []
def ZW (d:Dg)(a:bO):bO:={a with over:=UQ d a.over}
def iT (d:Dg)(a:bO):bO:=ZW d (Nk d (Nj d (st2 d (st1 d a))))
theorem PO (d:Dg)(a:bO):(st2 d a).over=a.over:=by unfold st2;split<;>rfl
theorem PR (d:Dg)(a:bO):(Nj d a).over=a.over:=by unfold Nj;split<;>rfl
theorem PS (d:Dg)(a:bO):(Nk d a).over=a.over:=by unfold Nk;split<;>rfl
theorem ZX (l:List bB)(x:bB):(Aj l x).length<=l.length+1:=by
 induction l with
 |nil=>simp[Aj]
 |cons y l ih=>unfold Aj;split;simp only[aS];omega;split<;>simp
theorem yI:∀(l acc:List bB),(l.foldl Aj acc).length<=acc.length+l.length
 |[],acc=>by simp
 |x::l,acc=>by have h1:=yI l (Aj acc x);have h2:=ZX acc x;simp only[fc,aS];omega
theorem ac3 (d:Dg)(l:List bB):(UQ d l).length<=l.length:=by have :=yI (l.map λx=>bz x d) [];simpa[UQ]using this
def wB (p:iA):List bO×Int:=if(mA p).2≠0 then([],(mA p).2)else((eM p).1.map (iT (mA p).1),0)
def Kc (out:List Dg)(x:bB):List Dg:=if x.p=bg then out else yH out x.p
def refsOf (c:dH):List bB:=[c.file,c.parent,c.eH,c.eY]++c.over
def bU (p:iA):List Dg:=if(sA p).2≠0 then[]else(p.changes.flatMap refsOf).foldl Kc (p.deps.foldl yH [])
theorem PT (l:List Dg)(x:Dg):(yH l x).length<=l.length+1:=by
 induction l with
 |nil=>simp[yH]
 |cons y l ih=>unfold yH;split;simp only[aS];omega;split<;>simp
theorem yJ:∀(l acc:List Dg),(l.foldl yH acc).length<=acc.length+l.length
 |[],acc=>by simp
 |x::l,acc=>by have h1:=yJ l (yH acc x);have h2:=PT acc x;simp only[fc,aS];omega
theorem ZY (l:List Dg)(x:bB):(Kc l x).length<=l.length+1:=by unfold Kc;split;omega;exact PT l x.p
theorem yK:∀(l:List bB)(acc:List Dg),(l.foldl Kc acc).length<=acc.length+l.length
 |[],acc=>by simp
 |x::l,acc=>by have h1:=yK l (Kc acc x);have h2:=ZY acc x;simp only[fc,aS];omega
theorem yL {α β:Type}{f:α->List β}{l:List α}{k:Nat}(h:k<l.length):(l.take (k+1)).flatMap f=(l.take k).flatMap f++f l[k]:=by rw[<-me h,kD];simp
theorem UR {p:iA}(h:(sA p).2=0):OkP p/\sA p=(eX (pI p),0):=by unfold sA at h⊢;by_cases h1:(eM p).2≠0;rw[af h1]at h;exact absurd h h1;rw[aa h1]at h⊢;refine⟨yG (by simpa using h1),?_⟩;by_cases h2:(eX (pI p)).length<=65536;rw[af h2];rw[aa h2]at h;exact absurd h dD
theorem Dc {p:iA}(h:OkP p):p.deps.length<=100:=by have :=h.deps;unfold rj at this;by_cases g:100<p.deps.length;rw[af g]at this;exact absurd this dD;omega
theorem PU {p:iA}(h:OkP p){c:dH}(hc:c∈p.changes):c.over.length<=400:=by obtain⟨g1,g2,-,g4,g5,-⟩:=fZ (h.each c hc);by_cases e:c.kind=5;rw[(sV g5 g1 g2).1 e];exact zL;exact g4 e
theorem SF {p:iA}(h:OkP p){c:dH}(hc:c∈p.changes):(refsOf c).length<=404:=by have :=PU h hc;simp only[refsOf,ay,aS,bA];omega
theorem PV {p:iA}(h:OkP p):∀k,k<=p.changes.length->((p.changes.take k).flatMap refsOf).length<=404*k|0,_=>av _|k+1,hk=>by rw[yL hk,ay];have h1:=PV h k oO;have h2:=SF h (aT hk);omega
theorem SG {c:dH}(h:cF c=0)(f:Nat):∀a,a∈dI c f->a.over.length<=400:=by
 obtain⟨g1,g2,-,g4,g5,-⟩:=fZ h;have Ke:c.over.length<=400:=by by_cases e:c.kind=5;rw[(sV g5 g1 g2).1 e];exact zL;exact g4 e
 intro a ha;unfold dI at ha;by_cases e:c.kind=5;rw[af e]at ha;rcases bf.1 ha with ha|ha;obtain⟨i,-,rfl⟩:=aB.1 ha;exact zL;obtain⟨i,-,rfl⟩:=aB.1 ha;exact zL;rw[aa e]at ha;obtain rfl:=aL.1 ha;unfold kG;repeat' split
 all_goals first|exact Ke|exact zL
theorem yM:∀(l:List dH)(own:List bO),(∀a,a∈own->a.over.length<=400)->(kH l own).1.length<=own.length+4001*l.length/\∀a,a∈(kH l own).1->a.over.length<=400
 |[],own,h=>⟨av _,h⟩
 |c::l,own,h=>by
  rw[kU];by_cases h1:cF c≠0;rw[af h1];exact⟨zL,λa ha=>by cases ha⟩;rw[aa h1];by_cases h2:oa c own≠0;rw[af h2];exact⟨zL,λa ha=>by cases ha⟩;rw[aa h2];have h1:cF c=0:=by simpa using h1
  obtain⟨g1,g2⟩:=yM l (own++dI c own.length) λa ha=>by rcases bf.1 ha with ha|ha;exact h a ha;exact SG h1 _ a ha
  refine⟨?_,g2⟩;have :=Db h1 own.length;simp only[ay,aS]at g1⊢;omega
theorem Lc:∀(l:List dH)(own:List bO),(kH l own).2≠0->(kH l own).1=[]|[],own,h=>absurd rfl h|c::l,own,h=>by rw[kU]at h⊢;by_cases h1:cF c≠0;rw[af h1];rw[aa h1]at h⊢;by_cases h2:oa c own≠0;rw[af h2];rw[aa h2]at h⊢;exact Lc l _ h
theorem SH {p:iA}(h:(eM p).2≠0):(eM p).1=[]:=by unfold eM at h⊢;by_cases h1:iq p.ja=false;rw[af h1];rw[aa h1]at h⊢;by_cases h2:1000<p.message.length;rw[af h2];rw[aa h2]at h⊢;by_cases h3:p.time<0\/1099511627776<p.time;rw[af h3];rw[aa h3]at h⊢;by_cases h4:rj p.deps≠0;rw[af h4];rw[aa h4]at h⊢;by_cases h5:p.changes.length=0;rw[af h5];rw[aa h5]at h⊢;by_cases h6:400<p.changes.length;rw[af h6];rw[aa h6]at h⊢;exact Lc _ _ h
theorem Dd (p:iA):(eM p).1.length<=2^22/\∀a,a∈(eM p).1->a.over.length<=400:=by
 by_cases h:(eM p).2=0;have ho:=yG h;rw[ho.all];obtain⟨g1,g2⟩:=yM p.changes [] λa ha=>by cases ha
 refine⟨?_,g2⟩;have :=ho.changes.2;simp only[bA]at g1;omega;have :(eM p).1=[]:=SH h;rw[this];exact⟨zL,λa ha=>by cases ha⟩
structure WI (p:iA):Prop where
 sz:SzP p
 enc:OkP p->OkX (pI p)
structure akF (s:List fk):Prop where
 len:s.length<=2^47
 each:∀x,x∈s->WI x.pat
def US:iA:=⟨[],[],0,[],[]⟩
theorem SI (l:List Dg)(x:Dg)(hl:l.length<=2^47):au C 63 [.sl (tK l),.agg (cD x)] (λr=>r=.val (.bool (decide (x∈l)))):=by
 unfold tK;refine aq Tryz.func63 rfl rfl rfl (bW 18 (λk:Nat=>[(0,.p (.sl (l.map cD))),(3,.ptr 3 0),(5,.p (.int .i64 k))]) (λ_=>[(3,aI (cD x))]) (λk=>k<=l.length/\x∉l.take k) (λk=>l.length-k) 0 ⟨zL,by simp⟩ rfl wS oS ?_);rintro k ⟨hk,hn⟩;refine cu (λhlt=>?_) (λhge=>?_);refine cw 5 kK (ix hlt ⟨vp,cR,uf,rfl,rfl,CR (a:=l[k]) (b:=x) ?_⟩);by_cases h:l[k]=x;rw[ai h];have :x∈l:=h▸aT hlt;show fN.val (.bool true)=_;simp[this];rw[ah h];exact nx (k+1) (aU (k+1) ⟨hlt,sw hlt hn h⟩ oO rfl wS oS);have :x∉l:=by rw[fe oO]at hn;exact hn
 show fN.val (.bool false)=_;simp[this]
def uW:List fk->Dg->iA×Bool|[],_=>(US,false)|x::s,d=>if x.id=d then(x.pat,true)else uW s d
def gO (s:List fk):List Dg:=s.map λx=>x.id
def oM (l some:List Dg):Bool:=some.all λx=>decide (x∈l)
theorem Lp:∀a:Bytes,cmpL a a=0|[]=>rfl|x::a=>by show(if x.toNat<x.toNat then-1 else if x.toNat<x.toNat then 1 else cmpL a a)=(0:Int);rw[aa (wJ _),aa (wJ _)];exact Lp a
theorem age {x y:UInt8}(h1:¬x.toNat<y.toNat)(h2:¬y.toNat<x.toNat):x=y:=UInt8.toNat_inj.1 oO
theorem Lq:∀{a b:Bytes},cmpL a b=0->a=b|[],[],_=>rfl|[],_::_,h=>absurd h (show¬(-1:Int)=0 by decide)|_::_,[],h=>absurd h (show¬(1:Int)=0 by decide)|x::a,y::b,h=>by have h:(if x.toNat<y.toNat then-1 else if y.toNat<x.toNat then 1 else cmpL a b)=(0:Int):=h;by_cases h1:x.toNat<y.toNat;rw[af h1]at h;exact absurd h dD;rw[aa h1]at h;by_cases h2:y.toNat<x.toNat;rw[af h2]at h;exact absurd h dD;rw[aa h2]at h;rw[age h1 h2,Lq h]
theorem Lr:∀a b:Bytes,cmpL b a=-cmpL a b|[],[]=>rfl|[],_::_=>rfl|_::_,[]=>rfl|x::a,y::b=>by show(if y.toNat<x.toNat then-1 else if x.toNat<y.toNat then 1 else cmpL b a)=-(if x.toNat<y.toNat then-1 else if y.toNat<x.toNat then 1 else cmpL a b);by_cases h1:x.toNat<y.toNat;rw[af h1,af h1,aa oO];rfl;rw[aa h1,aa h1];by_cases h2:y.toNat<x.toNat;rw[af h2,af h2];rw[aa h2,aa h2];exact Lr a b
theorem IJ:∀{a b c:Bytes},cmpL a b<0->cmpL b c<0->cmpL a c<0
 |[],[],_,h,_=>absurd h dD
 |[],_::_,[],_,h=>absurd h (by show¬(1:Int)<0;decide)
 |[],_::_,_::_,_,_=>by show(-1:Int)<0;decide
 |_::_,[],_,h,_=>absurd h (by show¬(1:Int)<0;decide)
 |_::_,_::_,[],_,h=>absurd h (by show¬(1:Int)<0;decide)
 |x::a,y::b,z::c,h1,h2=>by have h1:(if x.toNat<y.toNat then-1 else if y.toNat<x.toNat then 1 else cmpL a b)<(0:Int):=h1;have h2:(if y.toNat<z.toNat then-1 else if z.toNat<y.toNat then 1 else cmpL b c)<(0:Int):=h2;show(if x.toNat<z.toNat then-1 else if z.toNat<x.toNat then 1 else cmpL a c)<(0:Int);by_cases k1:x.toNat<y.toNat;by_cases k2:y.toNat<z.toNat;rw[af oO];decide;rw[aa k2]at h2;by_cases k3:z.toNat<y.toNat;rw[af k3]at h2;exact absurd h2 dD;rw[af oO];decide;rw[aa k1]at h1;by_cases k4:y.toNat<x.toNat;rw[af k4]at h1;exact absurd h1 dD;rw[aa k4]at h1;by_cases k2:y.toNat<z.toNat;rw[af oO];decide;rw[aa k2]at h2;by_cases k3:z.toNat<y.toNat;rw[af k3]at h2;exact absurd h2 dD;rw[aa k3]at h2;rw[aa oO,aa oO];exact IJ h1 h2
theorem qC (a:Dg):dA a a=0:=Lp _
theorem jU {a b:Dg}(h:dA a b=0):a=b:=wu (Lq h)
theorem lF (a b:Dg):dA b a=-dA a b:=Lr _ _
theorem ic {a b c:Dg}(h1:dA a b<0)(h2:dA b c<0):dA a c<0:=IJ h1 h2
theorem iu (a:Dg):¬dA a a<0:=by rw[qC];decide
theorem WY (a:bB):gq a a=0:=by unfold gq;rw[qC];simp
theorem vb {a b:bB}(h:gq a b=0):a=b:=by unfold gq at h;by_cases h1:dA a.p b.p≠0;rw[af h1]at h;exact absurd h h1;rw[aa h1]at h;have h1:a.p=b.p:=jU (cK.1 h1);by_cases h2:a.n<b.n;rw[af h2]at h;exact absurd h dD;rw[aa h2]at h;by_cases h3:b.n<a.n;rw[af h3]at h;exact absurd h dD;cases a;cases b;simp only[bB.mk.injEq];exact⟨h1,by show _=_;simp only at h2 h3;omega⟩
theorem nB (a b:bB):gq b a=-gq a b:=by unfold gq;rw[lF a.p b.p];by_cases h1:dA a.p b.p=0;rw[aa (show¬(-dA a.p b.p≠0)by omega),aa (show¬(dA a.p b.p≠0)by omega)];by_cases h2:a.n<b.n;rw[af h2,af h2,aa oO];rfl;rw[aa h2,aa h2];by_cases h3:b.n<a.n;rw[af h3,af h3];rw[aa h3,aa h3];rfl;rw[af (show-dA a.p b.p≠0 by omega),af h1]
theorem oA {a b c:bB}(h1:gq a b<0)(h2:gq b c<0):gq a c<0:=by unfold gq at*;by_cases k1:dA a.p b.p=0;rw[aa (λg=>g k1)]at h1;have e1:=jU k1;rw[e1];by_cases k2:dA b.p c.p=0;rw[aa (λg=>g k2)]at h2⊢;by_cases q1:a.n<b.n;by_cases q2:b.n<c.n;rw[af oO];decide;rw[aa q2]at h2;by_cases q3:c.n<b.n;rw[af q3]at h2;exact absurd h2 dD;rw[aa q3]at h2;exact absurd h2 dD;rw[aa q1]at h1;by_cases q3:b.n<a.n;rw[af q3]at h1;exact absurd h1 dD;rw[aa q3]at h1;exact absurd h1 dD;rw[af k2]at h2⊢;exact h2;rw[af k1]at h1;by_cases k2:dA b.p c.p=0;rw[<-jU k2,af k1];exact h1;rw[af k2]at h2;have :=ic h1 h2;rw[af oO];exact this
theorem mT (a:bB):¬gq a a<0:=by rw[WY];decide
abbrev Ko (l:List Dg):Prop:=l.Pairwise λa b=>dA a b<0
abbrev IK (l:List bB):Prop:=l.Pairwise λa b=>gq a b<0
theorem IL {l:List Dg}{x y:Dg}:y∈yH l x↔y=x\/y∈l:=by
 induction l with
 |nil=>simp[yH]
 |cons z l ih=>unfold yH;split;rw[aC,ih,aC];constructor;rintro(h|h|h);exact .inr (.inl h);exact .inl h;exact .inr (.inr h);rintro(h|h|h);exact .inr (.inl h);exact .inl h;exact .inr (.inr h);split;rename_i h;subst h;simp;simp[aC]
theorem Qs {l:List Dg}(h:Ko l)(x:Dg):Ko (yH l x):=by
 induction l with
 |nil=>simp[yH]
 |cons z l ih=>
  obtain⟨h1,h2⟩:=ct.1 h;unfold yH;split;rename_i hz;refine ct.2 ⟨λy hy=>?_,ih h2⟩;rcases IL.1 hy with rfl|hy;exact hz;exact h1 y hy;split;exact h;rename_i hz hne;have hx:dA x z<0:=by have :=lF z x;have :dA z x≠0:=λe=>hne (jU e);omega
  refine ct.2 ⟨λy hy=>?_,h⟩;rcases aC.1 hy with rfl|hy;exact hx;exact ic hx (h1 y hy)
theorem Qt {l:List bB}{x y:bB}:y∈Aj l x↔y=x\/y∈l:=by
 induction l with
 |nil=>simp[Aj]
 |cons z l ih=>unfold Aj;split;rw[aC,ih,aC];constructor;rintro(h|h|h);exact .inr (.inl h);exact .inl h;exact .inr (.inr h);rintro(h|h|h);exact .inr (.inl h);exact .inl h;exact .inr (.inr h);split;rename_i h;subst h;simp;simp[aC]
theorem aaB {l:List bB}(h:IK l)(x:bB):IK (Aj l x):=by
 induction l with
 |nil=>simp[Aj]
 |cons z l ih=>
  obtain⟨h1,h2⟩:=ct.1 h;unfold Aj;split;rename_i hz;refine ct.2 ⟨λy hy=>?_,ih h2⟩;rcases Qt.1 hy with rfl|hy;exact hz;exact h1 y hy;split;exact h;rename_i hz hne;have hx:gq x z<0:=by have :=nB z x;have :gq z x≠0:=λe=>hne (vb e);omega
  refine ct.2 ⟨λy hy=>?_,h⟩;rcases aC.1 hy with rfl|hy;exact hx;exact oA hx (h1 y hy)
theorem WZ {l acc:List Dg}{y:Dg}:y∈l.foldl yH acc↔y∈l\/y∈acc:=by
 induction l generalizing acc with
 |nil=>simp
 |cons x l ih=>rw[fc,ih,IL,aC];constructor;rintro(h|h|h);exact .inl (.inr h);exact .inl (.inl h);exact .inr h;rintro((h|h)|h);exact .inr (.inl h);exact .inl h;exact .inr (.inr h)
theorem Xa {l acc:List Dg}(h:Ko acc):Ko (l.foldl yH acc):=by
 induction l generalizing acc with
 |nil=>exact h
 |cons x l ih=>exact ih (Qs h x)
theorem Ls {l acc:List bB}{y:bB}:y∈l.foldl Aj acc↔y∈l\/y∈acc:=by
 induction l generalizing acc with
 |nil=>simp
 |cons x l ih=>rw[fc,ih,Qt,aC];constructor;rintro(h|h|h);exact .inl (.inr h);exact .inl (.inl h);exact .inr h;rintro((h|h)|h);exact .inr (.inl h);exact .inl h;exact .inr (.inr h)
theorem Lt {l acc:List bB}(h:IK acc):IK (l.foldl Aj acc):=by
 induction l generalizing acc with
 |nil=>exact h
 |cons x l ih=>exact ih (aaB h x)
theorem Br {α:Type}(lt:α->α->Prop)(ir:∀a,¬lt a a)(tr:∀a b c,lt a b->lt b c->lt a c):∀{l m:List α},l.Pairwise lt->m.Pairwise lt->(∀x,x∈l↔x∈m)->l=m
 |[],[],_,_,_=>rfl
 |[],y::m,_,_,h=>by have :=(h y).2 (by simp);cases this
 |x::l,[],_,_,h=>by have :=(h x).1 (by simp);cases this
 |x::l,y::m,h1,h2,h=>by
  obtain⟨a1,a2⟩:=ct.1 h1;obtain⟨b1,b2⟩:=ct.1 h2;have e:x=y:=by rcases aC.1 ((h x).1 (by simp))with e|hx;exact e;rcases aC.1 ((h y).2 (by simp))with e|hy;exact e.symm;exact absurd (tr _ _ _ (a1 y hy) (b1 x hx)) (ir x)
  subst e;rw[Br lt ir tr a2 b2 λz=>?_];constructor;intro hz;rcases aC.1 ((h z).1 (cg _ hz))with rfl|hm;exact absurd (a1 z hz) (ir z);exact hm;intro hz;rcases aC.1 ((h z).2 (cg _ hz))with rfl|hm;exact absurd (b1 z hz) (ir z);exact hm
theorem Qu {l m:List Dg}(h1:Ko l)(h2:Ko m)(h:∀x,x∈l↔x∈m):l=m:=Br (λa b=>dA a b<0) iu (λ_ _ _=>ic) h1 h2 h
theorem FL {l m:List bB}(h1:IK l)(h2:IK m)(h:∀x,x∈l↔x∈m):l=m:=Br (λa b=>gq a b<0) mT (λ_ _ _=>oA) h1 h2 h
def AK (l:List Dg):List Dg:=l.mergeSort λx y=>!decide (dA y x<0)
def tD (l:List bB):List bB:=l.mergeSort λx y=>!decide (gq y x<0)
theorem Xb {l:List Dg}{x:Dg}:x∈AK l↔x∈l:=Dq
theorem Xc {l:List bB}{x:bB}:x∈tD l↔x∈l:=Dq
theorem SZ (l:List Dg):(AK l).Pairwise λa b=>¬dA b a<0:=by
 have :=Dr (le:=λx y:Dg=>!decide (dA y x<0)) (λa b c h1 h2=>by
  simp only[cE,decide_eq_false_iff_not]at*;intro h;by_cases e:dA b a=0;rw[jU e]at h2;exact h2 h;have :=lF a b;have h3:dA a b<0:=oO
  exact h2 (ic h h3)) (λa b=>by simp only[kr,cE,decide_eq_false_iff_not];have :=lF a b;omega) l;exact this.imp λ{a b} h=>by simpa using h
theorem Ta (l:List bB):(tD l).Pairwise λa b=>¬gq b a<0:=by
 have :=Dr (le:=λx y:bB=>!decide (gq y x<0)) (λa b c h1 h2=>by
  simp only[cE,decide_eq_false_iff_not]at*;intro h;by_cases e:gq b a=0;rw[vb e]at h2;exact h2 h;have :=nB a b;have h3:gq a b<0:=oO
  exact h2 (oA h h3)) (λa b=>by simp only[kr,cE,decide_eq_false_iff_not];have :=nB a b;omega) l;exact this.imp λ{a b} h=>by simpa using h
theorem Xd {l:List bB}(h:l.Nodup):IK (tD l):=by have h1:=Ta l;have h2:(tD l).Nodup:=(List.mergeSort_perm l _).nodup_iff.2 h;refine(h1.and h2).imp λ{a b} h=>?_;have :=nB a b;have :gq a b≠0:=λe=>h.2 (vb e);omega
theorem Tb {l:List bB}(h:l.Nodup):tD l=l.foldl Aj []:=FL (Xd h) (Lt List.Pairwise.nil) λx=>by rw[Xc,Ls];simp
def cT:List Dg->List Dg|[]=>[]|[x]=>[x]|x::y::l=>if x=y then cT (y::l)else x::cT (y::l)
theorem zO {x:Dg}:∀{l:List Dg},x∈cT l↔x∈l|[]=>Iff.rfl|[y]=>Iff.rfl|y::z::l=>by unfold cT;split;rename_i h;subst h;rw[zO];simp;rw[aC,zO,aC (l:=z::l)]
theorem EG:∀{l:List Dg},l.Pairwise (λa b=>¬dA b a<0)->Ko (cT l)
 |[],_=>List.Pairwise.nil
 |[y],_=>by simp[cT]
 |y::z::l,h=>by
  obtain⟨h1,h2⟩:=ct.1 h;unfold cT;split;exact EG h2;rename_i hne;refine ct.2 ⟨λx hx=>?_,EG h2⟩;have hyz:dA y z<0:=by have :=h1 z (by simp);have :=lF z y;have :dA y z≠0:=λe=>hne (jU e);omega
  rcases aC.1 (zO.1 hx)with rfl|hx;exact hyz;have :=(ct.1 h2).1 x hx;by_cases e:dA x z=0;rw[jU e];exact hyz;have e2:=lF x z;exact ic hyz oO
theorem Ds {C:Ctx}{S:ag}{dst:Option Nat}{g:FuncId}{o:Nat}{T:TypeId}{bI:Nat}{rest cells:List FV}{zs xs:List AV}{K:ag->Prop}{R:Bool->List AV->Prop}(h1:Ad S.aD o=some cells)(h2:FV.fQ rest=some xs)(h3:FV.fQ cells=some zs)(hc:VI C g T bI zs xs R)(hk:∀r ys,R r ys->Yp S dst o T bI r ys K):Oj C S dst g (.fT o T bI::rest) K:=by unfold Oj;simp only[h1,h2,h3];exact⟨R,hc,hk⟩
theorem uk {l:List Dg}:∀ys,ys∈tK l->ys.length=32/\∀y,y∈ys->y.one=true:=by intro ys h;obtain⟨x,-,rfl⟩:=aB.1 h;exact⟨rfl,λy hy=>br.1 (show(cD x).all AV.one=true from rfl) y hy⟩
def cM (l:List Dg):List FV:=aI (tK l).flatten
theorem dz (l:List Dg):(cM l).length=l.length*32:=by unfold cM;rw[iQ,gG (e:=32) λzs h=>(uk zs h).1];simp[tK]
theorem jI (a b:List Dg):cM (a++b)=cM a++cM b:=by unfold cM tK;rw[aF,sD,er,er,er,aF]
theorem Dt (a:Dg):cM [a]=aI (cD a):=by unfold cM tK;simp
theorem qD (a:Dg)(l:List Dg):cM (a::l)=aI (cD a)++cM l:=by rw[<-pq,jI,Dt]
theorem mU (l:List Dg)(k:Nat):FV.dJ k (cM l)=cM l:=iZ k _
theorem EH (l:List Dg)(d:Dg)(o:Nat):FV.dJ o (cM l++aI [cD d].flatten)=cM (l++[d]):=by rw[show cM l++aI [cD d].flatten=cM (l++[d])from by rw[jI,Dt];simp];exact mU _ _
theorem Lu (a b:List Dg):(cM a++cM b).take (a.length*32)=cM a:=by rw[rS (by rw[dz];exact av _),fe (by rw[dz];exact av _)]
theorem GK {l:List Dg}{k:Nat}(h:k<l.length):cM l=cM (l.take k)++(aI (cD l[k])++cM (l.drop (k+1))):=by rw[<-qD,<-bM h,<-jI,dU]
theorem Qw {aD:List (Nat×List FV)}{o:Nat}{l:List Dg}(k:Nat)(h:Qv.getObj aD o=some (FV.dJ k (cM l))):∃ys,Qv.getObj aD o=some ys/\ys.length=(cM l).length/\∀(i:Nat)(x y:FV),ys[i]?=some x->(cM l)[i]?=some y->bt x y:=by rw[mU]at h;exact aA h
theorem agf (x:Dg):ady (cD x):=by intro y hy;have :=br.1 (show(cD x).all (λy=>match y with|.int _ _=>true|_=>false)=true from rfl) y hy;cases y<;>first|exact⟨_,_,rfl⟩|cases this
theorem akW:Sort.SWO (Proofs.ltOf dA):=⟨λx=>by unfold Proofs.ltOf;exact ah (iu x),λx y z h1 h2=>by unfold Proofs.ltOf at*;exact ai (ic (cL h1) (cL h2)),λx y z h1 h2=>by
 unfold Proofs.ltOf at*;refine ah λh=>?_;have h1:=pN h1;have h2:=pN h2;by_cases e:dA y x=0;rw[jU e]at h2;exact h2 h;have :=lF x y;have h3:dA y x<0:=oO
 exact h2 (ic h3 h)⟩
theorem IM (Cx:Ctx)(hP:Cx.P=Tryz.prog)(l:List Dg)(hl:l.length<=2^40):VI Cx 114 33 32 (tK l).flatten [.fn (.func 75) [] []] (λr ys=>r=false/\ys=(tK (AK l)).flatten):=EF cD 32 (λ_=>rfl) agf Tryz.sortD239 dD Tryz.isAgg33 Tryz.sizeOf33 dA akW (λx y h1 h2=>by have :=lF x y;exact jU oO) 75 (enters_of Tryz.func75 kK rfl) WX Cx hP ⟨_,Tryz.func114,rfl,rfl⟩ 33 l oO
theorem Lv (l:List Dg):(AK l).length=l.length:=Dp _
def aio (l:List bO):Prop:=∀(i j:Nat)(hi:i<j)(hj:j<l.length),gq (l[i]'oO).id l[j].id<0
section
variable (l:List bO)(hs:aio l)(hl:l.length<=2^40)
include hs hl
end
end Qv
