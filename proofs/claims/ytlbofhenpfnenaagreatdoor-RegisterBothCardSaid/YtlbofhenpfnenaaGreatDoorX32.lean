/- Part 39 of the proof: its lemmas. No condition. -/
import Derived.Test.YtlbofhenpfnenaaGreatDoorX9
import Derived.Test.YtlbofhenpfnenaaGreatDoorX25
import Derived.Test.YtlbofhenpfnenaaGreatDoorX28
import Derived.Test.YtlbofhenpfnenaaGreatDoorX29
set_option maxRecDepth 10000
set_option maxHeartbeats 80000000
set_option linter.all false
open Go Go.Proofs Go.RowKit
namespace Qv
def cX1:ew:=⟨1,aT,1,aT,[],0,[],aT,aT,[],[]⟩
def cX3:ew:=⟨3,aT,0,aT,[],420,[],aT,aT,[],[]⟩
def pA:fW:=⟨[97,110,110],[],0,[],[cX1,cX3]⟩
def dA:Dg:=⟨[160,106,104,240,57,97,91,16,176,25,50,185,85,229,48,181,189,223,53,124,235,164,54,255,44,53,61,120,240,173,229,243],rfl⟩
def pB:fW:=dF ⟨dA,0⟩ 493 1 [⟨dA,1⟩]
def dB:Dg:=⟨[151,208,136,182,187,212,76,247,16,24,48,160,94,212,99,129,50,158,7,246,217,108,91,194,29,39,69,44,0,150,19,228],rfl⟩
def pC:fW:=dF ⟨dA,0⟩ 511 2 [⟨dA,1⟩]
def dC:Dg:=⟨[239,82,228,151,204,79,186,248,96,92,196,232,5,98,183,44,77,223,70,113,42,92,202,169,137,91,57,217,119,231,180,56],rfl⟩
def sA:List bK:=[⟨dA,pA⟩]
def sB:List bK:=[⟨dB,pB⟩,⟨dA,pA⟩]
def sC:List bK:=[⟨dB,pB⟩,⟨dA,pA⟩,⟨dC,pC⟩]
def lA:List bw:=(cn pA).1.map (fD dA)
def lB:List bw:=(cn pB).1.map (fD dB)
def lC:List bw:=(cn pC).1.map (fD dC)
theorem acY {p:fW}{e:Bytes}{d:Dg}(h:mP p=(e,0))(hs:ajJ e=d.1):mL p=(d,0):=by unfold mL;rw[h,aa (λg=>g rfl)];exact aS (λz:Dg=>(z,(0:Int))) (Subtype.ext ((ajK e).trans hs))
theorem OM {p:fW}(h:(mP p).2=0):mP p=((mP p).1,0):=by rw[<-h]
theorem idA:mL pA=(dA,0):=acY (OM kK) kK
theorem idB:mL pB=(dB,0):=acY (OM kK) kK
theorem idC:mL pC=(dC,0):=acY (OM kK) kK
theorem JG {p:fW}{d:Dg}(h:mL p=(d,0)):(dx p).1=(cn p).1.map (fD d):=by unfold dx;rw[h,aa (λg=>g rfl)]
theorem atA:(dx pA).1=lA:=JG idA
theorem atB:(dx pB).1=lB:=JG idB
theorem atC:(dx pC).1=lC:=JG idC
theorem St {s:List bK}{x:bf}{p:fW}{l:List bw}(hg:(gh s x.p).1=p)(ha:(dx p).1=l)(h:¬(x.n<0\/(l.length:Int)<=x.n)):ij s x=(l.getD x.n.toNat hU,true):=by unfold ij;rw[hg,ha,aa h]
theorem acZ {s:List bK}(hg:(gh s dA).1=pA)(mode time:Int)(d:Dg):ux s (dF ⟨dA,0⟩ mode time [⟨dA,1⟩]) d=0:=by
 have h0:ij s ⟨dA,0⟩=(lA.getD 0 hU,true):=St hg atA dD;have h1:ij s ⟨dA,1⟩=(lA.getD 1 hU,true):=St hg atA dD;have ho:XF s (oQ ⟨dA,0⟩ mode [⟨dA,1⟩]) d ⟨dA,1⟩=0:=by unfold XF;rw[h1];kernel_rfl
 show ep ([Zb s (oQ ⟨dA,0⟩ mode [⟨dA,1⟩]) d]++[])=0;have hc:Zb s (oQ ⟨dA,0⟩ mode [⟨dA,1⟩]) d=0:=by show ep ((if dA=bz then 0 else if(ij s ⟨dA,0⟩).2=false then 7 else if ej 3 (ij s ⟨dA,0⟩).1=false then 8 else 0)::0::0::0::([XF s (oQ ⟨dA,0⟩ mode [⟨dA,1⟩]) d ⟨dA,1⟩]++[]))=0;rw[ho,h0];kernel_rfl
 rw[hc];rfl
theorem UP {s:List bK}{p:fW}{d:Dg}(hi:mL p=(d,0))(hg:(gh s d).2=false)(hn:sP (dJ s) (cu p)=true)(hr:ux s p d=0)(hl:s.length<400):kJ s p=(lI s ⟨d,p⟩,d,0):=by unfold kJ;rw[hi,aa (λg=>g rfl),hg,aa dD,hn,aa dD,hr,aa (λg=>g rfl),aa oO]
theorem ahN:kJ [] pA=(sA,dA,0):=(UP idA rfl kK kK dD).trans rfl
theorem ahO:kJ sA pB=(sB,dB,0):=(UP idB kK kK (acZ kK _ _ _) dD).trans (aS (λz:List bK=>(z,dB,(0:Int))) kK)
theorem ahP:kJ sB pC=(sC,dC,0):=(UP idC kK kK (acZ kK _ _ _) dD).trans (aS (λz:List bK=>(z,dC,(0:Int))) kK)
theorem UQ (c:ew)(h1:c.name=[])(h2:c.data=[])(h3:c.lines=[])(h4:c.over.length<=1):SzC c:=by refine⟨by rw[h1];exact zL,by rw[h2];exact zL,?_,oO⟩;rw[h3];exact⟨zL,λx h=>by cases h⟩
theorem ajM:zy pA:=GF ⟨dD,dD,dD,dD,λc hc=>by rcases aG.1 hc with rfl|hc;exact UQ _ rfl rfl rfl dD;obtain rfl:=aO.1 hc;exact UQ _ rfl rfl rfl dD⟩ (TL kK)
theorem afw (file:bf)(mode time:Int)(x:bf):zy (dF file mode time [x]):=GF ⟨by show(3:Nat)<=_;decide,by show(0:Nat)<=_;decide,by show(0:Nat)<=_;decide,by show(1:Nat)<=_;decide,λc hc=>by obtain rfl:=aO.1 hc;exact UQ _ rfl rfl rfl (ay 1)⟩ (TL kK)
theorem ajN:jM []:=⟨⟨zL,λx h=>by cases h⟩,ab6 kK,λx h=>by cases h⟩
theorem ahQ:jM sA:=by have :=(GM ajN ajM (bH (JF kK) dD) (by rw[ahN])).1;rwa[ahN]at this
theorem ajO:jM sB:=by have :=(GM ahQ (p:=pB) (afw _ _ _ _) (bH (JF kK) dD) (by rw[ahO])).1;rwa[ahO]at this
theorem ahR:jM sC:=by have :=(GM ajO (p:=pC) (afw _ _ _ _) (bH (JF kK) dD) (by rw[ahP])).1;rwa[ahP]at this
theorem Ww:cq sA=lA:=by show(dx (gh sA dA).1).1++[]=lA;rw[show(gh sA dA).1=pA from kK,atA,bg]
theorem afx:pL sA=jr lA:=by show jr (fu sA (bB sA))=_;rw[show bB sA=[dA]from kK];exact aS jr Ww
theorem Wx:cq sC=lB++(lA++(lC++[])):=by show(dx (gh sC dB).1).1++((dx (gh sC dA).1).1++((dx (gh sC dC).1).1++[]))=_;rw[show(gh sC dB).1=pB from kK,show(gh sC dA).1=pA from kK,show(gh sC dC).1=pC from kK,atA,atB,atC]
theorem Wy:pL sC=jr (lA++(lB++(lC++[]))):=by show jr (fu sC (bB sC))=_;rw[show bB sC=[dA,dB,dC]from kK];refine aS jr ?_;show(dx (gh sC dA).1).1++((dx (gh sC dB).1).1++((dx (gh sC dC).1).1++[]))=_;rw[show(gh sC dB).1=pB from kK,show(gh sC dA).1=pA from kK,show(gh sC dC).1=pC from kK,atA,atB,atC]
def al3 (all eff:List bw):List bf:=(all.filter λa=>decide ((sr eff a.id).length=0)).map λa=>a.id
theorem ON (s:List bK):lu s=al3 (cq s) (pL s):=rfl
theorem ac0:zC sA ⟨dA,0⟩=420:=by unfold zC cR;rw[ON,Ww,afx];kernel_rfl
theorem Wz:∃a b,cR sC ⟨dA,0⟩ 3=[a,b]/\a.mode=493:=by unfold cR;rw[ON,Wx,Wy];exact⟨(lB.getD 0 hU),(lC.getD 0 hU),kK,kK⟩
theorem ac1:zC sC ⟨dA,0⟩=493:=by obtain⟨a,b,h,hm⟩:=Wz;unfold zC;rw[h];exact hm
theorem afy:oW sC 2=[⟨9,⟨dA,0⟩,[⟨dB,0⟩,⟨dC,0⟩]⟩]:=by unfold oW Wk AK mX;rw[ON,Wx,Wy];kernel_rfl
end Qv
