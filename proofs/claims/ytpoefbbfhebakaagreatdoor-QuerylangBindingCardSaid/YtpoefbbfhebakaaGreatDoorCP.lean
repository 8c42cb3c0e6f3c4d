/- Several texts in one: The language of queries: the contracts of the reader's binary and what follows. No condition. -/
import Derived.Test.YtpoefbbfhebakaaGreatDoorCO
set_option linter.unusedVariables false
set_option linter.unusedSimpArgs false

section
open Go Go.Proofs Go.RowKit
namespace Qv
def Rr (s : Bytes) (res : PR (Bytes × Bytes)) (r : AV) (ys : List AV) : Prop := ∃ q l,res = .ok q l ∧ r = .agg (encQy q) ∧ ys = hcells s l
def Xr (s : Bytes) (res : PR (Bytes × Bytes)) (v : Value) : Prop := ∃ a,res = .err a ∧ v = pval (offT s a)
def RecC (s : Bytes) (g : FuncId) (m : Md) (f : Nat) : Prop := ∀ l res,GL s l → goT f m l = some res → ObjToP C g (hcells s l) [] (Rr s res) (Xr s res)
theorem hasO_q {objs : List (Nat × List FV)} {o : Nat} {d : FV} {k : Int} {t : Bytes} {n : Int} {rows : List (List AV)} (h : Qv.getObj objs o = some [.p (.int .i64 k),.p (.str t),.p (.int .i64 n),d]) (hd : Weak d (.p (.sl rows))) :
 ∃ ys,Qv.getObj objs o = some ys ∧ ys.length = (mapP [.int .i64 k,.str t,.int .i64 n,.sl rows]).length ∧ ∀ (i : Nat) (x y : FV),ys[i]? = some x → (mapP [.int .i64 k,.str t,.int .i64 n,.sl rows])[i]? = some y → Weak x y := by
 refine ⟨_,h,rfl,fun i x y hx hy => ?_⟩
 match i,hx,hy with
 | 0,hx,hy => cases hx; cases hy; exact wR
 | 1,hx,hy => cases hx; cases hy; exact wR
 | 2,hx,hy => cases hx; cases hy; exact wR
 | 3,hx,hy => cases hx; cases hy; exact hd
set_option maxHeartbeats 1000000 in
theorem binary10_ok (s : Bytes) (hs : s.length ≤ 2 ^ 30) (f : Nat) (U : RecC s 174 .unit f) : ∀ l res,GL s l → bindT (goT f .unit l) (fun q l => goT f (.andL q) l) = some res →
 ObjToP C 154 (hcells s l) [.p (.int .i64 10),.fn (.func 174) [.ptr 999999 0] []] (Rr s res) (Xr s res) := by
 intro l res hl hres
 obtain ⟨e,l,rfl,hbad⟩ := hl.2
 have hU := fun res => U (e :: l) res hl
 refine objToP_of_evO _ [174,173] ⟨[],[],false,[],[],[]⟩ [] Tryz.func154 rfl rfl rfl ?_
 cases hr0 : goT f .unit (e :: l) with
 | none => rw [hr0] at hres; cases hres
 | some r0 =>
 rw [hr0] at hres
 refine ⟨rfl,rfl,rfl,rfl,_,_,(hU r0 hr0).opn,?_,?_⟩
 rotate_left
 ·rintro v ⟨a,rfl,rfl⟩
  have hres : some (PR.err a) = some res := hres
  exact ⟨a,(Option.some.inj hres).symm,rfl⟩
 rintro r ys ⟨⟨k1,t1,n1,q1⟩,l1,rfl,rfl,rfl⟩
 have hres : goT f (.andL (.mk k1 t1 n1 q1)) l1 = some res := hres
 have hg1 := goT_gl _ _ _ _ _ hl hr0
 clear hr0 hU hl hbad
 obtain ⟨e1,l1,rfl,hbad1⟩ := hg1.2
 refine loopR 22 (fun x : Nat × (Int × Bytes × Int × List Qy) × (Tk × (Bytes × Bytes)) × Toks => [(0,.ptr 999999 0),(1,.p (.int .i64 10)),(2,.fn (.func 174) [.ptr 999999 0] []),(6,.ptr 6 0),(7,.ptr 7 0)])
  (fun x => [(999999,mapP (ecells s x.2.2.1)),(6,mapP [.int .i64 0,.str [],.int .i64 0,.sl []]),(7,mapP [.int .i64 x.2.1.1,.str x.2.1.2.1,.int .i64 x.2.1.2.2.1,.sl (encQyL x.2.1.2.2.2)])])
  (fun x => x.1 ≤ f ∧ GL s (x.2.2.1 :: x.2.2.2) ∧ goT x.1 (.andL (.mk x.2.1.1 x.2.1.2.1 x.2.1.2.2.1 x.2.1.2.2.2)) (x.2.2.1 :: x.2.2.2) = some res) (fun x => x.1) (f,(k1,t1,n1,q1),e1,l1)
  ⟨Nat.le_refl _,hg1,hres⟩ rfl ⟨wR,wR,wR,wR,wR,trivial⟩ ⟨hO1 rfl,hasO_q rfl (Weak.full_p _),hO1 rfl,trivial⟩ ?_
 clear hres hg1 hbad1
 rintro ⟨f',⟨k,t,n,q⟩,e,l⟩ ⟨hf,hg,hres⟩
 simp only at hf hg hres
 cases f' with
 | zero => cases hres
 | succ f' =>
 refine ⟨10,rfl,by omega,_,rfl,?_⟩
 refine ⟨rfl,rfl,rfl,rfl,_,_,(word_ok s hs 10 (by omega) (by omega) (e :: l) hg).opn,?_,?_⟩
 rotate_left
 ·rintro v ⟨a,b,l',e3,rfl⟩
  rw [e3] at hres
  have hres : some (PR.err b) = some res := hres
  exact ⟨b,(Option.some.inj hres).symm,rfl⟩
 rintro r ys (⟨a,l2,e3,hgood,rfl,rfl⟩ | ⟨hno,rfl,rfl⟩)
 ·injection e3 with e3 e4
  subst e3; subst e4
  have hres : okT l (fun l => bindT (goT f' .unit l) fun x l => goT f' (.andL (.mk 10 [] 0 [.mk k t n q,x])) l) = some res := hres
  rw [okT_good hgood] at hres
  have hg2 : GL s l := ⟨TL.tail hg.1 rfl,hgood⟩
  obtain ⟨e2,l2,rfl,hbad2⟩ := hgood
  cases hr0 : goT f' .unit (e2 :: l2) with
  | none => rw [hr0] at hres; cases hres
  | some r0 =>
  rw [hr0] at hres
  have hU := U (e2 :: l2) r0 hg2 (goT_mono (by omega) hr0)
  have hX : ∀ v,Xr s r0 v → Xr s res v := by
   rintro v ⟨a,rfl,rfl⟩
   have hres : some (PR.err a) = some res := hres
   exact ⟨a,(Option.some.inj hres).symm,rfl⟩
  have hnext : ∀ x l3,r0 = .ok x l3 → GL s l3 ∧ goT f' (.andL (.mk 10 [] 0 [.mk k t n q,x])) l3 = some res := by
   rintro x l3 rfl
   exact ⟨goT_gl _ _ _ _ _ hg2 hr0,hres⟩
  refine ⟨.plan ⟨[],[],[3,6],[]⟩ (.one 2 (.alt 0 (.alt 1 (.alt 3 (.one 4 (.one 5 (.alt 6 .fin .stop))) .stop) (.alt 3 (.one 1 (.one 4 (.one 5 (.alt 6 .fin .stop)))) .stop)) (.alt 1 (.alt 0 (.alt 3 (.one 4 (.one 5 (.alt 6 .fin .stop))) .stop) (.alt 3 (.one 0 (.one 4 (.one 5 (.alt 6 .fin .stop)))) .stop)) (.alt 3 (.one 0 (.one 1 (.one 4 (.one 5 (.alt 6 .fin .stop))))) .stop)))) none,by kernel_rfl,_,rfl,⟨⟨_,rfl,⟨_,rfl,?_⟩,?_⟩,⟨_,rfl,⟨_,rfl,?_⟩,?_⟩,?_⟩⟩
  ·refine ⟨rfl,rfl,rfl,rfl,_,_,hU.opn,?_,hX⟩
   rintro r ys ⟨⟨kx,tx,nx,qx⟩,l3,rfl,rfl,rfl⟩
   obtain ⟨hg3,hres3⟩ := hnext _ _ rfl
   obtain ⟨e3,l3,rfl,hbad3⟩ := hg3.2
   refine ⟨_,rfl,_,rfl,?_⟩
   exact roundR (f',(10,[],0,[.mk k t n q,.mk kx tx nx qx]),e3,l3) ⟨by show f' ≤ f; omega,hg3,hres3⟩ (Nat.lt_succ_self _) rfl ⟨wR,wR,wR,wR,wR,trivial⟩ ⟨hO1 rfl,hO1 rfl,hasO_q rfl (Weak.full_p _),trivial⟩
  ·refine ⟨rfl,rfl,rfl,rfl,_,_,hU.opn,?_,hX⟩
   rintro r ys ⟨⟨kx,tx,nx,qx⟩,l3,rfl,rfl,rfl⟩
   obtain ⟨hg3,hres3⟩ := hnext _ _ rfl
   obtain ⟨e3,l3,rfl,hbad3⟩ := hg3.2
   refine ⟨_,rfl,_,rfl,_,rfl,?_⟩
   exact roundR (f',(10,[],0,[.mk k t n q,.mk kx tx nx qx]),e3,l3) ⟨by show f' ≤ f; omega,hg3,hres3⟩ (Nat.lt_succ_self _) rfl ⟨wR,wR,wR,wR,wR,trivial⟩ ⟨hO1 rfl,hO1 rfl,hasO_q rfl (Weak.full_p _),trivial⟩
  ·refine ⟨rfl,rfl,rfl,rfl,_,_,hU.opn,?_,hX⟩
   rintro r ys ⟨⟨kx,tx,nx,qx⟩,l3,rfl,rfl,rfl⟩
   obtain ⟨hg3,hres3⟩ := hnext _ _ rfl
   obtain ⟨e3,l3,rfl,hbad3⟩ := hg3.2
   refine ⟨_,rfl,_,rfl,?_⟩
   exact roundR (f',(10,[],0,[.mk k t n q,.mk kx tx nx qx]),e3,l3) ⟨by show f' ≤ f; omega,hg3,hres3⟩ (Nat.lt_succ_self _) rfl ⟨wR,wR,wR,wR,wR,trivial⟩ ⟨hO1 rfl,hO1 rfl,hasO_q rfl (Weak.full_p _),trivial⟩
  ·refine ⟨rfl,rfl,rfl,rfl,_,_,hU.opn,?_,hX⟩
   rintro r ys ⟨⟨kx,tx,nx,qx⟩,l3,rfl,rfl,rfl⟩
   obtain ⟨hg3,hres3⟩ := hnext _ _ rfl
   obtain ⟨e3,l3,rfl,hbad3⟩ := hg3.2
   refine ⟨_,rfl,_,rfl,_,rfl,?_⟩
   exact roundR (f',(10,[],0,[.mk k t n q,.mk kx tx nx qx]),e3,l3) ⟨by show f' ≤ f; omega,hg3,hres3⟩ (Nat.lt_succ_self _) rfl ⟨wR,wR,wR,wR,wR,trivial⟩ ⟨hO1 rfl,hO1 rfl,hasO_q rfl (Weak.full_p _),trivial⟩
  ·refine ⟨rfl,rfl,rfl,rfl,_,_,hU.opn,?_,hX⟩
   rintro r ys ⟨⟨kx,tx,nx,qx⟩,l3,rfl,rfl,rfl⟩
   obtain ⟨hg3,hres3⟩ := hnext _ _ rfl
   obtain ⟨e3,l3,rfl,hbad3⟩ := hg3.2
   refine ⟨_,rfl,_,rfl,_,rfl,_,rfl,?_⟩
   exact roundR (f',(10,[],0,[.mk k t n q,.mk kx tx nx qx]),e3,l3) ⟨by show f' ≤ f; omega,hg3,hres3⟩ (Nat.lt_succ_self _) rfl ⟨wR,wR,wR,wR,wR,trivial⟩ ⟨hO1 rfl,hO1 rfl,hasO_q rfl (Weak.full_p _),trivial⟩
 ·have hout : goT (f' + 1) (.andL (.mk k t n q)) (e :: l) = some (.ok (.mk k t n q) (e :: l)) := andL_out hno
  rw [hout] at hres
  obtain rfl := Option.some.inj hres
  exact ⟨rfl,_,_,rfl,rfl,rfl⟩
set_option maxHeartbeats 1000000 in
theorem binary11_ok (s : Bytes) (hs : s.length ≤ 2 ^ 30) (f : Nat) (U : RecC s 155 .conj f) : ∀ l res,GL s l → bindT (goT f .conj l) (fun q l => goT f (.orL q) l) = some res →
 ObjToP C 154 (hcells s l) [.p (.int .i64 11),.fn (.func 155) [.ptr 999999 0] []] (Rr s res) (Xr s res) := by
 intro l res hl hres
 obtain ⟨e,l,rfl,hbad⟩ := hl.2
 have hU := fun res => U (e :: l) res hl
 refine objToP_of_evO _ [155,173] ⟨[],[],false,[],[],[]⟩ [] Tryz.func154 rfl rfl rfl ?_
 cases hr0 : goT f .conj (e :: l) with
 | none => rw [hr0] at hres; cases hres
 | some r0 =>
 rw [hr0] at hres
 refine ⟨rfl,rfl,rfl,rfl,_,_,(hU r0 hr0).opn,?_,?_⟩
 rotate_left
 ·rintro v ⟨a,rfl,rfl⟩
  have hres : some (PR.err a) = some res := hres
  exact ⟨a,(Option.some.inj hres).symm,rfl⟩
 rintro r ys ⟨⟨k1,t1,n1,q1⟩,l1,rfl,rfl,rfl⟩
 have hres : goT f (.orL (.mk k1 t1 n1 q1)) l1 = some res := hres
 have hg1 := goT_gl _ _ _ _ _ hl hr0
 clear hr0 hU hl hbad
 obtain ⟨e1,l1,rfl,hbad1⟩ := hg1.2
 refine loopR 22 (fun x : Nat × (Int × Bytes × Int × List Qy) × (Tk × (Bytes × Bytes)) × Toks => [(0,.ptr 999999 0),(1,.p (.int .i64 11)),(2,.fn (.func 155) [.ptr 999999 0] []),(6,.ptr 6 0),(7,.ptr 7 0)])
  (fun x => [(999999,mapP (ecells s x.2.2.1)),(6,mapP [.int .i64 0,.str [],.int .i64 0,.sl []]),(7,mapP [.int .i64 x.2.1.1,.str x.2.1.2.1,.int .i64 x.2.1.2.2.1,.sl (encQyL x.2.1.2.2.2)])])
  (fun x => x.1 ≤ f ∧ GL s (x.2.2.1 :: x.2.2.2) ∧ goT x.1 (.orL (.mk x.2.1.1 x.2.1.2.1 x.2.1.2.2.1 x.2.1.2.2.2)) (x.2.2.1 :: x.2.2.2) = some res) (fun x => x.1) (f,(k1,t1,n1,q1),e1,l1)
  ⟨Nat.le_refl _,hg1,hres⟩ rfl ⟨wR,wR,wR,wR,wR,trivial⟩ ⟨hO1 rfl,hasO_q rfl (Weak.full_p _),hO1 rfl,trivial⟩ ?_
 clear hres hg1 hbad1
 rintro ⟨f',⟨k,t,n,q⟩,e,l⟩ ⟨hf,hg,hres⟩
 simp only at hf hg hres
 cases f' with
 | zero => cases hres
 | succ f' =>
 refine ⟨11,rfl,by omega,_,rfl,?_⟩
 refine ⟨rfl,rfl,rfl,rfl,_,_,(word_ok s hs 11 (by omega) (by omega) (e :: l) hg).opn,?_,?_⟩
 rotate_left
 ·rintro v ⟨a,b,l',e3,rfl⟩
  rw [e3] at hres
  have hres : some (PR.err b) = some res := hres
  exact ⟨b,(Option.some.inj hres).symm,rfl⟩
 rintro r ys (⟨a,l2,e3,hgood,rfl,rfl⟩ | ⟨hno,rfl,rfl⟩)
 ·injection e3 with e3 e4
  subst e3; subst e4
  have hres : okT l (fun l => bindT (goT f' .conj l) fun x l => goT f' (.orL (.mk 11 [] 0 [.mk k t n q,x])) l) = some res := hres
  rw [okT_good hgood] at hres
  have hg2 : GL s l := ⟨TL.tail hg.1 rfl,hgood⟩
  obtain ⟨e2,l2,rfl,hbad2⟩ := hgood
  cases hr0 : goT f' .conj (e2 :: l2) with
  | none => rw [hr0] at hres; cases hres
  | some r0 =>
  rw [hr0] at hres
  have hU := U (e2 :: l2) r0 hg2 (goT_mono (by omega) hr0)
  have hX : ∀ v,Xr s r0 v → Xr s res v := by
   rintro v ⟨a,rfl,rfl⟩
   have hres : some (PR.err a) = some res := hres
   exact ⟨a,(Option.some.inj hres).symm,rfl⟩
  have hnext : ∀ x l3,r0 = .ok x l3 → GL s l3 ∧ goT f' (.orL (.mk 11 [] 0 [.mk k t n q,x])) l3 = some res := by
   rintro x l3 rfl
   exact ⟨goT_gl _ _ _ _ _ hg2 hr0,hres⟩
  refine ⟨.plan ⟨[],[],[3,6],[]⟩ (.one 2 (.alt 0 (.alt 1 (.alt 3 (.one 4 (.one 5 (.alt 6 .fin .stop))) .stop) (.alt 3 (.one 1 (.one 4 (.one 5 (.alt 6 .fin .stop)))) .stop)) (.alt 1 (.alt 0 (.alt 3 (.one 4 (.one 5 (.alt 6 .fin .stop))) .stop) (.alt 3 (.one 0 (.one 4 (.one 5 (.alt 6 .fin .stop)))) .stop)) (.alt 3 (.one 0 (.one 1 (.one 4 (.one 5 (.alt 6 .fin .stop))))) .stop)))) none,by kernel_rfl,_,rfl,⟨⟨_,rfl,⟨_,rfl,?_⟩,?_⟩,⟨_,rfl,⟨_,rfl,?_⟩,?_⟩,?_⟩⟩
  ·refine ⟨rfl,rfl,rfl,rfl,_,_,hU.opn,?_,hX⟩
   rintro r ys ⟨⟨kx,tx,nx,qx⟩,l3,rfl,rfl,rfl⟩
   obtain ⟨hg3,hres3⟩ := hnext _ _ rfl
   obtain ⟨e3,l3,rfl,hbad3⟩ := hg3.2
   refine ⟨_,rfl,_,rfl,?_⟩
   exact roundR (f',(11,[],0,[.mk k t n q,.mk kx tx nx qx]),e3,l3) ⟨by show f' ≤ f; omega,hg3,hres3⟩ (Nat.lt_succ_self _) rfl ⟨wR,wR,wR,wR,wR,trivial⟩ ⟨hO1 rfl,hO1 rfl,hasO_q rfl (Weak.full_p _),trivial⟩
  ·refine ⟨rfl,rfl,rfl,rfl,_,_,hU.opn,?_,hX⟩
   rintro r ys ⟨⟨kx,tx,nx,qx⟩,l3,rfl,rfl,rfl⟩
   obtain ⟨hg3,hres3⟩ := hnext _ _ rfl
   obtain ⟨e3,l3,rfl,hbad3⟩ := hg3.2
   refine ⟨_,rfl,_,rfl,_,rfl,?_⟩
   exact roundR (f',(11,[],0,[.mk k t n q,.mk kx tx nx qx]),e3,l3) ⟨by show f' ≤ f; omega,hg3,hres3⟩ (Nat.lt_succ_self _) rfl ⟨wR,wR,wR,wR,wR,trivial⟩ ⟨hO1 rfl,hO1 rfl,hasO_q rfl (Weak.full_p _),trivial⟩
  ·refine ⟨rfl,rfl,rfl,rfl,_,_,hU.opn,?_,hX⟩
   rintro r ys ⟨⟨kx,tx,nx,qx⟩,l3,rfl,rfl,rfl⟩
   obtain ⟨hg3,hres3⟩ := hnext _ _ rfl
   obtain ⟨e3,l3,rfl,hbad3⟩ := hg3.2
   refine ⟨_,rfl,_,rfl,?_⟩
   exact roundR (f',(11,[],0,[.mk k t n q,.mk kx tx nx qx]),e3,l3) ⟨by show f' ≤ f; omega,hg3,hres3⟩ (Nat.lt_succ_self _) rfl ⟨wR,wR,wR,wR,wR,trivial⟩ ⟨hO1 rfl,hO1 rfl,hasO_q rfl (Weak.full_p _),trivial⟩
  ·refine ⟨rfl,rfl,rfl,rfl,_,_,hU.opn,?_,hX⟩
   rintro r ys ⟨⟨kx,tx,nx,qx⟩,l3,rfl,rfl,rfl⟩
   obtain ⟨hg3,hres3⟩ := hnext _ _ rfl
   obtain ⟨e3,l3,rfl,hbad3⟩ := hg3.2
   refine ⟨_,rfl,_,rfl,_,rfl,?_⟩
   exact roundR (f',(11,[],0,[.mk k t n q,.mk kx tx nx qx]),e3,l3) ⟨by show f' ≤ f; omega,hg3,hres3⟩ (Nat.lt_succ_self _) rfl ⟨wR,wR,wR,wR,wR,trivial⟩ ⟨hO1 rfl,hO1 rfl,hasO_q rfl (Weak.full_p _),trivial⟩
  ·refine ⟨rfl,rfl,rfl,rfl,_,_,hU.opn,?_,hX⟩
   rintro r ys ⟨⟨kx,tx,nx,qx⟩,l3,rfl,rfl,rfl⟩
   obtain ⟨hg3,hres3⟩ := hnext _ _ rfl
   obtain ⟨e3,l3,rfl,hbad3⟩ := hg3.2
   refine ⟨_,rfl,_,rfl,_,rfl,_,rfl,?_⟩
   exact roundR (f',(11,[],0,[.mk k t n q,.mk kx tx nx qx]),e3,l3) ⟨by show f' ≤ f; omega,hg3,hres3⟩ (Nat.lt_succ_self _) rfl ⟨wR,wR,wR,wR,wR,trivial⟩ ⟨hO1 rfl,hO1 rfl,hasO_q rfl (Weak.full_p _),trivial⟩
 ·have hout : goT (f' + 1) (.orL (.mk k t n q)) (e :: l) = some (.ok (.mk k t n q) (e :: l)) := orL_out hno
  rw [hout] at hres
  obtain rfl := Option.some.inj hres
  exact ⟨rfl,_,_,rfl,rfl,rfl⟩
end Qv

end

section
open Go Go.Proofs Go.RowKit
namespace Qv
theorem opersN_one {k : Nat} : opersN k = 1 ↔ (k = 9 ∨ k = 12 ∨ k = 13) := by
 unfold opersN
 constructor
 ·intro h
  split at h
  ·assumption
  ·split at h <;> cases h
 ·intro h
  rw [if_pos h]
theorem opsN_oper (k : Nat) : opsN (k : Int) = opersN k := by
 unfold opsN opersN
 have h1 : ((k : Int) = 9 ∨ (k : Int) = 12 ∨ (k : Int) = 13) ↔ (k = 9 ∨ k = 12 ∨ k = 13) := by omega
 have h2 : ((k : Int) = 10 ∨ (k : Int) = 11) ↔ (k = 10 ∨ k = 11) := by omega
 simp only [h1,h2]
theorem worded_textual (k : Nat) : wordedF (k : Int) = textualN k := by
 unfold wordedF textualN
 rw [← Bool.decide_or,decide_eq_decide]
 omega
theorem numbered_numeric (k : Nat) : numberedF (k : Int) = numericN k := by
 unfold numberedF numericN
 rw [← Bool.decide_or,decide_eq_decide]
 omega
theorem simple_ok (s : Bytes) (hs : s.length ≤ 2 ^ 30) (f : Nat) (U : RecC s 174 .unit f) (k : Nat) : ∀ l res,GL s l → simpT (goT f .unit) k l = some res →
 ObjToP C 201 (hcells s l) [.p (.int .i64 k)] (Rr s res) (Xr s res) := by
 intro l res hl hres
 obtain ⟨e,l,rfl,hbad⟩ := hl.2
 have hU := fun res => U (e :: l) res hl
 refine objToP_of_evO _ [174,228] ⟨[],[],false,[],[],[]⟩ [] Tryz.func201 rfl rfl rfl ?_
 refine ⟨_,(operands_ok k).pan,fun r hr => ?_⟩
 subst hr
 refine al_eq (fun h => ?_) (fun h => ?_)
 ·have h : ((opsN (k : Int) : Nat) : Int) = 1 := h
  have h : opersN k = 1 := by rw [opsN_oper] at h; omega
  unfold simpT at hres
  rw [if_pos h] at hres
  cases hr0 : goT f .unit (e :: l) with
  | none => rw [hr0] at hres; cases hres
  | some r0 =>
  rw [hr0] at hres
  refine ⟨rfl,rfl,rfl,rfl,_,_,(hU r0 hr0).opn,?_,?_⟩
  rotate_left
  ·rintro v ⟨a,rfl,rfl⟩
   have hres : some (PR.err a) = some res := hres
   exact ⟨a,(Option.some.inj hres).symm,rfl⟩
  rintro r ys ⟨⟨k1,t1,n1,q1⟩,l1,rfl,rfl,rfl⟩
  have hres : some (PR.ok (.mk k [] 0 [.mk k1 t1 n1 q1]) l1) = some res := hres
  obtain rfl := Option.some.inj hres
  obtain ⟨e1,l1,rfl,hbad1⟩ := (goT_gl _ _ _ _ _ hl hr0).2
  exact ⟨rfl,_,_,rfl,rfl,rfl⟩
 ·have h : ¬ ((opsN (k : Int) : Nat) : Int) = 1 := h
  have h : ¬ opersN k = 1 := by rw [opsN_oper] at h; omega
  unfold simpT at hres
  rw [if_neg h] at hres
  refine ⟨_,(textual_ok k).pan,fun r hr => ?_⟩
  subst hr
  rw [worded_textual]
  cases hw : textualN k with
  | true =>
    rw [hw,if_pos rfl] at hres
    refine ⟨rfl,rfl,rfl,rfl,_,_,(expect_ok s hs 3 (.inr rfl) e l hl.1).opn,?_,?_⟩
    rotate_left
    ·rintro v (⟨h1,rfl⟩ | ⟨h1,a,l',rfl,rfl⟩)
     ·refine ⟨e.2,?_,rfl⟩
      obtain ⟨t,a⟩ := e
      cases t <;> first | exact (Option.some.inj hres).symm | exact absurd rfl h1
     ·refine ⟨a,?_,rfl⟩
      obtain ⟨t,a⟩ := e
      cases t <;> first | exact (Option.some.inj hres).symm | cases h1
    rintro r ys ⟨h1,hgood,rfl,rfl⟩
    obtain ⟨t,a⟩ := e
    cases t
    case str t =>
     have hres : okT l (fun l => some (.ok (.mk k t 0 []) l)) = some res := hres
     rw [okT_good hgood] at hres
     obtain rfl := Option.some.inj hres
     obtain ⟨e1,l1,rfl,hbad1⟩ := hgood
     exact ⟨rfl,_,_,rfl,rfl,rfl⟩
    all_goals cases h1
  | false =>
    rw [hw,if_neg Bool.false_ne_true] at hres
    refine ⟨_,(numeric_ok k).pan,fun r hr => ?_⟩
    subst hr
    rw [numbered_numeric]
    cases hn : numericN k with
    | true =>
      rw [hn,if_pos rfl] at hres
      refine ⟨rfl,rfl,rfl,rfl,_,_,(expect_ok s hs 2 (.inl rfl) e l hl.1).opn,?_,?_⟩
      rotate_left
      ·rintro v (⟨h1,rfl⟩ | ⟨h1,a,l',rfl,rfl⟩)
       ·refine ⟨e.2,?_,rfl⟩
        obtain ⟨t,a⟩ := e
        cases t <;> first | exact (Option.some.inj hres).symm | exact absurd rfl h1
       ·refine ⟨a,?_,rfl⟩
        obtain ⟨t,a⟩ := e
        cases t <;> first | exact (Option.some.inj hres).symm | cases h1
      rintro r ys ⟨h1,hgood,rfl,rfl⟩
      obtain ⟨t,a⟩ := e
      cases t
      case num t =>
       have hres : okT l (fun l => some (.ok (.mk k [] t []) l)) = some res := hres
       rw [okT_good hgood] at hres
       obtain rfl := Option.some.inj hres
       obtain ⟨e1,l1,rfl,hbad1⟩ := hgood
       exact ⟨rfl,_,_,rfl,rfl,rfl⟩
      all_goals cases h1
    | false =>
      rw [hn,if_neg Bool.false_ne_true] at hres
      obtain rfl := Option.some.inj hres
      exact ⟨rfl,_,_,rfl,rfl,rfl⟩
end Qv

end

section
open Go Go.Proofs Go.RowKit
namespace Qv
def wordCells : List AV := wordsB.map .str
theorem words_at (k : Nat) (hk : k ≤ 13) : dropN (k * 1) wordCells = .str (wordB k) :: wordCells.drop (k + 1) := by
 match k,hk with
 | 0,_ => rfl | 1,_ => rfl | 2,_ => rfl | 3,_ => rfl | 4,_ => rfl | 5,_ => rfl | 6,_ => rfl | 7,_ => rfl
 | 8,_ => rfl | 9,_ => rfl | 10,_ => rfl | 11,_ => rfl | 12,_ => rfl | 13,_ => rfl
 | k + 14,h => exact absurd h (by omega)
def hitU (t : Tk) (k : Nat) : Bool := decide (opersN k < 2) && (match t with
 | .word j => decide (j = k)
 | _ => false)
def lpB : Tk → Bool
 | .lp => true
 | _ => false
def rpB : Tk → Bool
 | .rp => true
 | _ => false
theorem lpB_no {t : Tk} (h : tokK t ≠ 4 ∨ tokT t ≠ [40]) : lpB t = false := by
 cases t <;> first | rfl | (rcases h with h | h <;> exact absurd rfl h)
theorem lpB_yes {t : Tk} (h : tokK t = 4) (h' : tokT t = [40]) : lpB t = true := by
 cases t <;> first | rfl | exact absurd h' (by decide) | cases h
theorem rpB_no {t : Tk} (h : tokK t ≠ 4 ∨ tokT t ≠ [41]) : rpB t = false := by
 cases t <;> first | rfl | (rcases h with h | h <;> exact absurd rfl h)
theorem rpB_yes {t : Tk} (h : tokK t = 4) (h' : tokT t = [41]) : rpB t = true := by
 cases t <;> first | rfl | exact absurd h' (by decide) | cases h
theorem lpB_eq {t : Tk} (h : lpB t = true) : t = .lp := by cases t <;> first | rfl | cases h
theorem rpB_eq {t : Tk} (h : rpB t = true) : t = .rp := by cases t <;> first | rfl | cases h
theorem goT_lp {α : Type} (f : Nat) (a : α) (l : List (Tk × α)) : goT (f + 1) .unit ((.lp,a) :: l) = okT l fun l => bindT (goT f .disj l) rparT := rfl
theorem goT_word {α : Type} (f : Nat) (k : Nat) (a : α) (l : List (Tk × α)) (h : opersN k ≠ 2) : goT (f + 1) .unit ((.word k,a) :: l) = okT l fun l => simpT (goT f .unit) k l := by
 simp only [goT,if_neg h]
theorem goT_no {α : Type} (f : Nat) (t : Tk) (a : α) (l : List (Tk × α)) (h : lpB t = false) (h2 : ∀ k,1 ≤ k → k ≤ 13 → hitU t k = false) (h3 : ∀ j,t = .word j → 1 ≤ j ∧ j ≤ 13) : goT (f + 1) .unit ((t,a) :: l) = some (.err a) := by
 cases t with
 | lp => cases h
 | word j =>
   obtain ⟨h4,h5⟩ := h3 j rfl
   have := h2 j h4 h5
   have h6 : opersN j = 2 := by
    have h7 : ¬ opersN j < 2 := by
     intro h7
     rw [hitU,decide_eq_true h7] at this
     simp at this
    have : opersN j ≤ 2 := by unfold opersN; split; omega; split <;> omega
    omega
   simp only [goT,if_pos h6]
 | _ => rfl
set_option maxHeartbeats 1000000 in
theorem unit_ok (s : Bytes) (hs : s.length ≤ 2 ^ 30) (f : Nat) (U : RecC s 174 .unit f) (D : RecC s 117 .disj f) : RecC s 174 .unit (f + 1) := by
 intro l res hl hres
 obtain ⟨⟨t,a⟩,l,rfl,hbad⟩ := hl.2
 refine objToP_of_evO _ [117,116,201] ⟨[],[],false,[],[],[]⟩ [] Tryz.func174 rfl rfl rfl ?_
 refine ⟨some (fun vs => vs = [.p (.bool (lpB t))]),keepA (.p (.bool (lpB t))) 18 rfl ?_ ?_⟩
 ·refine al_eq (fun h1 => ?_) (fun h1 => ?_)
  ·have h1 : tokK t = 4 := h1
   refine al_eq (fun h2 => ?_) (fun h2 => ?_)
   ·have h2 : tokT t = [40] := h2
    rw [lpB_yes h1 h2]
    exact rfl
   ·have h2 : ¬ tokT t = [40] := h2
    rw [lpB_no (.inr h2)]
    exact rfl
  ·have h1 : ¬ tokK t = 4 := h1
   rw [lpB_no (.inl h1)]
   exact rfl
 cases hb : lpB t with
 | true =>
   obtain rfl := lpB_eq hb
   rw [goT_lp] at hres
   refine ⟨rfl,rfl,rfl,rfl,_,_,(adv_ok s hs _ l hl.1 rfl).opn,?_,?_⟩
   rotate_left
   ·rintro v ⟨b,l',rfl,rfl⟩
    exact ⟨b,(Option.some.inj hres).symm,rfl⟩
   rintro r ys ⟨hgood,rfl,rfl⟩
   rw [okT_good hgood] at hres
   have hg : GL s l := ⟨TL.tail hl.1 rfl,hgood⟩
   clear hb hbad
   obtain ⟨e,l,rfl,hbad⟩ := hgood
   cases hr0 : goT f .disj (e :: l) with
   | none => rw [hr0] at hres; cases hres
   | some r0 =>
   rw [hr0] at hres
   refine ⟨rfl,rfl,rfl,rfl,_,_,(D (e :: l) r0 hg hr0).opn,?_,?_⟩
   rotate_left
   ·rintro v ⟨b,rfl,rfl⟩
    have hres : some (PR.err b) = some res := hres
    exact ⟨b,(Option.some.inj hres).symm,rfl⟩
   rintro r ys ⟨⟨kx,tx,nx,qx⟩,l1,rfl,rfl,rfl⟩
   have hg1 := goT_gl _ _ _ _ _ hg hr0
   obtain ⟨⟨t1,a1⟩,l1,rfl,hbad1⟩ := hg1.2
   have hres : rparT (.mk kx tx nx qx) ((t1,a1) :: l1) = some res := hres
   refine ⟨some (fun vs => vs = [.p (.bool (!rpB t1))]),keepA (.p (.bool (!rpB t1))) 36 rfl ?_ ?_⟩
   ·refine al_ne (fun h1 => ?_) (fun h1 => ?_)
    ·have h1 : ¬ tokK t1 = 4 := h1
     rw [rpB_no (.inl h1)]
     exact rfl
    ·have h1 : tokK t1 = 4 := h1
     refine al_ne (fun h2 => ?_) (fun h2 => ?_)
     ·have h2 : ¬ tokT t1 = [41] := h2
      rw [rpB_no (.inr h2)]
      exact rfl
     ·have h2 : tokT t1 = [41] := h2
      rw [rpB_yes h1 h2]
      exact rfl
   cases hb1 : rpB t1 with
   | false =>
     have hres : some (PR.err a1) = some res := by
      rw [← hres]
      cases t1 <;> first | rfl | cases hb1
     exact ⟨rfl,⟨a1,(Option.some.inj hres).symm,rfl⟩,ecells s (t1,a1),rfl,rfl⟩
   | true =>
     obtain rfl := rpB_eq hb1
     refine ⟨rfl,rfl,rfl,rfl,_,_,(adv_ok s hs _ l1 hg1.1 rfl).opn,?_,?_⟩
     rotate_left
     ·rintro v ⟨b,l',rfl,rfl⟩
      exact ⟨b,(Option.some.inj hres).symm,rfl⟩
     rintro r ys ⟨hgood,rfl,rfl⟩
     have hres : okT l1 (fun l => some (.ok (.mk kx tx nx qx) l)) = some res := hres
     rw [okT_good hgood] at hres
     obtain rfl := Option.some.inj hres
     obtain ⟨e2,l2,rfl,hbad2⟩ := hgood
     exact ⟨rfl,_,_,rfl,rfl,rfl⟩
 | false =>
   refine loopR 83 (fun k : Nat => [(0,.ptr 999999 0),(2,.ptr 2 0),(4,.p (.int .i64 k))]) (fun _ => [(999999,mapP (ecells s (t,a))),(2,mapP [.int .i64 0,.str [],.int .i64 0,.sl []])])
    (fun k => 1 ≤ k ∧ k ≤ 14 ∧ ∀ j,1 ≤ j → j < k → hitU t j = false) (fun k => 14 - k) 1 ⟨Nat.le_refl _,by omega,fun j h1 h2 => absurd h1 (by omega)⟩ rfl
    ⟨wR,wR,wR,trivial⟩ ⟨hO1 rfl,hasO_q rfl (Weak.full_p _),trivial⟩ ?_
   rintro k ⟨hk1,hk2,hk⟩
   have hw5 : IntKind.i64.wrap ((k : Int) + 1) = ((k + 1 : Nat) : Int) := by rw [wrap64 (by omega) (by omega)]; omega
   refine al_dec (fun hlt => ?_) (fun hge => ?_)
   ·have hlt : (k : Int) ≤ 13 := hlt
    have hlt : k ≤ 13 := by omega
    refine keepV (.p (.bool (hitU t k))) 71 (by kernel_rfl) (by rfl) ?_ ?_
    ·refine ⟨_,(operands_ok k).pan,?_⟩
     rw [opsN_oper]
     refine al_dec (fun h1 => ?_) (fun h1 => ?_)
     ·have h1 : ((opersN k : Nat) : Int) < 2 := h1
      refine al_eq (fun h2 => ?_) (fun h2 => ?_)
      ·replace h2 : tokK t = 1 := h2
       refine ⟨k,rfl,by omega,_,words_at k hlt,?_⟩
       cases t
       case word j =>
        obtain ⟨hj,hj'⟩ := tl_word hl.1
        refine al_eq (fun h3 => ?_) (fun h3 => ?_)
        ·have h3 : wordB j = wordB k := h3
         obtain rfl := wordB_inj hj hj' hk1 hlt h3
         have : hitU (.word j) j = true := by
          have : opersN j < 2 := by omega
          simp [hitU,this]
         rw [this]
         exact rfl
        ·have h3 : ¬ wordB j = wordB k := h3
         have : hitU (.word j) k = false := by
          have : ¬ j = k := fun e => h3 (by rw [e])
          simp [hitU,this]
         rw [this]
         exact rfl
       all_goals cases h2
      ·have h2 : ¬ tokK t = 1 := h2
       have : hitU t k = false := by
        cases t <;> first | exact absurd rfl h2 | simp [hitU]
       rw [this]
       exact rfl
     ·have h1 : ¬ ((opersN k : Nat) : Int) < 2 := h1
      have : hitU t k = false := by
       have : ¬ opersN k < 2 := by omega
       simp [hitU,this]
      rw [this]
      exact rfl
    cases hh : hitU t k with
    | true =>
      have hw : t = .word k ∧ opersN k ≠ 2 := by
       cases t <;> simp [hitU] at hh
       exact ⟨by rw [hh.2],by omega⟩
      obtain ⟨rfl,hop⟩ := hw
      rw [goT_word _ _ _ _ hop] at hres
      refine ⟨rfl,rfl,rfl,rfl,_,_,(adv_ok s hs _ l hl.1 rfl).opn,?_,?_⟩
      rotate_left
      ·rintro v ⟨b,l',rfl,rfl⟩
       exact ⟨b,(Option.some.inj hres).symm,rfl⟩
      rintro r ys ⟨hgood,rfl,rfl⟩
      rw [okT_good hgood] at hres
      have hg : GL s l := ⟨TL.tail hl.1 rfl,hgood⟩
      clear hb hbad
      obtain ⟨e,l,rfl,hbad⟩ := hgood
      refine ⟨rfl,rfl,rfl,rfl,_,_,(simple_ok s hs f U k (e :: l) res hg hres).opn,?_,?_⟩
      rotate_left
      ·rintro v hv
       exact hv
      rintro r ys ⟨⟨kx,tx,nx,qx⟩,l1,rfl,rfl,rfl⟩
      have hg1 : GL s l1 := by
       have h3 : goT (f + 1) .unit ((.word k,a) :: e :: l) = some (.ok (.mk kx tx nx qx) l1) := by
        rw [goT_word _ _ _ _ hop,okT_good ⟨e,l,rfl,hbad⟩]; exact hres
       exact goT_gl _ _ _ _ _ hl h3
      obtain ⟨e2,l2,rfl,hbad2⟩ := hg1.2
      exact ⟨rfl,_,_,rfl,rfl,rfl⟩
    | false =>
      refine ⟨_,hw5,?_⟩
      refine roundR (k + 1) ⟨by omega,by omega,fun j h1 h2 => ?_⟩ (by show 14 - (k + 1) < 14 - k; omega) rfl ⟨wR,wR,wR,trivial⟩ ⟨hO1 rfl,hO1 rfl,trivial⟩
      rcases Nat.lt_or_ge j k with h3 | h3
      ·exact hk j h1 h3
      ·obtain rfl : j = k := by omega
       exact hh
   ·have hge : ¬ (k : Int) ≤ 13 := hge
    have hno := goT_no f t a l hb (fun j h1 h2 => hk j h1 (by omega)) (fun j e => tl_word (by subst e; exact hl.1))
    rw [hno] at hres
    exact ⟨rfl,⟨a,(Option.some.inj hres).symm,rfl⟩,ecells s (t,a),rfl,rfl⟩
theorem conj_ok (s : Bytes) (hs : s.length ≤ 2 ^ 30) (f : Nat) (U : RecC s 174 .unit f) : RecC s 155 .conj (f + 1) := by
 intro l res hl hres
 obtain ⟨e,l,rfl,hbad⟩ := hl.2
 have hB := binary10_ok s hs f U (e :: l) res hl hres
 refine objToP_of_evO _ [154] ⟨[],[],false,[],[],[]⟩ [] Tryz.func155 rfl rfl rfl ?_
 refine ⟨[],?_⟩
 refine ⟨rfl,rfl,rfl,rfl,_,_,hB.opn,?_,fun v hv => hv⟩
 rintro r ys ⟨⟨kx,tx,nx,qx⟩,l1,rfl,rfl,rfl⟩
 obtain ⟨e2,l2,rfl,hbad2⟩ := (goT_gl _ _ _ _ _ hl (show goT (f + 1) .conj (e :: l) = _ from hres)).2
 exact ⟨rfl,_,_,rfl,rfl,rfl⟩
theorem disj_ok (s : Bytes) (hs : s.length ≤ 2 ^ 30) (f : Nat) (U : RecC s 155 .conj f) : RecC s 117 .disj (f + 1) := by
 intro l res hl hres
 obtain ⟨e,l,rfl,hbad⟩ := hl.2
 have hB := binary11_ok s hs f U (e :: l) res hl hres
 refine objToP_of_evO _ [154] ⟨[],[],false,[],[],[]⟩ [] Tryz.func117 rfl rfl rfl ?_
 refine ⟨[],?_⟩
 refine ⟨rfl,rfl,rfl,rfl,_,_,hB.opn,?_,fun v hv => hv⟩
 rintro r ys ⟨⟨kx,tx,nx,qx⟩,l1,rfl,rfl,rfl⟩
 obtain ⟨e2,l2,rfl,hbad2⟩ := (goT_gl _ _ _ _ _ hl (show goT (f + 1) .disj (e :: l) = _ from hres)).2
 exact ⟨rfl,_,_,rfl,rfl,rfl⟩
theorem rec_ok (s : Bytes) (hs : s.length ≤ 2 ^ 30) : ∀ f,RecC s 174 .unit f ∧ RecC s 155 .conj f ∧ RecC s 117 .disj f
 | 0 => ⟨fun _ _ _ h => (by cases h),fun _ _ _ h => (by cases h),fun _ _ _ h => (by cases h)⟩
 | f + 1 => ⟨unit_ok s hs f (rec_ok s hs f).1 (rec_ok s hs f).2.2,conj_ok s hs f (rec_ok s hs f).1,disj_ok s hs f (rec_ok s hs f).2.1⟩
end Qv

end
