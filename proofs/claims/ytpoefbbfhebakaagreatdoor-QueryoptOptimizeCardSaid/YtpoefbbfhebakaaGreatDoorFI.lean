/- Several texts in one: Contracts of the reference: prefixed, within, not, closed, and, or and what follows. No condition. -/
import Derived.Test.YtpoefbbfhebakaaGreatDoorFG
import Derived.Test.YtpoefbbfhebakaaGreatDoorFB
import Derived.Test.YtpoefbbfhebakaaGreatDoorFC
import Derived.Test.YtpoefbbfhebakaaGreatDoorFJ
set_option linter.unusedVariables false
set_option linter.unusedSimpArgs false

section
open Go Go.Proofs Go.RowKit
namespace Qv
theorem prefixedR_ok (a b : Qy) : CallsTo C 146 [.agg (encQy a),.agg (encQy b)] (fun r => r = .val (.bool (idsF a b))) := by
 obtain ⟨k,t,n,l⟩ := a
 obtain ⟨k',t',n',l'⟩ := b
 have e : idsF (.mk k t n l) (.mk k' t' n' l') = (decide (k = 8) && (decide (k' = 8) && (beginsF t t' || beginsF t' t))) := rfl
 rw [e]
 refine cTo' Tryz.func146 rfl rfl rfl ?_
 have b1 := beginsR_ok t t'
 have b2 := beginsR_ok t' t
 refine ⟨none,?_⟩
 refine al_eq (fun h => ?_) (fun h => ?_)
 ·have h : k = 8 := h
  rw [decide_eq_true h]
  refine al_eq (fun h => ?_) (fun h => ?_)
  ·have h : k' = 8 := h
   rw [decide_eq_true h]
   cases hb : beginsF t t' with
   | true =>
     rw [hb] at b1
     refine ⟨_,b1,fun r hr => ?_⟩
     subst hr
     exact rfl
   | false =>
     rw [hb] at b1
     refine ⟨_,b1,fun r hr => ?_⟩
     subst hr
     refine ⟨_,b2,fun r hr => ?_⟩
     subst hr
     exact rfl
  ·have h : ¬ k' = 8 := h
   rw [decide_eq_false h]
   exact rfl
 ·have h : ¬ k = 8 := h
  rw [decide_eq_false h]
  exact rfl
theorem withinR_ok (q : Qy) (k0 : Int) (x : Qy) (h2 : q.kind = k0 → q.sub.length = 2) (hs : szQ q) (hsx : szQ x) : CallsTo C 147 [.agg (encQy q),.int .i64 k0,.agg (encQy x)] (fun r => r = .val (.bool (hasF q k0 x))) := by
 obtain ⟨k,t,n,l⟩ := q
 obtain ⟨k',t',n',l'⟩ := x
 have h2 : k = k0 → l.length = 2 := h2
 have e : hasF (.mk k t n l) k0 (.mk k' t' n' l') = (decide (k = k0) && (sameQ ((Qy.mk k t n l).nth 0) (.mk k' t' n' l') || sameQ ((Qy.mk k t n l).nth 1) (.mk k' t' n' l'))) := rfl
 rw [e]
 refine cTo' Tryz.func147 rfl rfl rfl ?_
 refine lex2 21 (by kernel_rfl) ?_
 refine al_eq (fun h => ?_) (fun h => ?_)
 ·have h : k = k0 := h
  rw [decide_eq_true h,Bool.true_and]
  match l,h2 h with
  | [.mk k1 t1 n1 l1,.mk k2 t2 n2 l2],_ =>
  have s3 := (szQ_mk.1 hs).2.2
  have c1 := equalR_ok (.mk k1 t1 n1 l1) (s3 _ (by simp)) (.mk k' t' n' l') hsx
  have c2 := equalR_ok (.mk k2 t2 n2 l2) (s3 _ (by simp)) (.mk k' t' n' l') hsx
  have e : (sameQ ((Qy.mk k t n [.mk k1 t1 n1 l1,.mk k2 t2 n2 l2]).nth 0) (.mk k' t' n' l') || sameQ ((Qy.mk k t n [.mk k1 t1 n1 l1,.mk k2 t2 n2 l2]).nth 1) (.mk k' t' n' l')) = (sameQ (.mk k1 t1 n1 l1) (.mk k' t' n' l') || sameQ (.mk k2 t2 n2 l2) (.mk k' t' n' l')) := rfl
  rw [e]
  refine ⟨by decide,_,rfl,rfl,?_⟩
  cases hb : sameQ (.mk k1 t1 n1 l1) (.mk k' t' n' l') with
  | true =>
    rw [hb] at c1
    exact ⟨_,c1,rfl⟩
  | false =>
    rw [hb] at c1
    refine ⟨_,c1,?_⟩
    refine ⟨by decide,_,rfl,rfl,?_⟩
    exact ⟨_,c2,rfl⟩
 ·have h : ¬ k = k0 := h
  rw [decide_eq_false h]
  exact rfl
theorem two_len {G : Bytes → Bool} {q : Qy} {k : Int} (hv : allE G q = 0) (hk : k = 10 ∨ k = 11) (h : q.kind = k) : q.sub.length = 2 := by
 obtain ⟨k1,t,n,l⟩ := q
 have h : k1 = k := h
 rcases valid_cases hv with ⟨_,h8,_⟩ | ⟨h9,_⟩ | ⟨_,rfl,rfl,a,b,rfl,ha,hb⟩
 ·omega
 ·omega
 ·rfl
theorem notR_ok {G : Bytes → Bool} (k : Int) (t : Bytes) (n : Int) (a : Qy) (hva : allE G a = 0) : CallsTo C 99 [.agg (encQy (.mk k t n [a]))] (fun r => r = .val (.agg (encQy (notF (.mk k t n [a]) a)))) := by
 generalize hX : notF (.mk k t n [a]) a = X
 obtain ⟨k1,t1,n1,l1⟩ := a
 have hX : (if k1 = 1 then constQ 2 else if k1 = 2 then constQ 1 else if k1 = 9 then (Qy.mk k1 t1 n1 l1).nth 0 else .mk k t n [.mk k1 t1 n1 l1]) = X := hX
 refine cTo' Tryz.func99 rfl rfl rfl ?_
 refine ⟨by decide,_,rfl,rfl,?_⟩
 refine al_eq (fun h => ?_) (fun h => ?_)
 ·have h : k1 = 1 := h
  rw [if_pos h] at hX
  subst hX
  exact rfl
 have h1 : ¬ k1 = 1 := h
 rw [if_neg h1] at hX
 refine al_eq (fun h => ?_) (fun h => ?_)
 ·have h : k1 = 2 := h
  rw [if_pos h] at hX
  subst hX
  exact rfl
 have h2 : ¬ k1 = 2 := h
 rw [if_neg h2] at hX
 refine al_eq (fun h => ?_) (fun h => ?_)
 ·have h : k1 = 9 := h
  rw [if_pos h] at hX
  subst hX
  rcases valid_cases hva with ⟨_,h8,_⟩ | ⟨_,_,_,⟨k2,t2,n2,l2⟩,rfl,_⟩ | ⟨h10,_⟩
  ·omega
  ·refine ⟨by decide,_,rfl,rfl,?_⟩
   exact rfl
  ·omega
 have h9 : ¬ k1 = 9 := h
 rw [if_neg h9] at hX
 subst hX
 exact rfl
theorem closedR_ok (k : Int) (t : Bytes) (n : Int) (a : Qy) : CallsTo C 102 [.agg (encQy (.mk k t n [a]))] (fun r => r = .val (.agg (encQy (closedF (.mk k t n [a]) a)))) := by
 generalize hX : closedF (.mk k t n [a]) a = X
 obtain ⟨k1,t1,n1,l1⟩ := a
 have hX : (if k1 = 1 ∨ k1 = 2 ∨ k1 = k then Qy.mk k1 t1 n1 l1 else .mk k t n [.mk k1 t1 n1 l1]) = X := hX
 refine cTo' Tryz.func102 rfl rfl rfl ?_
 refine ⟨by decide,_,rfl,rfl,?_⟩
 refine ⟨some (fun vs => vs = [.p (.bool (decide (k1 = 1 ∨ k1 = 2 ∨ k1 = k)))]),keepA (.p (.bool (decide (k1 = 1 ∨ k1 = 2 ∨ k1 = k)))) 20 rfl ?_ ?_⟩
 ·refine al_eq (fun h => ?_) (fun h => ?_)
  ·exact fin_b true (decide_eq_true (.inl h))
  have h1 : ¬ k1 = 1 := h
  refine al_eq (fun h => ?_) (fun h => ?_)
  ·exact fin_b true (decide_eq_true (.inr (.inl h)))
  have h2 : ¬ k1 = 2 := h
  refine al_eq (fun h => ?_) (fun h => ?_)
  ·exact fin_b true (decide_eq_true (.inr (.inr h)))
  have h3 : ¬ k1 = k := h
  exact fin_b false (decide_eq_false (by omega))
 cases hc : decide (k1 = 1 ∨ k1 = 2 ∨ k1 = k) with
 | true =>
   rw [if_pos (of_decide_eq_true hc)] at hX
   subst hX
   refine ⟨by decide,_,rfl,rfl,?_⟩
   exact rfl
 | false =>
   rw [if_neg (of_decide_eq_false hc)] at hX
   subst hX
   exact rfl
end Qv

end

section
open Go Go.Proofs Go.RowKit
namespace Qv
theorem andR_ok {k : Int} {t : Bytes} {n : Int} (a b : Qy) (hva : allE globB a = 0) (hvb : allE globB b = 0) (hsa : szQ a) (hsb : szQ b) :
 CallsTo C 100 [.agg (encQy (.mk k t n [a,b]))] (fun r => r = .val (.agg (encQy (andR overF (.mk k t n [a,b]) a b)))) := by
 generalize hX : andR overF (.mk k t n [a,b]) a b = X
 have c1 := equalR_ok a hsa b hsb
 have c2 := prefixedR_ok a b
 have c3 := disjointR_ok a b hva hvb hsa hsb
 have c4 := disjointR_ok b a hvb hva hsb hsa
 have c5 := withinR_ok a 11 b (two_len hva (by decide)) hsa hsb
 have c6 := withinR_ok b 11 a (two_len hvb (by decide)) hsb hsa
 unfold andR eitherF at hX
 generalize sameQ a b = s at c1 hX
 generalize idsF a b = i at c2 hX
 generalize disjF overF a b = d1 at c3 hX
 generalize disjF overF b a = d2 at c4 hX
 generalize hasF a 11 b = w1 at c5 hX
 generalize hasF b 11 a = w2 at c6 hX
 obtain ⟨k1,t1,n1,l1⟩ := a
 obtain ⟨k2,t2,n2,l2⟩ := b
 clear hva hvb hsa hsb
 have hX : (if k1 = 1 then (Qy.mk k2 t2 n2 l2) else if (decide (k2 = 1) || s) = true then (Qy.mk k1 t1 n1 l1) else if (decide (k1 = k2) && (decide (k1 = 6) || decide (k1 = 7))) = true then (if decide (n1 < n2) = decide (k1 = 6) then (Qy.mk k1 t1 n1 l1) else (Qy.mk k2 t2 n2 l2)) else if i = true then (if t2.length < t1.length then (Qy.mk k1 t1 n1 l1) else (Qy.mk k2 t2 n2 l2)) else if (d1 || d2) = true then constQ 2 else if w1 = true then (Qy.mk k2 t2 n2 l2) else if w2 = true then (Qy.mk k1 t1 n1 l1) else (Qy.mk k t n [Qy.mk k1 t1 n1 l1,Qy.mk k2 t2 n2 l2])) = X := hX
 refine callsTo_of_evO ⟨[],[],false,[],[],[]⟩ [2] Tryz.func100 rfl rfl rfl ?_
 refine share (T := ?T) (fun H => ?main) ?rest
 case main =>
  refine ⟨.plan ⟨[0,1,2,3,4,5,6,7],[8,9,10,11],[],[1]⟩ (.one 0 (.one 1 (.one 2 (.one 3 (.one 4 (.one 5 (.one 6 (.one 7 (.alt 8 (.alt 9 (.alt 10 (.alt 11 (.fin) (.stop)) (.stop)) (.stop)) (.alt 9 (.alt 8 (.alt 10 (.alt 11 (.fin) (.stop)) (.stop)) (.stop)) (.stop))))))))))) none,by kernel_rfl,?_⟩
  refine ⟨_,rfl,rfl,_,rfl,rfl,_,⟨by decide,_,rfl,rfl,rfl⟩,rfl,_,rfl,rfl,_,rfl,rfl,_,rfl,rfl,_,⟨by decide,_,rfl,rfl,rfl⟩,rfl,_,rfl,rfl,?_,?_⟩
  ·refine ⟨rfl,rfl,rfl,rfl,?_⟩
   refine cutR 82 [(1,.ptr 1 0),(2,.ptr 2 0),(3,.ptr 3 0),(4,.ptr 4 0)] [(1,mapP (encQy (Qy.mk k t n [Qy.mk k1 t1 n1 l1,Qy.mk k2 t2 n2 l2]))),(2,[.p (.int .i64 0),.p (.str []),.p (.int .i64 0),.full []]),(3,mapP (encQy (Qy.mk k1 t1 n1 l1))),(4,mapP (encQy (Qy.mk k2 t2 n2 l2)))] rfl ⟨wR,wR,wR,wR,trivial⟩ ⟨hO1 rfl,hO1 rfl,hO1 rfl,hO1 rfl,trivial⟩ ?_
   exact H.out
  ·refine ⟨rfl,rfl,rfl,rfl,?_⟩
   refine cutR 82 [(1,.ptr 1 0),(2,.ptr 2 0),(3,.ptr 3 0),(4,.ptr 4 0)] [(1,mapP (encQy (Qy.mk k t n [Qy.mk k1 t1 n1 l1,Qy.mk k2 t2 n2 l2]))),(2,[.p (.int .i64 0),.p (.str []),.p (.int .i64 0),.full []]),(3,mapP (encQy (Qy.mk k1 t1 n1 l1))),(4,mapP (encQy (Qy.mk k2 t2 n2 l2)))] rfl ⟨wR,wR,wR,wR,trivial⟩ ⟨hO1 rfl,hO1 rfl,hO1 rfl,hO1 rfl,trivial⟩ ?_
   exact H.out
 case rest =>
  refine al_eq (fun h => ?_) (fun h => ?_)
  ·have h : k1 = 1 := h
   rw [if_pos h] at hX
   subst hX
   exact rfl
  have h : ¬ k1 = 1 := h
  rw [if_neg h] at hX
  clear h
  refine ⟨some (fun vs => vs = [.p (.bool (decide (k2 = 1) || s))]),keepA (.p (.bool (decide (k2 = 1) || s))) 24 rfl ?_ ?_⟩
  ·refine al_eq (fun h => ?_) (fun h => ?_)
   ·have h : k2 = 1 := h
    rw [decide_eq_true h]
    exact rfl
   ·have h : ¬ k2 = 1 := h
    rw [decide_eq_false h]
    exact ⟨_,c1.opn,rfl⟩
  generalize (decide (k2 = 1) || s) = c at hX ⊢
  cases c with
  | true =>
    rw [if_pos rfl] at hX
    subst hX
    exact rfl
  | false =>
  rw [if_neg Bool.false_ne_true] at hX
  refine ⟨some (fun vs => vs = [.p (.bool (decide (k1 = k2) && (decide (k1 = 6) || decide (k1 = 7))))]),keepA (.p (.bool (decide (k1 = k2) && (decide (k1 = 6) || decide (k1 = 7))))) 40 rfl ?_ ?_⟩
  ·refine al_eq (fun h => ?_) (fun h => ?_)
   ·have h : k1 = k2 := h
    rw [decide_eq_true h]
    refine al_eq (fun h => ?_) (fun h => ?_)
    ·have h : k1 = 6 := h
     rw [decide_eq_true h]
     exact rfl
    ·have h : ¬ k1 = 6 := h
     rw [decide_eq_false h]
     refine al_eq (fun h => ?_) (fun h => ?_)
     ·have h : k1 = 7 := h
      rw [decide_eq_true h]
      exact rfl
     ·have h : ¬ k1 = 7 := h
      rw [decide_eq_false h]
      exact rfl
   ·have h : ¬ k1 = k2 := h
    rw [decide_eq_false h]
    exact rfl
  generalize (decide (k1 = k2) && (decide (k1 = 6) || decide (k1 = 7))) = c at hX ⊢
  cases c with
  | true =>
    rw [if_pos rfl] at hX
    refine al_dec (fun h1 => ?_) (fun h1 => ?_)
    ·have h1 : n1 < n2 := h1
     rw [decide_eq_true h1] at hX
     refine al_eq (fun h2 => ?_) (fun h2 => ?_)
     ·have h2 : k1 = 6 := h2
      rw [decide_eq_true h2,if_pos rfl] at hX
      subst hX
      refine al_dec (fun h => ?_) (fun h => ?_)
      ·first | exact rfl | exact absurd h (by decide)
      ·first | exact absurd rfl h | exact rfl
     ·have h2 : ¬ k1 = 6 := h2
      rw [decide_eq_false h2,if_neg (by decide)] at hX
      subst hX
      refine al_dec (fun h => ?_) (fun h => ?_)
      ·first | exact rfl | exact absurd h (by decide)
      ·first | exact absurd rfl h | exact rfl
    ·have h1 : ¬ n1 < n2 := h1
     rw [decide_eq_false h1] at hX
     refine al_eq (fun h2 => ?_) (fun h2 => ?_)
     ·have h2 : k1 = 6 := h2
      rw [decide_eq_true h2,if_neg (by decide)] at hX
      subst hX
      refine al_dec (fun h => ?_) (fun h => ?_)
      ·first | exact rfl | exact absurd h (by decide)
      ·first | exact absurd rfl h | exact rfl
     ·have h2 : ¬ k1 = 6 := h2
      rw [decide_eq_false h2,if_pos rfl] at hX
      subst hX
      refine al_dec (fun h => ?_) (fun h => ?_)
      ·first | exact rfl | exact absurd h (by decide)
      ·first | exact absurd rfl h | exact rfl
  | false =>
  rw [if_neg Bool.false_ne_true] at hX
  refine ⟨_,c2.opn,fun r hr => ?_⟩
  subst hr
  cases i with
  | true =>
    rw [if_pos rfl] at hX
    refine al_dec (fun h => ?_) (fun h => ?_)
    ·have h : (t1.length : Int) > (t2.length : Int) := h
     rw [if_pos (by omega)] at hX
     subst hX
     exact rfl
    ·have h : ¬ (t1.length : Int) > (t2.length : Int) := h
     rw [if_neg (by omega)] at hX
     subst hX
     exact rfl
  | false =>
  rw [if_neg Bool.false_ne_true] at hX
  refine ⟨some (fun vs => vs = [.p (.bool (d1 || d2))]),keepA (.p (.bool (d1 || d2))) 71 rfl ?_ ?_⟩
  ·cases d1 with
   | true => exact ⟨_,c3.opn,rfl⟩
   | false => exact ⟨_,c3.opn,_,c4.opn,rfl⟩
  generalize (d1 || d2) = c at hX ⊢
  cases c with
  | true =>
    rw [if_pos rfl] at hX
    subst hX
    exact rfl
  | false =>
  rw [if_neg Bool.false_ne_true] at hX
  refine ⟨_,c5.opn,fun r hr => ?_⟩
  subst hr
  cases w1 with
  | true =>
    rw [if_pos rfl] at hX
    subst hX
    exact rfl
  | false =>
  rw [if_neg Bool.false_ne_true] at hX
  refine ⟨_,c6.opn,fun r hr => ?_⟩
  subst hr
  cases w2 with
  | true =>
    rw [if_pos rfl] at hX
    subst hX
    exact rfl
  | false =>
  rw [if_neg Bool.false_ne_true] at hX
  subst hX
  exact rfl
theorem orR_ok {k : Int} {t : Bytes} {n : Int} (a b : Qy) (hva : allE globB a = 0) (hvb : allE globB b = 0) (hsa : szQ a) (hsb : szQ b) :
 CallsTo C 101 [.agg (encQy (.mk k t n [a,b]))] (fun r => r = .val (.agg (encQy (orR (.mk k t n [a,b]) a b)))) := by
 generalize hX : orR (.mk k t n [a,b]) a b = X
 have c1 := equalR_ok a hsa b hsb
 have c2 := prefixedR_ok a b
 have c3 := negatesR_ok a b hva hsa hsb
 have c4 := negatesR_ok b a hvb hsb hsa
 have c5 := withinR_ok a 10 b (two_len hva (by decide)) hsa hsb
 have c6 := withinR_ok b 10 a (two_len hvb (by decide)) hsb hsa
 unfold orR at hX
 generalize sameQ a b = s at c1 hX
 generalize idsF a b = i at c2 hX
 generalize negatesF a b = d1 at c3 hX
 generalize negatesF b a = d2 at c4 hX
 generalize hasF a 10 b = w1 at c5 hX
 generalize hasF b 10 a = w2 at c6 hX
 obtain ⟨k1,t1,n1,l1⟩ := a
 obtain ⟨k2,t2,n2,l2⟩ := b
 clear hva hvb hsa hsb
 have hX : (if k1 = 2 then (Qy.mk k2 t2 n2 l2) else if k2 = 2 then (Qy.mk k1 t1 n1 l1) else if (decide (k1 = 1) || (decide (k2 = 1) || (d1 || d2))) = true then constQ 1 else if s = true then (Qy.mk k1 t1 n1 l1) else if (decide (k1 = k2) && (decide (k1 = 6) || decide (k1 = 7))) = true then (if decide (n2 < n1) = decide (k1 = 6) then (Qy.mk k1 t1 n1 l1) else (Qy.mk k2 t2 n2 l2)) else if i = true then (if t1.length < t2.length then (Qy.mk k1 t1 n1 l1) else (Qy.mk k2 t2 n2 l2)) else if w1 = true then (Qy.mk k2 t2 n2 l2) else if w2 = true then (Qy.mk k1 t1 n1 l1) else (Qy.mk k t n [Qy.mk k1 t1 n1 l1,Qy.mk k2 t2 n2 l2])) = X := hX
 refine callsTo_of_evO ⟨[],[],false,[],[],[]⟩ [2] Tryz.func101 rfl rfl rfl ?_
 refine share (T := ?T) (fun H => ?main) ?rest
 case main =>
  refine ⟨.plan ⟨[0,1,2,3,4,5,6,7],[8,9,10,11],[],[1]⟩ (.one 0 (.one 1 (.one 2 (.one 3 (.one 4 (.one 5 (.one 6 (.one 7 (.alt 8 (.alt 9 (.alt 10 (.alt 11 (.fin) (.stop)) (.stop)) (.stop)) (.alt 9 (.alt 8 (.alt 10 (.alt 11 (.fin) (.stop)) (.stop)) (.stop)) (.stop))))))))))) none,by kernel_rfl,?_⟩
  refine ⟨_,rfl,rfl,_,rfl,rfl,_,⟨by decide,_,rfl,rfl,rfl⟩,rfl,_,rfl,rfl,_,rfl,rfl,_,rfl,rfl,_,⟨by decide,_,rfl,rfl,rfl⟩,rfl,_,rfl,rfl,?_,?_⟩
  ·refine ⟨rfl,rfl,rfl,rfl,?_⟩
   refine cutR 91 [(1,.ptr 1 0),(2,.ptr 2 0),(3,.ptr 3 0),(4,.ptr 4 0)] [(1,mapP (encQy (Qy.mk k t n [Qy.mk k1 t1 n1 l1,Qy.mk k2 t2 n2 l2]))),(2,[.p (.int .i64 0),.p (.str []),.p (.int .i64 0),.full []]),(3,mapP (encQy (Qy.mk k1 t1 n1 l1))),(4,mapP (encQy (Qy.mk k2 t2 n2 l2)))] rfl ⟨wR,wR,wR,wR,trivial⟩ ⟨hO1 rfl,hO1 rfl,hO1 rfl,hO1 rfl,trivial⟩ ?_
   exact H.out
  ·refine ⟨rfl,rfl,rfl,rfl,?_⟩
   refine cutR 91 [(1,.ptr 1 0),(2,.ptr 2 0),(3,.ptr 3 0),(4,.ptr 4 0)] [(1,mapP (encQy (Qy.mk k t n [Qy.mk k1 t1 n1 l1,Qy.mk k2 t2 n2 l2]))),(2,[.p (.int .i64 0),.p (.str []),.p (.int .i64 0),.full []]),(3,mapP (encQy (Qy.mk k1 t1 n1 l1))),(4,mapP (encQy (Qy.mk k2 t2 n2 l2)))] rfl ⟨wR,wR,wR,wR,trivial⟩ ⟨hO1 rfl,hO1 rfl,hO1 rfl,hO1 rfl,trivial⟩ ?_
   exact H.out
 case rest =>
  refine al_eq (fun h => ?_) (fun h => ?_)
  ·have h : k1 = 2 := h
   rw [if_pos h] at hX
   subst hX
   exact rfl
  have h : ¬ k1 = 2 := h
  rw [if_neg h] at hX
  clear h
  refine al_eq (fun h => ?_) (fun h => ?_)
  ·have h : k2 = 2 := h
   rw [if_pos h] at hX
   subst hX
   exact rfl
  have h : ¬ k2 = 2 := h
  rw [if_neg h] at hX
  clear h
  refine ⟨some (fun vs => vs = [.p (.bool (decide (k1 = 1) || (decide (k2 = 1) || (d1 || d2))))]),keepA (.p (.bool (decide (k1 = 1) || (decide (k2 = 1) || (d1 || d2))))) 38 rfl ?_ ?_⟩
  ·refine al_eq (fun h => ?_) (fun h => ?_)
   ·have h : k1 = 1 := h
    rw [decide_eq_true h]
    exact rfl
   have h : ¬ k1 = 1 := h
   rw [decide_eq_false h]
   refine al_eq (fun h => ?_) (fun h => ?_)
   ·have h : k2 = 1 := h
    rw [decide_eq_true h]
    exact rfl
   have h : ¬ k2 = 1 := h
   rw [decide_eq_false h]
   cases d1 with
   | true => exact ⟨_,c3.opn,rfl⟩
   | false => exact ⟨_,c3.opn,_,c4.opn,rfl⟩
  generalize (decide (k1 = 1) || (decide (k2 = 1) || (d1 || d2))) = c at hX ⊢
  cases c with
  | true =>
    rw [if_pos rfl] at hX
    subst hX
    exact rfl
  | false =>
  rw [if_neg Bool.false_ne_true] at hX
  refine ⟨_,c1.opn,fun r hr => ?_⟩
  subst hr
  cases s with
  | true =>
    rw [if_pos rfl] at hX
    subst hX
    exact rfl
  | false =>
  rw [if_neg Bool.false_ne_true] at hX
  refine ⟨some (fun vs => vs = [.p (.bool (decide (k1 = k2) && (decide (k1 = 6) || decide (k1 = 7))))]),keepA (.p (.bool (decide (k1 = k2) && (decide (k1 = 6) || decide (k1 = 7))))) 58 rfl ?_ ?_⟩
  ·refine al_eq (fun h => ?_) (fun h => ?_)
   ·have h : k1 = k2 := h
    rw [decide_eq_true h]
    refine al_eq (fun h => ?_) (fun h => ?_)
    ·have h : k1 = 6 := h
     rw [decide_eq_true h]
     exact rfl
    ·have h : ¬ k1 = 6 := h
     rw [decide_eq_false h]
     refine al_eq (fun h => ?_) (fun h => ?_)
     ·have h : k1 = 7 := h
      rw [decide_eq_true h]
      exact rfl
     ·have h : ¬ k1 = 7 := h
      rw [decide_eq_false h]
      exact rfl
   ·have h : ¬ k1 = k2 := h
    rw [decide_eq_false h]
    exact rfl
  generalize (decide (k1 = k2) && (decide (k1 = 6) || decide (k1 = 7))) = c at hX ⊢
  cases c with
  | true =>
    rw [if_pos rfl] at hX
    refine al_dec (fun h1 => ?_) (fun h1 => ?_)
    ·have h1 : n2 < n1 := h1
     rw [decide_eq_true h1] at hX
     refine al_eq (fun h2 => ?_) (fun h2 => ?_)
     ·have h2 : k1 = 6 := h2
      rw [decide_eq_true h2,if_pos rfl] at hX
      subst hX
      refine al_dec (fun h => ?_) (fun h => ?_)
      ·first | exact rfl | exact absurd h (by decide)
      ·first | exact absurd rfl h | exact rfl
     ·have h2 : ¬ k1 = 6 := h2
      rw [decide_eq_false h2,if_neg (by decide)] at hX
      subst hX
      refine al_dec (fun h => ?_) (fun h => ?_)
      ·first | exact rfl | exact absurd h (by decide)
      ·first | exact absurd rfl h | exact rfl
    ·have h1 : ¬ n2 < n1 := h1
     rw [decide_eq_false h1] at hX
     refine al_eq (fun h2 => ?_) (fun h2 => ?_)
     ·have h2 : k1 = 6 := h2
      rw [decide_eq_true h2,if_neg (by decide)] at hX
      subst hX
      refine al_dec (fun h => ?_) (fun h => ?_)
      ·first | exact rfl | exact absurd h (by decide)
      ·first | exact absurd rfl h | exact rfl
     ·have h2 : ¬ k1 = 6 := h2
      rw [decide_eq_false h2,if_pos rfl] at hX
      subst hX
      refine al_dec (fun h => ?_) (fun h => ?_)
      ·first | exact rfl | exact absurd h (by decide)
      ·first | exact absurd rfl h | exact rfl
  | false =>
  rw [if_neg Bool.false_ne_true] at hX
  refine ⟨_,c2.opn,fun r hr => ?_⟩
  subst hr
  cases i with
  | true =>
    rw [if_pos rfl] at hX
    refine al_dec (fun h => ?_) (fun h => ?_)
    ·have h : (t1.length : Int) < (t2.length : Int) := h
     rw [if_pos (by omega)] at hX
     subst hX
     exact rfl
    ·have h : ¬ (t1.length : Int) < (t2.length : Int) := h
     rw [if_neg (by omega)] at hX
     subst hX
     exact rfl
  | false =>
  rw [if_neg Bool.false_ne_true] at hX
  refine ⟨_,c5.opn,fun r hr => ?_⟩
  subst hr
  cases w1 with
  | true =>
    rw [if_pos rfl] at hX
    subst hX
    exact rfl
  | false =>
  rw [if_neg Bool.false_ne_true] at hX
  refine ⟨_,c6.opn,fun r hr => ?_⟩
  subst hr
  cases w2 with
  | true =>
    rw [if_pos rfl] at hX
    subst hX
    exact rfl
  | false =>
  rw [if_neg Bool.false_ne_true] at hX
  subst hX
  exact rfl
end Qv

end

section
open Go Go.Proofs Go.RowKit
namespace Qv
theorem optimizeR_ok (q : Qy) : allE globB q = 0 → szQ q → CallsTo C 55 [.agg (encQy q)] (fun r => r = .val (.agg (encQy (optF overF q)))) := by
 refine Qy.ind (P := fun q => allE globB q = 0 → szQ q → CallsTo C 55 [.agg (encQy q)] (fun r => r = .val (.agg (encQy (optF overF q))))) ?_ q
 intro k t n l ih hv hs
 obtain ⟨s1,s2,s3⟩ := szQ_mk.1 hs
 have hmv := mid_valid (O := overF) hv
 have hms : szQ (.mk k t n (optL overF l)) := szQ_mk.2 ⟨s1,by rw [optL_map,List.length_map]; exact s2,fun x hx => by
  obtain ⟨y,hy,rfl⟩ := optL_get x hx
  exact sz_opt y ((allE_zero.1 hv).2 y hy) (s3 y hy)⟩
 have hF : optF overF (.mk k t n l) = stepQ overF (.mk k t n (optL overF l)) := rfl
 rw [hF]
 generalize hX : stepQ overF (.mk k t n (optL overF l)) = X
 have hl2 : l.length ≤ 2 := by
  have := (part_len (allE_zero.1 hv).1).1
  unfold opsN at this
  split at this
  ·omega
  ·split at this <;> omega
 clear hF
 refine cTo' Tryz.func55 rfl rfl rfl ?_
 refine loopR 44 (fun i : Nat => [(1,.ptr 1 0),(2,.ptr 2 0),(3,FV.tip 5 24 4 (encQyL (optL overF (l.take i)))),(4,.p (.int .i64 i))])
  (fun _ => [(1,mapP [.int .i64 k,.str t,.int .i64 n,.sl (encQyL l)]),(2,[.p (.int .i64 0),.p (.str []),.p (.int .i64 0),.full []])])
  (fun i => i ≤ l.length) (fun i => l.length - i) 0 (Nat.zero_le _) rfl ⟨wR,wR,wR,wR,trivial⟩ ⟨hO1 rfl,hO1 rfl,trivial⟩ ?_
 intro i hi
 refine al_ltq (fun hlt => ?_) (fun hge => ?_)
 ·obtain ⟨k',t',n',l',hq⟩ := get_q hlt
  have hmem := List.mem_of_getElem? hq
  have hw5 : IntKind.i64.wrap ((i : Int) + 1) = ((i + 1 : Nat) : Int) := by rw [wrap64 (by omega) (by omega)]; omega
  have hc := ih _ hmem ((allE_zero.1 hv).2 _ hmem) (s3 _ hmem)
  have htk := optL_take (O := overF) hq
  obtain ⟨k2,t2,n2,l2,hx⟩ : ∃ k2 t2 n2 l2,optF overF (.mk k' t' n' l') = .mk k2 t2 n2 l2 := ⟨_,_,_,_,Qy.eta _⟩
  rw [hx] at hc htk
  refine ⟨by omega,_,idx_q hq,rfl,?_⟩
  refine ⟨_,hc,fun r hr => ?_⟩
  subst hr
  refine ⟨encQyL_all _,all_one rfl,?_,encQyL (optL overF (l.take (i + 1))),?_,?_⟩
  ·have : (encQyL (optL overF (l.take i))).length ≤ 2 := by
    rw [encQyL_len,optL_map,List.length_map,List.length_take]; omega
   have e : (chunk 4 1 [AV.int IntKind.i64 k2,AV.str t2,AV.int IntKind.i64 n2,AV.sl (encQyL l2)]).length = 1 := rfl
   show ((encQyL (optL overF (l.take i))).length + (chunk 4 1 [AV.int IntKind.i64 k2,AV.str t2,AV.int IntKind.i64 n2,AV.sl (encQyL l2)]).length) * 56 ≤ 140737488355328
   omega
  ·rw [← htk,← encQyL_snoc]
   rfl
  ·exact ⟨_,hw5,roundR (i + 1) hlt (by show l.length - (i + 1) < l.length - i; omega) rfl ⟨wR,wR,wR,wR,trivial⟩ ⟨hO1 rfl,hO1 rfl,trivial⟩⟩
 have hge : i = l.length := by
  have hi : i ≤ l.length := hi
  omega
 have hm : optL overF (l.take i) = optL overF l := by rw [hge,List.take_length]
 rw [hm]
 clear ih hv s3 hl2 hs hge hm hi
 generalize optL overF l = m at hmv hms hX ⊢
 rcases valid_cases hmv with ⟨h1,h8,rfl⟩ | ⟨hk,rfl,rfl,a,rfl,ha⟩ | ⟨hk,rfl,rfl,a,b,rfl,ha,hb⟩
 ·rw [step_leaf overF (.inl h8)] at hX
  subst hX
  refine al_eq (fun h => absurd (show k = 9 from h) (by omega)) (fun _ => ?_)
  refine al_eq (fun h => absurd (show k = 10 from h) (by omega)) (fun _ => ?_)
  refine al_eq (fun h => absurd (show k = 11 from h) (by omega)) (fun _ => ?_)
  refine al_eq (fun h => absurd (show k = 12 from h) (by omega)) (fun _ => ?_)
  refine al_eq (fun h => absurd (show k = 13 from h) (by omega)) (fun _ => ?_)
  exact rfl
 ·have cn := notR_ok k [] 0 a ha
  have cc := closedR_ok k [] 0 a
  unfold stepQ at hX
  have hX : (if k = 9 then notF (.mk k [] 0 [a]) a else if k = 10 then andF overF (.mk k [] 0 [a]) a ((Qy.mk k [] 0 [a]).nth 1) else if k = 11 then orF (.mk k [] 0 [a]) a ((Qy.mk k [] 0 [a]).nth 1) else if k = 12 ∨ k = 13 then closedF (.mk k [] 0 [a]) a else .mk k [] 0 [a]) = X := hX
  refine al_eq (fun h => ?_) (fun h => ?_)
  ·have h : k = 9 := h
   rw [if_pos h] at hX
   rw [hX] at cn
   obtain ⟨k2,t2,n2,l2⟩ := X
   refine ⟨_,cn,fun r hr => ?_⟩
   subst hr
   exact rfl
  have h9 : ¬ k = 9 := h
  rw [if_neg h9,if_neg (by omega),if_neg (by omega),if_pos (by omega)] at hX
  rw [hX] at cc
  obtain ⟨k2,t2,n2,l2⟩ := X
  refine al_eq (fun h => absurd (show k = 10 from h) (by omega)) (fun _ => ?_)
  refine al_eq (fun h => absurd (show k = 11 from h) (by omega)) (fun _ => ?_)
  refine al_eq (fun h => ?_) (fun h => ?_)
  ·refine ⟨_,cc,fun r hr => ?_⟩
   subst hr
   exact rfl
  have h12 : ¬ k = 12 := h
  refine al_eq (fun h => ?_) (fun h => absurd (show k = 13 by omega) h)
  refine ⟨_,cc,fun r hr => ?_⟩
  subst hr
  exact rfl
 ·have sa := (szQ_mk.1 hms).2.2 a (by simp)
  have sb := (szQ_mk.1 hms).2.2 b (by simp)
  have ca := andR_ok (k := k) (t := []) (n := 0) a b ha hb sa sb
  have co := orR_ok (k := k) (t := []) (n := 0) a b ha hb sa sb
  rw [andR_eq ha hb] at ca
  rw [orR_eq ha hb] at co
  unfold stepQ at hX
  have hX : (if k = 9 then notF (.mk k [] 0 [a,b]) a else if k = 10 then andF overF (.mk k [] 0 [a,b]) a b else if k = 11 then orF (.mk k [] 0 [a,b]) a b else if k = 12 ∨ k = 13 then closedF (.mk k [] 0 [a,b]) a else .mk k [] 0 [a,b]) = X := hX
  rw [if_neg (by omega)] at hX
  refine al_eq (fun h => absurd (show k = 9 from h) (by omega)) (fun _ => ?_)
  refine al_eq (fun h => ?_) (fun h => ?_)
  ·have h : k = 10 := h
   rw [if_pos h] at hX
   rw [hX] at ca
   obtain ⟨k2,t2,n2,l2⟩ := X
   refine ⟨_,ca,fun r hr => ?_⟩
   subst hr
   exact rfl
  have h10 : ¬ k = 10 := h
  rw [if_neg h10,if_pos (by omega)] at hX
  rw [hX] at co
  obtain ⟨k2,t2,n2,l2⟩ := X
  refine al_eq (fun h => ?_) (fun h => absurd (show k = 11 by omega) h)
  refine ⟨_,co,fun r hr => ?_⟩
  subst hr
  exact rfl
theorem optR_ok (q : Qy) (hs : szQ q) : CallsTo C 26 [.agg (encQy q)] (fun r => r = .val (.tup [.agg (encQy (optQ q).1),.int .i64 (optQ q).2])) := by
 have hck := checkR_ok q hs
 have hop := fun h : checkQ globB q = 0 => optimizeR_ok q (check_all h) hs
 unfold optQ
 obtain ⟨k,t,n,l⟩ := q
 refine cTo' Tryz.func26 rfl rfl rfl ?_
 refine ⟨_,hck,fun r hr => ?_⟩
 subst hr
 refine al_ne (fun h => ?_) (fun h => ?_)
 ·rw [if_pos h]
  exact rfl
 have h : checkQ globB (.mk k t n l) = 0 := h
 rw [if_neg (by rw [h]; simp)]
 have hc := hop h
 obtain ⟨k2,t2,n2,l2,hx⟩ : ∃ k2 t2 n2 l2,optF overF (.mk k t n l) = .mk k2 t2 n2 l2 := ⟨_,_,_,_,Qy.eta _⟩
 rw [hx] at hc ⊢
 refine ⟨_,hc,fun r hr => ?_⟩
 subst hr
 exact rfl
theorem weightR_ok (k : Int) : CallsTo C 104 [.int .i64 k] (fun r => r = .val (.int .i64 (weightF k))) := by
 have e : ∀ m : Nat,weightF k = m → (fun r => r = Ret.val (.int .i64 (weightF k))) (.val (.int .i64 (m : Nat))) := fun m h => by rw [h]
 refine cTo' Tryz.func104 rfl rfl rfl ?_
 unfold weightF at e ⊢
 refine al_eq (fun h => ?_) (fun h => ?_)
 ·have h : k = 8 := h
  exact e 2 (if_pos h)
 have h8 : ¬ k = 8 := h
 rw [if_neg h8] at e ⊢
 refine al_eq (fun h => ?_) (fun h => ?_)
 ·exact e 3 (if_pos (.inl h))
 have h3 : ¬ k = 3 := h
 refine al_eq (fun h => ?_) (fun h => ?_)
 ·exact e 3 (if_pos (.inr (.inl h)))
 have h6 : ¬ k = 6 := h
 refine al_eq (fun h => ?_) (fun h => ?_)
 ·exact e 3 (if_pos (.inr (.inr h)))
 have h7 : ¬ k = 7 := h
 rw [if_neg (by omega)] at e ⊢
 refine al_eq (fun h => ?_) (fun h => ?_)
 ·exact e 5 (if_pos h)
 have h4 : ¬ k = 4 := h
 rw [if_neg h4] at e ⊢
 refine al_eq (fun h => ?_) (fun h => ?_)
 ·exact e 20 (if_pos h)
 have h5 : ¬ k = 5 := h
 rw [if_neg h5] at e ⊢
 refine al_eq (fun h => ?_) (fun h => ?_)
 ·exact e 10 (if_pos (.inl h))
 have h12 : ¬ k = 12 := h
 refine al_eq (fun h => ?_) (fun h => ?_)
 ·exact e 10 (if_pos (.inr h))
 have h13 : ¬ k = 13 := h
 exact e 1 (if_neg (by omega))
theorem costL_take {l : List Qy} : ∀ {i : Nat} {q : Qy},l[i]? = some q → costL (l.take i) + costF q = costL (l.take (i + 1)) ∧ costL (l.take (i + 1)) ≤ costL l := by
 induction l with
 | nil => intro i q h; cases h
 | cons x l ih =>
   intro i q h
   cases i with
   | zero =>
     have h : x = q := Option.some.inj h
     subst h
     refine ⟨?_,?_⟩
     ·show 0 + costF x = costF x + 0; omega
     ·show costF x + 0 ≤ costF x + costL l; omega
   | succ i =>
     obtain ⟨h1,h2⟩ := ih (i := i) h
     refine ⟨?_,?_⟩
     ·show costF x + costL (l.take i) + costF q = costF x + costL (l.take (i + 1)); omega
     ·show costF x + costL (l.take (i + 1)) ≤ costF x + costL l; omega
theorem costR_ok (q : Qy) : szQ q → costF q ≤ 1099511627776 → CallsTo C 58 [.agg (encQy q)] (fun r => r = .val (.int .i64 (costF q))) := by
 refine Qy.ind (P := fun q => szQ q → costF q ≤ 1099511627776 → CallsTo C 58 [.agg (encQy q)] (fun r => r = .val (.int .i64 (costF q)))) ?_ q
 intro k t n l ih hs hb
 obtain ⟨s1,s2,s3⟩ := szQ_mk.1 hs
 have hF : costF (.mk k t n l) = weightF k + costL l := Nat.add_comm _ _
 rw [hF] at hb ⊢
 refine cTo' Tryz.func58 rfl rfl rfl ?_
 refine ⟨_,weightR_ok k,fun r hr => ?_⟩
 subst hr
 refine loopR 24 (fun i : Nat => [(1,.ptr 1 0),(3,.p (.int .i64 ((weightF k + costL (l.take i) : Nat)))),(4,.p (.int .i64 i))])
  (fun _ => [(1,mapP [.int .i64 k,.str t,.int .i64 n,.sl (encQyL l)])])
  (fun i => i ≤ l.length) (fun i => l.length - i) 0 (Nat.zero_le _) rfl ⟨wR,wR,wR,trivial⟩ ⟨hO1 rfl,trivial⟩ ?_
 intro i hi
 refine al_ltq (fun hlt => ?_) (fun hge => ?_)
 ·obtain ⟨k',t',n',l',hq⟩ := get_q hlt
  have hmem := List.mem_of_getElem? hq
  have hw5 : IntKind.i64.wrap ((i : Int) + 1) = ((i + 1 : Nat) : Int) := by rw [wrap64 (by omega) (by omega)]; omega
  obtain ⟨c1,c2⟩ := costL_take hq
  have hc := ih _ hmem (s3 _ hmem) (by omega)
  have hw6 : IntKind.i64.wrap (((weightF k + costL (l.take i) : Nat) : Int) + ((costF (.mk k' t' n' l') : Nat) : Int)) = ((weightF k + costL (l.take (i + 1)) : Nat) : Int) := by rw [wrap64 (by omega) (by omega)]; omega
  refine ⟨by omega,_,idx_q hq,rfl,?_⟩
  refine ⟨_,hc,fun r hr => ?_⟩
  subst hr
  refine ⟨_,hw6,?_⟩
  exact ⟨_,hw5,roundR (i + 1) hlt (by show l.length - (i + 1) < l.length - i; omega) rfl ⟨wR,wR,wR,trivial⟩ ⟨hO1 rfl,trivial⟩⟩
 have hge : i = l.length := by
  have hi : i ≤ l.length := hi
  omega
 subst hge
 rw [List.take_length]
 exact rfl
end Qv

end

section
open Go Go.Proofs Go.RowKit
namespace Qv
theorem costRefQ_ok (q : Qy) (hs : szQ q) (hp : checkQ globB q = 0 → q.parts ≤ 200) : CallsTo C 28 [.agg (encQy q)] (fun r => r = .val (.int .i64 (costQ q))) := by
 have hck := checkR_ok q hs
 have hop := fun h : checkQ globB q = 0 => costR_ok q hs (by have := cost_le q; have := hp h; omega)
 unfold costQ
 clear hp
 obtain ⟨k,t,n,l⟩ := q
 refine cTo' Tryz.func28 rfl rfl rfl ?_
 refine ⟨_,hck,fun r hr => ?_⟩
 subst hr
 refine al_ne (fun h => ?_) (fun h => ?_)
 ·rw [if_pos h]
  exact rfl
 have h : checkQ globB (.mk k t n l) = 0 := h
 rw [if_neg (by rw [h]; simp)]
 have hc := hop h
 refine ⟨_,hc,fun r hr => ?_⟩
 subst hr
 exact rfl
end Qv

end
