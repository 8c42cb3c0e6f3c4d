/- Several texts in one: Contracts: Optimize, the example of the chapter, small and what follows. No condition. -/
import Derived.Test.YtpoefbbfhebakaaGreatDoorFB
set_option linter.unusedVariables false
set_option linter.unusedSimpArgs false

section
open Go Go.Proofs Go.RowKit
namespace Qv
noncomputable def optQ (q : Qy) : Qy × Int := if checkQ globB q ≠ 0 then (zeroQ,checkQ globB q) else (optF overF q,0)
theorem optQ_ok (q : Qy) (hs : szQ q) : CallsTo C 25 [.agg (encQy q)] (fun r => r = .val (.tup [.agg (encQy (optQ q).1),.int .i64 (optQ q).2])) := by
 have hck := check_ok q hs
 have hop := fun h : checkQ globB q = 0 => optimizeC_ok q (check_all h) hs
 unfold optQ
 obtain ⟨k,t,n,l⟩ := q
 refine cTo' Tryz.func25 rfl rfl rfl ?_
 refine ⟨_,hck,fun r hr => ?_⟩
 subst hr
 refine al_ne (fun h => ?_) (fun h => ?_)
 ·rw [if_pos h]
  exact rfl
 have h : checkQ globB (.mk k t n l) = 0 := h
 rw [if_neg (by rw [h]; simp)]
 have hc := hop h
 obtain ⟨k2,t2,n2,l2,hx⟩ : ∃ k2 t2 n2 l2,optF overF (.mk k t n l) = .mk k2 t2 n2 l2 := ⟨_,_,_,_,Qy.eta _⟩
 rw [hx] at hc ⊢
 refine lex2 3 (by kernel_rfl) ?_
 refine ⟨_,rules_ok,?_⟩
 refine ⟨_,hc,?_⟩
 exact rfl
def annQ : Qy := .mk 3 [97,110,110] 0 []
def bobQ : Qy := .mk 3 [98,111,98] 0 []
def befQ (n : Int) : Qy := .mk 6 [] n []
def exA : Qy := .mk 9 [] 0 [.mk 10 [] 0 [annQ,.mk 9 [] 0 [befQ 5]]]
def exB : Qy := .mk 10 [] 0 [befQ 5,.mk 10 [] 0 [constQ 1,befQ 3]]
def exC : Qy := .mk 10 [] 0 [annQ,bobQ]
def exN : Qy := .mk 11 [] 0 [.mk 9 [] 0 [annQ],befQ 5]
theorem awNot_ok (q : Qy) : CallsTo C 41 [.agg (encQy q)] (fun r => r = .val (.agg (encQy (.mk 9 [] 0 [q])))) := by
 obtain ⟨k1,t1,n1,l1⟩ := q
 refine cTo' Tryz.func41 rfl rfl rfl ?_
 exact rfl
theorem awTwo_ok (k : Int) (a b : Qy) : CallsTo C 42 [.int .i64 k,.agg (encQy a),.agg (encQy b)] (fun r => r = .val (.agg (encQy (.mk k [] 0 [a,b])))) := by
 obtain ⟨k1,t1,n1,l1⟩ := a
 obtain ⟨k2,t2,n2,l2⟩ := b
 refine cTo' Tryz.func42 rfl rfl rfl ?_
 exact rfl
theorem awBef_ok (n : Int) : CallsTo C 43 [.int .i64 n] (fun r => r = .val (.agg (encQy (befQ n)))) := by
 refine cTo' Tryz.func43 rfl rfl rfl ?_
 exact rfl
theorem exA_check : checkQ globB exA = 0 := by decide +kernel
theorem exN_check : checkQ globB exN = 0 := by decide +kernel
theorem exB_check : checkQ globB exB = 0 := by decide +kernel
theorem exC_check : checkQ globB exC = 0 := by decide +kernel
theorem exAB_check : checkQ globB annQ = 0 ∧ checkQ globB bobQ = 0 := by decide +kernel
theorem exA_normal : normalF exA false = exN := by kernel_rfl
theorem exA_norm : normF exA = (exN,0) := by
 unfold normF
 rw [exA_check,exA_normal,exN_check]
 rfl
theorem exB_opt : optQ exB = (befQ 3,0) := by
 unfold optQ
 rw [exB_check]
 have : optF overF exB = befQ 3 := by kernel_rfl
 rw [this]
 rfl
theorem exC_opt : optQ exC = (constQ 2,0) := by
 unfold optQ
 rw [exC_check]
 have : optF overF exC = constQ 2 := by kernel_rfl
 rw [this]
 rfl
theorem exD : disjQ annQ bobQ = true := by
 unfold disjQ
 rw [exAB_check.1,exAB_check.2]
 have : eitherF overF annQ bobQ = true := by kernel_rfl
 rw [this]
 rfl
theorem sz_ann : szQ annQ := szQ_mk.2 ⟨by decide,by decide,fun x hx => by cases hx⟩
theorem sz_bob : szQ bobQ := szQ_mk.2 ⟨by decide,by decide,fun x hx => by cases hx⟩
theorem sz_bef (n : Int) : szQ (befQ n) := szQ_mk.2 ⟨by simp,by simp,fun x hx => by cases hx⟩
theorem sz_exA : szQ exA := sz_one (sz_two sz_ann (sz_one (sz_bef 5)))
theorem sz_exB : szQ exB := sz_two (sz_bef 5) (sz_two (sz_const 1) (sz_bef 3))
theorem sz_exC : szQ exC := sz_two sz_ann sz_bob
theorem sz_exN : szQ exN := sz_two (sz_one sz_ann) (sz_bef 5)
set_option maxRecDepth 100000 in
theorem awakeQ_ok : CallsTo C 16 [] (fun r => r = .val (.bool true)) := by
 have cA := normQ_ok exA sz_exA
 rw [exA_norm] at cA
 have cB := optQ_ok exB sz_exB
 rw [exB_opt] at cB
 have cC := optQ_ok exC sz_exC
 rw [exC_opt] at cC
 have cD := disjointQ_ok annQ bobQ sz_ann sz_bob
 rw [exD] at cD
 have s1 := sameQ_ok exN sz_exN exN sz_exN
 rw [sameQ_refl] at s1
 have s2 := sameQ_ok (befQ 3) (sz_bef 3) (befQ 3) (sz_bef 3)
 rw [sameQ_refl] at s2
 refine cTo' Tryz.func16 rfl rfl rfl ?_
 refine ⟨.plan ⟨[0,1,2,3,4,5,6,7,8,9,10,11,12],[13,14],[],[1]⟩ (.one 0 (.one 1 (.one 2 (.one 3 (.one 4 (.one 5 (.one 6 (.one 7 (.one 8 (.one 9 (.one 10 (.one 11 (.one 12 (.alt 13 (.alt 14 (.one 15 (.fin)) (.stop)) (.stop))))))))))))))) none,by kernel_rfl,?_⟩
 refine ⟨_,rfl,rfl,_,rfl,rfl,_,rfl,rfl,_,rfl,rfl,_,rfl,rfl,?_⟩
 refine ⟨_,⟨_,awBef_ok 5,fun r hr => by subst hr; rfl⟩,rfl,?_⟩
 refine ⟨_,⟨_,awNot_ok (befQ 5),fun r hr => by subst hr; rfl⟩,rfl,?_⟩
 refine ⟨_,⟨_,awTwo_ok 10 annQ (.mk 9 [] 0 [befQ 5]),fun r hr => by subst hr; rfl⟩,rfl,?_⟩
 refine ⟨_,⟨_,awNot_ok (.mk 10 [] 0 [annQ,.mk 9 [] 0 [befQ 5]]),fun r hr => by subst hr; rfl⟩,rfl,?_⟩
 refine ⟨_,⟨_,cA,fun r hr => by subst hr; rfl⟩,rfl,?_⟩
 refine ⟨_,rfl,rfl,_,rfl,rfl,_,rfl,rfl,rfl,rfl,?_⟩
 refine ⟨_,rfl,?_⟩
 refine ⟨_,awBef_ok 5,fun r hr => ?_⟩
 subst hr
 refine ⟨_,awBef_ok 3,fun r hr => ?_⟩
 subst hr
 refine ⟨_,awTwo_ok 10 (constQ 1) (befQ 3),fun r hr => ?_⟩
 subst hr
 refine ⟨_,awTwo_ok 10 (befQ 5) (.mk 10 [] 0 [constQ 1,befQ 3]),fun r hr => ?_⟩
 subst hr
 refine ⟨_,cB,fun r hr => ?_⟩
 subst hr
 refine ⟨_,awTwo_ok 10 annQ bobQ,fun r hr => ?_⟩
 subst hr
 refine ⟨_,cC,fun r hr => ?_⟩
 subst hr
 refine lex2 38 (by kernel_rfl) ?_
 refine al_eq (fun _ => ?_) (fun h => absurd rfl h)
 refine al_eq (fun _ => ?_) (fun h => absurd rfl h)
 refine al_eq (fun _ => ?_) (fun h => absurd rfl h)
 refine ⟨_,awNot_ok annQ,?_⟩
 refine ⟨_,awBef_ok 5,?_⟩
 refine ⟨_,awTwo_ok 11 (.mk 9 [] 0 [annQ]) (befQ 5),?_⟩
 refine ⟨_,s1,?_⟩
 refine ⟨_,awBef_ok 3,?_⟩
 refine ⟨_,s2,?_⟩
 refine al_eq (fun _ => ?_) (fun h => absurd rfl h)
 refine ⟨_,cD,?_⟩
 exact rfl
end Qv

end

section
open Go Go.Proofs Go.RowKit
namespace Qv
theorem indexF_ok (g : FuncId) (P : Qy → Bool) (l : List Qy) (hl : l.length ≤ 2 ^ 47) (hx : ∀ x,x ∈ l → CallsTo C g [.agg (encQy x)] (fun r => r = .val (.bool (P x)))) :
 CallsTo C 72 [.sl (encQyL l),fnV g] (fun r => ∃ j : Int,r = .val (.int .i64 j) ∧ (0 ≤ j ↔ l.any P = true)) := by
 refine cTo' Tryz.func72 rfl rfl rfl ?_
 refine loopR 19 (fun i : Nat => [(0,.p (.sl (encQyL l))),(1,.p (fnV g)),(7,.p (.int .i64 (encQyL l).length)),(8,.p (.int .i64 i))]) (fun _ => [])
  (fun i => i ≤ l.length ∧ ((l.drop i).any P = true ↔ l.any P = true)) (fun i => l.length - i) 0 ⟨Nat.zero_le _,Iff.rfl⟩ rfl ⟨wR,wR,wR,wR,trivial⟩ trivial ?_
 rintro i ⟨hi,hX⟩
 have hi : i ≤ l.length := hi
 refine al_ltq (fun hlt => ?_) (fun hge => ?_)
 ·obtain ⟨k',t',n',l',hq⟩ := get_q hlt
  have hmem := List.mem_of_getElem? hq
  have hw5 : IntKind.i64.wrap ((i : Int) + 1) = ((i + 1 : Nat) : Int) := by rw [wrap64 (by omega) (by omega)]; omega
  rw [drop_at hq,List.any_cons] at hX
  have hc := hx _ hmem
  refine ⟨by omega,_,idx_q hq,rfl,?_⟩
  cases hb : P (.mk k' t' n' l') with
  | true =>
    rw [hb] at hc hX
    refine ⟨_,hc,fun r hr => ?_⟩
    subst hr
    exact ⟨i,rfl,fun _ => hX.1 rfl,fun _ => by omega⟩
  | false =>
    rw [hb,Bool.false_or] at hX
    rw [hb] at hc
    refine ⟨_,hc,fun r hr => ?_⟩
    subst hr
    exact ⟨_,hw5,roundR (i + 1) ⟨hlt,hX⟩ (by show l.length - (i + 1) < l.length - i; omega) rfl ⟨wR,wR,wR,wR,trivial⟩ trivial⟩
 ·have hge : i = l.length := by omega
  subst hge
  rw [List.drop_length] at hX
  refine ⟨-1,rfl,?_⟩
  rw [← hX]
  simp
theorem containsF_ok (g : FuncId) (P : Qy → Bool) (l : List Qy) (hl : l.length ≤ 2 ^ 47) (hx : ∀ x,x ∈ l → CallsTo C g [.agg (encQy x)] (fun r => r = .val (.bool (P x)))) :
 CallsTo C 40 [.sl (encQyL l),fnV g] (fun r => r = .val (.bool (l.any P))) := by
 refine cTo' Tryz.func40 rfl rfl rfl ?_
 refine ⟨_,indexF_ok g P l hl hx,?_⟩
 rintro r ⟨j,rfl,hj⟩
 refine al_dec (fun h => ?_) (fun h => ?_)
 ·have h : j ≥ 0 := h
  rw [hj.1 h]
  exact rfl
 ·have h : ¬ j ≥ 0 := h
  have e : l.any P = false := by
   cases hb : l.any P with
   | false => rfl
   | true => exact absurd (hj.2 hb) h
  rw [e]
  exact rfl
theorem smallQ_ok (l : List Qy) (hl : l.length ≤ 2 ^ 47) (hs : ∀ x,x ∈ l → szQ x) : CallsTo C 15 [.sl (encQyL l)] (fun r => r = .val (.bool (!l.any greatQ))) := by
 refine cTo' Tryz.func15 rfl rfl rfl ?_
 refine ⟨_,containsF_ok 30 greatQ l hl (fun x hx => greatQ_ok x (hs x hx)),fun r hr => ?_⟩
 subst hr
 refine al_not ?_
 exact rfl
end Qv

end

section
open Go Go.Proofs Go.RowKit
namespace Qv
end Qv

end
