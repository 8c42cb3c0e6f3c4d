/- The law Disjoint as a contract. No condition. -/
import Derived.Test.YtpoefbbfhebakaaGreatDoorDG
import Derived.Test.YtpoefbbfhebakaaGreatDoorDC
set_option linter.unusedVariables false
set_option linter.unusedSimpArgs false
open Go Go.Proofs Go.RowKit
namespace Qv
theorem disjointRefQ_ok (a b : Qy) (hsa : szQ a) (hsb : szQ b) : CallsTo C 21 [.agg (encQy a), .agg (encQy b)] (fun r => r = .val (.bool (disjQ a b))) := by
 have h1 := checkR_ok a hsa
 have h2 := checkR_ok b hsb
 have h3 := fun (ha : checkQ globB a = 0) (hb : checkQ globB b = 0) => disjointR_ok a b (check_all ha) (check_all hb) hsa hsb
 have h4 := fun (ha : checkQ globB a = 0) (hb : checkQ globB b = 0) => disjointR_ok b a (check_all hb) (check_all ha) hsb hsa
 unfold disjQ eitherF
 obtain ⟨k, t, n, l⟩ := a
 obtain ⟨k', t', n', l'⟩ := b
 refine callsTo_of_ev' Tryz.func21 rfl rfl rfl ?_
 refine ⟨none, ?_⟩
 refine ⟨_, h1, fun r hr => ?_⟩
 subst hr
 refine al_eq (fun e1 => ?_) (fun e1 => ?_)
 ·have e1 : checkQ globB (.mk k t n l) = 0 := e1
  rw [decide_eq_true e1, Bool.true_and]
  refine ⟨_, h2, fun r hr => ?_⟩
  subst hr
  refine al_eq (fun e2 => ?_) (fun e2 => ?_)
  ·have e2 : checkQ globB (.mk k' t' n' l') = 0 := e2
   rw [decide_eq_true e2, Bool.true_and]
   have h3 := h3 e1 e2
   have h4 := h4 e1 e2
   cases hb : disjF overF (.mk k t n l) (.mk k' t' n' l') with
   | true =>
    rw [hb] at h3
    refine ⟨_, h3, fun r hr => ?_⟩
    subst hr
    exact rfl
   | false =>
    rw [hb] at h3
    refine ⟨_, h3, fun r hr => ?_⟩
    subst hr
    refine ⟨_, h4, fun r hr => ?_⟩
    subst hr
    exact rfl
  ·have e2 : ¬ checkQ globB (.mk k' t' n' l') = 0 := e2
   rw [decide_eq_false e2]
   exact rfl
 ·have e1 : ¬ checkQ globB (.mk k t n l) = 0 := e1
  rw [decide_eq_false e1]
  exact rfl
theorem disjoint_law_ok (a b : Qy) (hsa : szQ a) (hsb : szQ b) : CallsTo C 4 [.agg (encQy a), .agg (encQy b)] (fun r => r = .val (.bool true)) := by
 have hsm := smallQ_ok [a, b] (by simp) (fun x hx => by
  rcases List.mem_cons.1 hx with rfl | hx
  ·exact hsa
  ·rw [List.mem_singleton.1 hx]; exact hsb)
 have h1 := disjointQ_ok a b hsa hsb
 have h2 := disjointRefQ_ok a b hsa hsb
 have h3 := disjointQ_ok b a hsb hsa
 rw [← disjQ_comm a b] at h3
 generalize disjQ a b = d at h1 h2 h3
 obtain ⟨k, t, n, l⟩ := a
 obtain ⟨k', t', n', l'⟩ := b
 refine callsTo_of_ev' Tryz.func4 rfl rfl rfl ?_
 generalize hb : (!List.any [Qy.mk k t n l, Qy.mk k' t' n' l'] greatQ) = c at hsm
 refine ⟨_, hsm, fun r hr => ?_⟩
 subst hr
 cases c with
 | false =>
  refine al_not ?_
  refine ⟨_, awakeQ_ok, fun r hr => ?_⟩
  subst hr
  exact rfl
 | true =>
  refine al_not ?_
  refine lex2 20 (by kernel_rfl) ?_
  refine ⟨_, h1, ?_⟩
  refine ⟨_, h2, ?_⟩
  refine al_eq (fun _ => ?_) (fun h => absurd rfl h)
  refine ⟨_, h3, ?_⟩
  refine ⟨_, h1, ?_⟩
  refine al_eq (fun _ => ?_) (fun h => absurd rfl h)
  refine ⟨_, awakeQ_ok, ?_⟩
  exact rfl
end Qv

