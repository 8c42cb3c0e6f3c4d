/- Contracts: the law Cheaper. No condition. -/
import Derived.Test.YtpoefbbfhebakaaGreatDoorEJ
import Derived.Test.YtpoefbbfhebakaaGreatDoorEC
set_option linter.unusedVariables false
set_option linter.unusedSimpArgs false
open Go Go.Proofs Go.RowKit
namespace Qv
theorem cheaper_law_ok (q : Qy) (hs : szQ q) : CallsTo C 7 [.agg (encQy q)] (fun r => r = .val (.bool true)) := by
 have hsm := smallQ_ok [q] (by simp) (fun x hx => by rw [List.mem_singleton.1 hx]; exact hs)
 have h1 := optQ_ok q hs
 have hck := check_ok q hs
 have hcq := costC_ok q hs check_parts
 have hsq := size_ok q hs
 by_cases hv : checkQ globB q = 0
 ·have hx : optQ q = (optF overF q, 0) := if_neg (by rw [hv]; simp)
  have hvx : checkQ globB (optF overF q) = 0 := opt_check hv
  have hsx : szQ (optF overF q) := sz_opt q (check_all hv) hs
  have hf := (opt_facts (O := overF) q (check_all hv)).2.1
  have h2 := optQ_ok (optF overF q) hsx
  have hx2 : optQ (optF overF q) = (optF overF q, 0) := by
   have : optQ (optF overF q) = (optF overF (optF overF q), 0) := if_neg (by rw [hvx]; simp)
   rw [this, opt_twice (check_all hv)]
  have h3 := check_ok _ hsx
  have h4 := checkR_ok _ hsx
  have h5 := costC_ok _ hsx check_parts
  have h6 := size_ok _ hsx
  have h7 := sameQ_ok _ hsx _ hsx
  rw [sameQ_refl] at h7
  rw [hx] at h1
  rw [hx2] at h2
  rw [hvx] at h3 h4
  have c1 : costQ (optF overF q) = (costF (optF overF q) : Int) := if_neg (by rw [hvx]; simp)
  have c2 : costQ q = (costF q : Int) := if_neg (by rw [hv]; simp)
  rw [c1] at h5
  rw [c2] at hcq
  rw [if_pos hvx] at h6
  rw [if_pos hv] at hsq
  obtain ⟨p1, p2, p3⟩ := hf
  generalize costF (optF overF q) = ca at h5 p3
  generalize costF q = cb at hcq p3
  generalize (optF overF q).parts = pa at h6 p1
  generalize q.parts = pb at hsq p1
  clear hx hx2 hvx hsx c1 c2 p2
  generalize optF overF q = x at h1 h2 h3 h4 h5 h6 h7
  obtain ⟨k2, t2, n2, l2⟩ := x
  obtain ⟨k, t, n, l⟩ := q
  refine callsTo_of_ev' Tryz.func7 rfl rfl rfl ?_
  generalize hb : (!List.any [Qy.mk k t n l] greatQ) = b at hsm
  refine ⟨_, hsm, fun r hr => ?_⟩
  subst hr
  cases b with
  | false =>
   refine al_not ?_
   refine ⟨_, awakeQ_ok, fun r hr => ?_⟩
   subst hr
   exact rfl
  | true =>
   refine al_not ?_
   refine ⟨_, h1, fun r hr => ?_⟩
   subst hr
   refine al_ne (fun h => absurd rfl h) (fun _ => ?_)
   refine ⟨_, h2, fun r hr => ?_⟩
   subst hr
   refine lex2 35 (by kernel_rfl) ?_
   refine ⟨_, h3, ?_⟩
   refine al_eq (fun _ => ?_) (fun h => absurd rfl h)
   refine ⟨_, h4, ?_⟩
   refine al_eq (fun _ => ?_) (fun h => absurd rfl h)
   refine ⟨_, h5, ?_⟩
   refine ⟨_, hcq, ?_⟩
   refine al_dec (fun _ => ?_) (fun h => absurd (show (ca : Int) ≤ (cb : Int) by omega) h)
   refine ⟨_, h6, ?_⟩
   refine ⟨_, hsq, ?_⟩
   refine al_dec (fun _ => ?_) (fun h => absurd (show (pa : Int) ≤ (pb : Int) by omega) h)
   refine al_eq (fun _ => ?_) (fun h => absurd rfl h)
   refine ⟨_, h7, ?_⟩
   refine ⟨_, awakeQ_ok, ?_⟩
   exact rfl
 ·have hx : optQ q = (zeroQ, checkQ globB q) := if_pos hv
  have c2 : costQ q = 0 := if_pos hv
  rw [hx] at h1
  rw [c2] at hcq
  clear hx c2 hsq
  generalize checkQ globB q = e at hv h1 hck
  obtain ⟨k, t, n, l⟩ := q
  refine callsTo_of_ev' Tryz.func7 rfl rfl rfl ?_
  generalize hb : (!List.any [Qy.mk k t n l] greatQ) = b at hsm
  refine ⟨_, hsm, fun r hr => ?_⟩
  subst hr
  cases b with
  | false =>
   refine al_not ?_
   refine ⟨_, awakeQ_ok, fun r hr => ?_⟩
   subst hr
   exact rfl
  | true =>
   refine al_not ?_
   refine ⟨_, h1, fun r hr => ?_⟩
   subst hr
   refine al_ne (fun _ => ?_) (fun h => absurd h hv)
   refine ⟨none, ?_⟩
   refine al_eq (fun _ => ?_) (fun h => absurd rfl h)
   refine ⟨_, hck, fun r hr => ?_⟩
   subst hr
   refine al_eq (fun _ => ?_) (fun h => absurd rfl h)
   refine ⟨_, hcq, fun r hr => ?_⟩
   subst hr
   refine al_eq (fun _ => ?_) (fun h => absurd rfl h)
   refine ⟨_, awakeQ_ok, fun r hr => ?_⟩
   subst hr
   exact rfl
end Qv

