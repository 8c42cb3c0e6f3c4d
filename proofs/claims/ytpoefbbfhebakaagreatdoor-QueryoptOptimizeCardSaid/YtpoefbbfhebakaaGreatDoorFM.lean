/- Contracts: the laws Optimize and Cheaper. No condition. -/
import Derived.Test.YtpoefbbfhebakaaGreatDoorFJ
import Derived.Test.YtpoefbbfhebakaaGreatDoorFI
import Derived.Test.YtpoefbbfhebakaaGreatDoorFC
set_option linter.unusedVariables false
set_option linter.unusedSimpArgs false
open Go Go.Proofs Go.RowKit
namespace Qv
theorem optimize_law_ok (q : Qy) (hs : szQ q) : CallsTo C 6 [.agg (encQy q)] (fun r => r = .val (.bool true)) := by
 have hsm := smallQ_ok [q] (by simp) (fun x hx => by rw [List.mem_singleton.1 hx]; exact hs)
 have h1 := optQ_ok q hs
 have h2 := optR_ok q hs
 have hz := sz_optQ q hs
 have h3 := sameQ_ok (optQ q).1 hz (optQ q).1 hz
 have h4 := costC_ok q hs check_parts
 have h5 := costRefQ_ok q hs check_parts
 rw [sameQ_refl] at h3
 generalize (optQ q).2 = e at h1 h2
 obtain ⟨k2,t2,n2,l2,hx⟩ : ∃ k2 t2 n2 l2,(optQ q).1 = .mk k2 t2 n2 l2 := ⟨_,_,_,_,Qy.eta _⟩
 rw [hx] at h1 h2 h3
 generalize costQ q = cq at h4 h5
 obtain ⟨k,t,n,l⟩ := q
 refine cTo' Tryz.func6 rfl rfl rfl ?_
 generalize hb : (!List.any [Qy.mk k t n l] greatQ) = b at hsm
 refine ⟨_,hsm,fun r hr => ?_⟩
 subst hr
 cases b with
 | false =>
   refine al_not ?_
   refine ⟨_,awakeQ_ok,fun r hr => ?_⟩
   subst hr
   exact rfl
 | true =>
   refine al_not ?_
   refine ⟨_,h1,fun r hr => ?_⟩
   subst hr
   refine ⟨_,h2,fun r hr => ?_⟩
   subst hr
   refine lex2 19 (by kernel_rfl) ?_
   refine ⟨_,h3,?_⟩
   refine al_eq (fun _ => ?_) (fun h => absurd rfl h)
   refine ⟨_,h4,?_⟩
   refine ⟨_,h5,?_⟩
   refine al_eq (fun _ => ?_) (fun h => absurd rfl h)
   refine ⟨_,awakeQ_ok,?_⟩
   exact rfl
end Qv

