/- The statement QuerylangParse: Parse returns the results of the reference. No condition. -/
import Derived.Test.YtpoefbbfhebakaaGreatDoorHh
import Derived.Test.YtpoefbbfhebakaaGreatDoorHZ
set_option linter.unusedVariables false
set_option linter.unusedSimpArgs false
open Go Go.Proofs Go.RowKit
namespace Qv
theorem parse_law_ok (s : Bytes) (hs : s.length ≤ 2 ^ 62) : CallsTo C 9 [.str s] (fun r => r = .val (.bool true)) := by
 refine cTo' Tryz.func9 rfl rfl rfl ?_
 refine al_dec (fun h => ?_) (fun h => ?_)
 ·refine ⟨_,awakeL_ok,fun r hr => ?_⟩
  subst hr
  exact rfl
 have h : ¬ (s.length : Int) > 300 := h
 have p1 := parseQ_ok s (by omega)
 have p2 := parseRef_ok s (by omega)
 have hany : ∃ (k : Int) (t : Bytes) (n : Int) (l : List Qy) (i : Nat) (c : Int),parseQ s = parsed (.mk k t n l) i c ∧ szQ (.mk k t n l) := by
  rcases parse_cases2 s (by omega) with ⟨⟨k,t,n,l⟩,-,hq,-,e⟩ | ⟨i,c,-,e⟩
  ·exact ⟨k,t,n,l,_,_,e,hq⟩
  ·exact ⟨0,[],0,[],i,c,e,sz_zero⟩
 obtain ⟨k,t,n,l,i,c,e,hq⟩ := hany
 rw [e] at p1 p2
 have p1 : CallsTo C 35 [.str s] (fun r => r = .val (.tup [.agg (encQy (.mk k t n l)),.int .i64 i,.int .i64 c])) := p1
 have p2 : CallsTo C 36 [.str s] (fun r => r = .val (.tup [.agg (encQy (.mk k t n l)),.int .i64 i,.int .i64 c])) := p2
 have hsm := sameQ_ok (.mk k t n l) hq (.mk k t n l) hq
 rw [sameQ_refl] at hsm
 refine ⟨_,p1,fun r hr => ?_⟩
 subst hr
 refine ⟨_,p2,fun r hr => ?_⟩
 subst hr
 refine ⟨none,?_⟩
 refine ⟨_,hsm,fun r hr => ?_⟩
 subst hr
 refine al_eq (fun _ => ?_) (fun h => absurd rfl h)
 refine al_eq (fun _ => ?_) (fun h => absurd rfl h)
 refine ⟨_,awakeL_ok,fun r hr => ?_⟩
 subst hr
 exact rfl
end Qv

