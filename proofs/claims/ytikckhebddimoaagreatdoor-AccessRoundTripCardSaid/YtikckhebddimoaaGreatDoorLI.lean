/- The laws AccessParse, AccessAllowed, AccessPaths as contracts. No condition. -/
import Derived.Test.YtikckhebddimoaaGreatDoorLH
set_option linter.unusedVariables false
set_option linter.unusedSimpArgs false
open Go Go.Proofs Go.RowKit
namespace Qv
theorem valid_small {a : Access} (h : checkF a = 0) : a.groups.length ≤ 100 ∧ a.rules.length ≤ 100 ∧ ∀ g, g ∈ a.groups → g.members.length ≤ 100 := by
  have hv := checkF_zero.1 h
  refine ⟨hv.gl, hv.rl, fun g hg => ?_⟩
  obtain ⟨i, hi⟩ := List.getElem?_of_mem hg
  have := (groupE_zero (hv.groups i g hi)).2.2
  unfold membersF at this
  split at this
  · cases this
  · omega
theorem parse_small (s : Bytes) : (parseA s).1.groups.length ≤ 100 ∧ (parseA s).1.rules.length ≤ 100 ∧ ∀ g, g ∈ (parseA s).1.groups → g.members.length ≤ 100 := by
  rcases parse_end s with ⟨h, -⟩ | ⟨h, -⟩
  · exact valid_small h
  · rw [h]
    exact ⟨by decide, by decide, fun g hg => by cases hg⟩
end Qv

