/- Several texts in one: Contracts of the reference's access: find, has, Contracts: equality of lists of texts (reference), small. No condition. -/
import Derived.Test.YtikckhebddimoaaGreatDoorN2

section
/- Contracts of the reference's access: find, has. No condition. -/
set_option linter.unusedVariables false
set_option linter.unusedSimpArgs false
open Go Go.Proofs Go.RowKit
namespace Qv
end Qv

end

section
/- Contracts: equality of lists of texts (reference), small. No condition. -/
set_option linter.unusedVariables false
set_option linter.unusedSimpArgs false
open Go Go.Proofs Go.RowKit
namespace Qv
def smallF (l : List Bytes) : Bool := l.all (fun s => decide (s.length ≤ 40)) && decide (l.length ≤ 6)
theorem small_ok (l : List Bytes) (hl : l.length ≤ 2 ^ 60) : CallsTo C 18 [encS l] (fun r => r = .val (.bool (smallF l))) := by
  refine callsTo_of_ev' Tryz.func18 rfl rfl rfl ?_
  refine loopR 18 (fun k : Nat => [(0, .p (encS l)), (5, .p (encS l)), (6, .p (.int .i64 (l.map enc1).length)), (7, .p (.int .i64 k))]) (fun _ => []) (fun k => k ≤ l.length ∧ ∀ i g, i < k → l[i]? = some g → g.length ≤ 40) (fun k => l.length - k) 0 ⟨Nat.zero_le _, fun i g h => absurd h (by omega)⟩ rfl ⟨Weak.refl _, Weak.refl _, Weak.refl _, Weak.refl _, trivial⟩ trivial ?_
  rintro k ⟨hk, hall⟩
  refine al_lt (fun hlt => ?_) (fun hge => ?_)
  · refine ⟨by omega, _, idx_map rfl hlt, rfl, ?_⟩
    refine al_dec (fun hg => ?_) (fun hg => ?_)
    · have hg : ((l[k]).length : Int) > 40 := hg
      have : smallF l = false := by
        unfold smallF
        have : l.all (fun s => decide (s.length ≤ 40)) = false := by
          rw [List.all_eq_false]
          exact ⟨l[k], List.getElem_mem hlt, by simp; omega⟩
        rw [this, Bool.false_and]
      rw [this]
      exact rfl
    · have hg : ¬ ((l[k]).length : Int) > 40 := hg
      refine ⟨((k + 1 : Nat) : Int), by rw [wrap64 (by omega) (by omega)]; omega, roundR (k + 1) ⟨hlt, fun i g hi hgi => ?_⟩ (by omega) rfl ⟨Weak.refl _, Weak.refl _, Weak.refl _, Weak.refl _, trivial⟩ trivial⟩
      by_cases hik : i = k
      · subst hik
        rw [List.getElem?_eq_getElem hlt] at hgi
        obtain rfl := Option.some.inj hgi
        omega
      · exact hall i g (by omega) hgi
  · have h1 : l.all (fun s => decide (s.length ≤ 40)) = true := by
      rw [List.all_eq_true]
      intro g hg
      obtain ⟨i, hi⟩ := List.getElem?_of_mem hg
      have := hall i g (by have := (List.getElem?_eq_some_iff.1 hi).1; omega) hi
      simpa using this
    refine ⟨fun t ht => ?_⟩
    have hlen : ((l.map enc1).length : Int) = (l.length : Int) := by simp
    have : smallF l = t := by
      unfold smallF
      rw [h1, Bool.true_and, ht]
      show _ = decide (((l.map enc1).length : Int) ≤ 6)
      rw [hlen]
      apply decide_eq_decide.2
      omega
    rw [this]
    exact rfl
end Qv

end
