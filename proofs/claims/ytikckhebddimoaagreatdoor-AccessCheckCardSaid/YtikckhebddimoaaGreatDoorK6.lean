/- Several texts in one: Contracts of the reference's access: find, has, Contracts: equality of lists of texts (reference), small. No condition. -/
import Derived.Test.YtikckhebddimoaaGreatDoorK2

section
/- Contracts of the reference's access: find, has. No condition. -/
set_option linter.unusedVariables false
set_option linter.unusedSimpArgs false
open Go Go.Proofs Go.RowKit
namespace Qv
theorem refFind_ok (l : List Group) (n : Bytes) (hl : l.length ≤ 2 ^ 40) : CallsTo C 47 [encGroups l, .str n] (fun r => r = .val (.int .i64 (findG l n))) := by
  refine callsTo_of_ev' Tryz.func47 rfl rfl rfl ?_
  refine loopR 20 (fun k : Nat => [(0, .p (encGroups l)), (1, .p (.str n)), (5, .p (.int .i64 k))]) (fun _ => []) (fun k => k ≤ l.length ∧ ∀ i g, i < k → l[i]? = some g → (g.name == n) = false) (fun k => l.length - k) 0 ⟨Nat.zero_le _, fun i g h => absurd h (by omega)⟩ rfl ⟨Weak.refl _, Weak.refl _, Weak.refl _, trivial⟩ trivial ?_
  rintro k ⟨hk, hall⟩
  refine al_lt (fun hlt => ?_) (fun hge => ?_)
  · refine ⟨by omega, [.str (l[k]).name, encS (l[k]).members], idx_map (f := encGroup) rfl hlt, rfl, ?_⟩
    refine al_eq (fun he => ?_) (fun he => ?_)
    · have hq : ((l[k]).name == n) = true := by rw [beq_iff_eq]; exact he
      have : findG l n = (k : Int) := by
        unfold findG
        have : l.findIdx? (fun g => g.name == n) = some k := by
          rw [List.findIdx?_eq_some_iff_getElem]
          refine ⟨hlt, hq, fun j hj => ?_⟩
          rw [hall j l[j] hj (List.getElem?_eq_getElem (by omega))]
          simp
        rw [this]
      rw [this]
      exact rfl
    · have hq : ((l[k]).name == n) = false := by rw [beq_eq_false_iff_ne]; exact he
      refine ⟨((k + 1 : Nat) : Int), by rw [wrap64 (by omega) (by omega)]; omega, roundR (k + 1) ⟨hlt, fun i g hi hg => ?_⟩ (by omega) rfl ⟨Weak.refl _, Weak.refl _, Weak.refl _, trivial⟩ trivial⟩
      by_cases hik : i = k
      · subst hik
        rw [List.getElem?_eq_getElem hlt] at hg
        obtain rfl := Option.some.inj hg
        exact hq
      · exact hall i g (by omega) hg
  · have : findG l n = -1 := by
      unfold findG
      have : l.findIdx? (fun g => g.name == n) = none := by
        rw [List.findIdx?_eq_none_iff]
        intro g hg
        obtain ⟨i, hi⟩ := List.getElem?_of_mem hg
        exact hall i g (by have := (List.getElem?_eq_some_iff.1 hi).1; omega) hi
      rw [this]
    rw [this]
    exact rfl
theorem has_ok (l : List Bytes) (n : Bytes) (hl : l.length ≤ 2 ^ 40) : CallsTo C 48 [encS l, .str n] (fun r => r = .val (.bool (l.contains n))) := by
  refine callsTo_of_ev' Tryz.func48 rfl rfl rfl ?_
  refine loopR 18 (fun k : Nat => [(0, .p (encS l)), (1, .p (.str n)), (5, .p (.int .i64 k))]) (fun _ => []) (fun k => k ≤ l.length ∧ ∀ i g, i < k → l[i]? = some g → g ≠ n) (fun k => l.length - k) 0 ⟨Nat.zero_le _, fun i g h => absurd h (by omega)⟩ rfl ⟨Weak.refl _, Weak.refl _, Weak.refl _, trivial⟩ trivial ?_
  rintro k ⟨hk, hall⟩
  refine al_lt (fun hlt => ?_) (fun hge => ?_)
  · refine ⟨by omega, _, idx_map rfl hlt, rfl, ?_⟩
    refine al_eq (fun he => ?_) (fun he => ?_)
    · have he : l[k] = n := he
      have h1 : l.contains n = true := by
        rw [List.contains_iff_mem, ← he]
        exact List.getElem_mem hlt
      rw [h1]
      exact rfl
    · have he : l[k] ≠ n := he
      refine ⟨((k + 1 : Nat) : Int), by rw [wrap64 (by omega) (by omega)]; omega, roundR (k + 1) ⟨hlt, fun i g hi hg => ?_⟩ (by omega) rfl ⟨Weak.refl _, Weak.refl _, Weak.refl _, trivial⟩ trivial⟩
      by_cases hik : i = k
      · subst hik
        rw [List.getElem?_eq_getElem hlt] at hg
        obtain rfl := Option.some.inj hg
        exact he
      · exact hall i g (by omega) hg
  · have h1 : l.contains n = false := by
      cases hq : l.contains n with
      | false => rfl
      | true =>
        rw [List.contains_iff_mem] at hq
        obtain ⟨i, hi⟩ := List.getElem?_of_mem hq
        exact absurd rfl (hall i n (by have := (List.getElem?_eq_some_iff.1 hi).1; omega) hi)
    rw [h1]
    exact rfl
end Qv

end

section
/- Contracts: equality of lists of texts (reference), small. No condition. -/
set_option linter.unusedVariables false
set_option linter.unusedSimpArgs false
open Go Go.Proofs Go.RowKit
namespace Qv
end Qv

end
