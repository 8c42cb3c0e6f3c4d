/- Several texts in one: Contracts of the reference's access: find, has, Contracts: equality of lists of texts (reference), small. No condition. -/
import Derived.Test.YtikckhebddimoaaGreatDoorL2

section
/- Contracts of the reference's access: find, has. No condition. -/
set_option linter.unusedVariables false
set_option linter.unusedSimpArgs false
open Go Go.Proofs Go.RowKit
namespace Qv
end Qv

end

section
/- Contracts: equality of lists of texts (reference), small. No condition. -/
set_option linter.unusedVariables false
set_option linter.unusedSimpArgs false
open Go Go.Proofs Go.RowKit
namespace Qv
theorem same_step {α : Type} {a b : List α} {k : Nat} (hl : a.length = b.length) (hk : k < a.length) (he : a.take k = b.take k) (h : a[k] = b[k]) : a.take (k + 1) = b.take (k + 1) := by
  rw [← List.take_append_getElem hk, ← List.take_append_getElem (show k < b.length by omega), he, h]
theorem same_all {α : Type} {a b : List α} {k : Nat} (hl : a.length = b.length) (hk : ¬ k < a.length) (he : a.take k = b.take k) : a = b := by
  rw [List.take_of_length_le (by omega), List.take_of_length_le (by omega)] at he
  exact he
theorem sameStrings_ok (a b : List Bytes) (ha : a.length ≤ 2 ^ 40) (hb : b.length ≤ 2 ^ 40) : CallsTo C 38 [encS a, encS b] (fun r => r = .val (.bool (decide (a = b)))) := by
  refine callsTo_of_ev' Tryz.func38 rfl rfl rfl ?_
  refine al_ne (fun h => ?_) (fun h => ?_)
  · have : a ≠ b := fun e => h (by rw [e])
    show Ret.val (.bool false) = _
    simp [this]
  · have hl : a.length = b.length := by
      simp only [List.length_map] at h; omega
    refine loopR 26 (fun k : Nat => [(0, .p (encS a)), (1, .p (encS b)), (5, .p (.int .i64 k))]) (fun _ => []) (fun k => k ≤ a.length ∧ a.take k = b.take k) (fun k => a.length - k) 0 ⟨Nat.zero_le _, rfl⟩ rfl ⟨Weak.refl _, Weak.refl _, Weak.refl _, trivial⟩ trivial ?_
    rintro k ⟨hk, he⟩
    refine al_lt (fun hlt => ?_) (fun hge => ?_)
    · have hlb : k < b.length := by omega
      refine ⟨.lex 8, by kernel_rfl, _, rfl, _, rfl, _, ⟨by omega, _, idx_map rfl hlt, rfl, rfl⟩, _, rfl, _, rfl, _, rfl, _, ⟨by omega, _, idx_map rfl hlb, rfl, rfl⟩, _, rfl, ?_⟩
      refine al_nes (fun h => ?_) (fun h => ?_)
      · have : a ≠ b := fun e => by subst e; exact h rfl
        show Ret.val (.bool false) = _
        simp [this]
      · exact ⟨k + 1, wrap64 (by first | omega | (simp only [List.length_map, List.length_append, List.length_cons, List.length_nil] at *; omega)) (by first | omega | (simp only [List.length_map, List.length_append, List.length_cons, List.length_nil] at *; omega)), roundR (k + 1) ⟨hlt, same_step hl hlt he h⟩ (by omega) rfl ⟨Weak.refl _, Weak.refl _, Weak.refl _, trivial⟩ trivial⟩
    · have : a = b := same_all hl hge he
      show Ret.val (.bool true) = _
      simp [this]
end Qv

end
