/- Contracts: the law UnifiedMoved. No condition. -/
import Derived.Test.YthkmombkgelcnaaGreatDoorS3
set_option linter.unusedVariables false
set_option linter.unusedSimpArgs false
open Go Go.Proofs
namespace Qv

theorem oldTotal_le (l : List Hunk) : oldTotal l ≤ hSum l := by
  induction l with
  | nil => exact Nat.le_refl _
  | cons h r ih =>
    have h1 : oldTotal (h :: r) = h.old.length + oldTotal r := rfl
    have h2 : hSum (h :: r) = h.old.length + h.new.length + hSum r := rfl
    omega

theorem awakeT {K : Ret → Prop} (h : K (.val (.bool true))) : ∃ P, CallsTo C 4 [] P ∧ ∀ r, P r → K r := ⟨_, awake_ok, fun r hr => by rw [hr]; exact h⟩

end Qv
