/- The law AccessGroups as a contract. No condition. -/
import Derived.Test.YtikckhebddimoaaGreatDoorNI
set_option linter.unusedVariables false
set_option linter.unusedSimpArgs false
open Go Go.Proofs Go.RowKit
namespace Qv
theorem fineA_wr' {a : Access} {l : List Rule} (h : FineA a) (hl : l.length ≤ 2 ^ 40) (hr : ∀ r, r ∈ l → r.who.length ≤ 2 ^ 50 ∧ r.ref.length ≤ 2 ^ 29 ∧ r.path.length ≤ 2 ^ 29) : FineA (a.wr l) :=
  ⟨h.gl, hl, h.names, hr⟩
theorem tmod_nat (n L : Nat) : ((n : Int)).tmod (L : Int) = ((n % L : Nat) : Int) := (Int.ofNat_tmod n L).symm
end Qv

