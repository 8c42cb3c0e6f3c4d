/- Several texts in one: The reader of a class read from a place on, Contract of the reference's glob: parse, Contracts of the reference's glob: glob, Check, Contract of the reference's glob: component1. No condition. -/
import Derived.Test.YtikckhebddimoaaGreatDoorN4
import Derived.Test.YtikckhebddimoaaGreatDoorN5

section
/- The reader of a class read from a place on. No condition. -/
set_option linter.unusedVariables false
set_option linter.unusedSimpArgs false
open Go Go.Proofs Go.RowKit
namespace Qv
def Atom.isLit : Atom → Bool
  | .lit _ => true
  | _ => false
def Atom.tbl (a : Atom) : List Bool := (List.range 256).map fun i => a.fit (UInt8.ofNat i)
def elC (st fx : Bool) (tb : List Bool) : List AV := .bool st :: .bool fx :: tb.map AV.bool
def Atom.ref (a : Atom) : List AV := elC a.isStar a.isLit a.tbl
end Qv

end

section
/- Contract of the reference's glob: parse. No condition. -/
set_option linter.unusedVariables false
set_option linter.unusedSimpArgs false
open Go Go.Proofs Go.RowKit
namespace Qv
def refOnes (l : List Atom) : List (List AV) := l.map Atom.ref
def Comp.ref (c : Comp) : List AV := [.bool c.deep, .sl (refOnes c.ones)]
theorem allOne_bools (set : List Bool) : allOne (mapP (set.map AV.bool)) = true := by
  induction set with
  | nil => rfl
  | cons b l ih => exact ih
end Qv

end

section
/- Contracts of the reference's glob: glob, Check. No condition. -/
set_option linter.unusedVariables false
set_option linter.unusedSimpArgs false
open Go Go.Proofs Go.RowKit
namespace Qv
end Qv

end

section
/- Contract of the reference's glob: component1. No condition. -/
set_option linter.unusedVariables false
set_option linter.unusedSimpArgs false
open Go Go.Proofs Go.RowKit
namespace Qv
structure RowP (row : List Bool) (n : Nat) (P : Nat → Prop) : Prop where
  len : row.length = n + 1
  at_ : ∀ j, j ≤ n → (row.getD j false = true ↔ P j)
theorem RowP.congr {row : List Bool} {n : Nat} {P Q : Nat → Prop} (h : RowP row n P) (hq : ∀ j, j ≤ n → (P j ↔ Q j)) : RowP row n Q :=
  ⟨h.len, fun j hj => (h.at_ j hj).trans (hq j hj)⟩
theorem RowP.put {row : List Bool} {n t : Nat} {P : Nat → Prop} (h : RowP row n P) (ht : t ≤ n) : RowP (row.set t true) n (fun j => P j ∨ j = t) := by
  refine ⟨by rw [List.length_set]; exact h.len, fun j hj => ?_⟩
  rw [← h.at_ j hj]
  simp only [List.getD, List.getElem?_set]
  have := h.len
  by_cases htj : t = j
  · subst htj
    rw [if_pos rfl, if_pos (by omega)]
    simp
  · rw [if_neg htj]
    constructor
    · exact .inl
    · rintro (h1 | h1)
      · exact h1
      · exact absurd h1.symm htj
theorem RowP.none (n : Nat) : RowP (List.replicate (n + 1) false) n (fun _ => False) := by
  refine ⟨List.length_replicate, fun j hj => ?_⟩
  have : (List.replicate (n + 1) false).getD j false = false := by
    simp only [List.getD, List.getElem?_replicate]
    split <;> rfl
  rw [this]
  exact ⟨fun h => (by cases h), fun h => h.elim⟩
theorem RowP.get {row : List Bool} {n t : Nat} {P : Nat → Prop} (h : RowP row n P) (ht : t < row.length) : row[t] = true ↔ P t := by
  have := h.at_ t (by have := h.len; omega)
  rw [← this]
  simp [List.getD, List.getElem?_eq_getElem ht]
end Qv

end
