/- Several texts in one: Contracts: glob.Check, access.checkGlob and what follows. No condition. -/
import Derived.Test.YtpoefbbfhebakaaGreatDoorC1
set_option linter.unusedVariables false
set_option linter.unusedSimpArgs false

section
open Go Go.Proofs Go.RowKit
namespace Qv
theorem gcheck_ok (s : Bytes) (hs : s.length ≤ 2 ^ 30) : CallsTo C 131 [.str s] (fun r => r = .val (.int .i64 (parseF s).2)) := by
 refine cTo' Tryz.func131 rfl rfl rfl ?_
 refine ⟨_,parse_ok s hs,fun r hr => ?_⟩
 subst hr
 exact rfl
def seen (c : UInt8) : Bool := decide (33 ≤ c.toNat) && decide (c.toNat ≤ 126)
end Qv

end

section
open Go Go.Proofs Go.RowKit
namespace Qv
def Atom.fit : Atom → UInt8 → Bool
 | .bad,_ => false
 | .star,_ => false
 | .any,c => c != 47
 | .lit d,c => c == d
 | .cls set neg,c => clsB set neg c
def starAt (l : List Atom) (t : Nat) : Prop := ∃ a,l[t]? = some a ∧ a.isStar = true
def stepP (l : List Atom) (c : UInt8) (i j : Nat) : Prop :=
 ∃ k a,i ≤ k ∧ (∀ t,i ≤ t → t < k → starAt l t) ∧ l[k]? = some a ∧ ((a.isStar = true ∧ j = k) ∨ (a.isStar = false ∧ a.fit c = true ∧ j = k + 1))
def reach (l : List Atom) (s : Bytes) : Nat → Nat → Prop
 | 0,j => j = 0
 | k + 1,j => ∃ i c,reach l s k i ∧ s[k]? = some c ∧ stepP l c i j
def fitsP (l : List Atom) (s : Bytes) : Prop := ∃ i,reach l s s.length i ∧ endedF l i = true
theorem starAt_some {l : List Atom} {k : Nat} {a : Atom} (h : l[k]? = some a) (hs : starAt l k) : a.isStar = true := by
 obtain ⟨b,hb,hb2⟩ := hs
 rw [h] at hb
 obtain rfl := Option.some.inj hb
 exact hb2
theorem stepP_at {l : List Atom} {c : UInt8} {i k2 j : Nat} (hs : ∀ t,i ≤ t → t < k2 → starAt l t) (hi : i ≤ k2) (h : stepP l c i j) : (i ≤ j ∧ j < k2) ∨ stepP l c k2 j := by
 obtain ⟨k,a,h1,h2,h3,h4⟩ := h
 by_cases hk : k < k2
 ·have := starAt_some h3 (hs k h1 hk)
  rcases h4 with ⟨-,rfl⟩ | ⟨h5,-,-⟩
  ·exact .inl ⟨h1,hk⟩
  ·rw [this] at h5; cases h5
 ·exact .inr ⟨k,a,by omega,fun t h5 h6 => h2 t (by omega) h6,h3,h4⟩
theorem stepP_back {l : List Atom} {c : UInt8} {i k2 j : Nat} (hs : ∀ t,i ≤ t → t < k2 → starAt l t) (hi : i ≤ k2) (h : stepP l c k2 j) : stepP l c i j := by
 obtain ⟨k,a,h1,h2,h3,h4⟩ := h
 exact ⟨k,a,by omega,fun t h5 h6 => by
  by_cases ht : t < k2
  ·exact hs t h5 ht
  ·exact h2 t (by omega) h6,h3,h4⟩
end Qv

end

section
open Go Go.Proofs Go.RowKit
namespace Qv
def FiM (ones : List Atom) (c : UInt8) (st : List Nat) (x : List Nat × List Nat × Option (AV × AV)) : Prop :=
 (∀ i,i ∈ x.2.1 → i ∈ st) ∧ (∀ j,j ∈ x.1 → ∃ i,i ∈ st ∧ stepP ones c i j) ∧ ∀ i,i ∈ st → i ∈ x.2.1 ∨ ∀ j,stepP ones c i j → j ∈ x.1
def FiI (ones : List Atom) (c : UInt8) (st rest : List Nat) (i : Nat) (x : List Nat × Nat) : Prop :=
 i ≤ x.2 ∧ x.2 ≤ ones.length ∧ (∀ t,i ≤ t → t < x.2 → starAt ones t) ∧ (∀ j,j ∈ x.1 → ∃ i,i ∈ st ∧ stepP ones c i j) ∧ (∀ j,i ≤ j → j < x.2 → j ∈ x.1) ∧ ∀ i',i' ∈ st → i' ∈ rest ∨ i' = i ∨ ∀ j,stepP ones c i' j → j ∈ x.1
theorem FiM.of {ones : List Atom} {c : UInt8} {st r1 r2 o2 o3 : List Nat} {i k2 : Nat} {cur : Option (AV × AV)} (h1 : ∀ i',i' ∈ r1 ++ i :: r2 → i' ∈ st) (h : FiI ones c st (r1 ++ r2) i (o2,k2)) (a1 : ∀ j,j ∈ o3 → j ∈ o2 ∨ stepP ones c k2 j)
 (a2 : ∀ j,j ∈ o2 → j ∈ o3) (a3 : ∀ j,stepP ones c k2 j → j ∈ o3) : FiM ones c st (o3,r1 ++ r2,cur) := by
 obtain ⟨g0,g1,g2,g3,g4,g5⟩ := h
 refine ⟨fun i' hi' => h1 i' ?_,fun j hj => ?_,fun i' hi' => ?_⟩
 ·simp only [List.mem_append,List.mem_cons] at hi' ⊢
  rcases hi' with h | h
  ·exact .inl h
  ·exact .inr (.inr h)
 ·rcases a1 j hj with h | h
  ·exact g3 j h
  ·exact ⟨i,h1 i (by simp),stepP_back g2 g0 h⟩
 ·rcases g5 i' hi' with h | h | h
  ·exact .inl h
  ·subst h
   refine .inr fun j hj => ?_
   rcases stepP_at g2 g0 hj with h | h
   ·exact a2 j (g4 j h.1 h.2)
   ·exact a3 j h
  ·exact .inr fun j hj => a2 j (h j hj)
end Qv

end

section
open Go Go.Proofs Go.RowKit
namespace Qv
def stepC (cs : List Comp) (p : Bytes) (i j : Nat) : Prop :=
 ∃ c,cs[i]? = some c ∧ ((c.deep = true ∧ j = i) ∨ (c.deep = false ∧ fitsP c.ones p ∧ j = i + 1))
structure FineC (cs : List Comp) : Prop where
 len : cs.length ≤ 2 ^ 30
 ones : ∀ c,c ∈ cs → c.ones.length ≤ 2 ^ 30
 fine : ∀ c,c ∈ cs → ∀ a,a ∈ c.ones → a.fine
def WaM (cs : List Comp) (p : Bytes) (st : List Nat) (x : List Nat × List Nat × Option (AV × AV)) : Prop :=
 (∀ i,i ∈ x.2.1 → i ∈ st) ∧ (∀ j,j ∈ x.1 → ∃ i,i ∈ st ∧ stepC cs p i j) ∧ ∀ i,i ∈ st → i ∈ x.2.1 ∨ ∀ j,stepC cs p i j → j ∈ x.1
theorem WaM.of {cs : List Comp} {p : Bytes} {st r1 r2 o o3 : List Nat} {i : Nat} {cur cur' : Option (AV × AV)} (h : WaM cs p st (o,r1 ++ i :: r2,cur)) (a1 : ∀ j,j ∈ o3 → j ∈ o ∨ stepC cs p i j)
 (a2 : ∀ j,j ∈ o → j ∈ o3) (a3 : ∀ j,stepC cs p i j → j ∈ o3) : WaM cs p st (o3,r1 ++ r2,cur') := by
 obtain ⟨h1,h2,h3⟩ := h
 refine ⟨fun i' hi' => h1 i' ?_,fun j hj => ?_,fun i' hi' => ?_⟩
 ·simp only [List.mem_append,List.mem_cons] at hi' ⊢
  rcases hi' with h | h
  ·exact .inl h
  ·exact .inr (.inr h)
 ·rcases a1 j hj with h | h
  ·exact h2 j h
  ·exact ⟨i,h1 i (by simp),h⟩
 ·rcases h3 i' hi' with h | h
  ·simp only [List.mem_append,List.mem_cons] at h ⊢
   rcases h with h | h | h
   ·exact .inl (.inl h)
   ·subst h; exact .inr a3
   ·exact .inl (.inr h)
  ·exact .inr fun j hj => a2 j (h j hj)
end Qv

end

section
open Go Go.Proofs Go.RowKit
namespace Qv
end Qv

end
