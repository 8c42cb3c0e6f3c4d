/- Several texts in one: Contracts: glob.Check, access.checkGlob and what follows. No condition. -/
import Derived.Test.YtpoefbbfhebakaaGreatDoorF1
set_option linter.unusedVariables false
set_option linter.unusedSimpArgs false

section
open Go Go.Proofs Go.RowKit
namespace Qv
theorem gcheck_ok (s : Bytes) (hs : s.length ≤ 2 ^ 30) : CallsTo C 131 [.str s] (fun r => r = .val (.int .i64 (parseF s).2)) := by
 refine cTo' Tryz.func131 rfl rfl rfl ?_
 refine ⟨_,parse_ok s hs,fun r hr => ?_⟩
 subst hr
 exact rfl
def seen (c : UInt8) : Bool := decide (33 ≤ c.toNat) && decide (c.toNat ≤ 126)
end Qv

end

section
open Go Go.Proofs Go.RowKit
namespace Qv
def Atom.fit : Atom → UInt8 → Bool
 | .bad,_ => false
 | .star,_ => false
 | .any,c => c != 47
 | .lit d,c => c == d
 | .cls set neg,c => clsB set neg c
def starAt (l : List Atom) (t : Nat) : Prop := ∃ a,l[t]? = some a ∧ a.isStar = true
def stepP (l : List Atom) (c : UInt8) (i j : Nat) : Prop :=
 ∃ k a,i ≤ k ∧ (∀ t,i ≤ t → t < k → starAt l t) ∧ l[k]? = some a ∧ ((a.isStar = true ∧ j = k) ∨ (a.isStar = false ∧ a.fit c = true ∧ j = k + 1))
def reach (l : List Atom) (s : Bytes) : Nat → Nat → Prop
 | 0,j => j = 0
 | k + 1,j => ∃ i c,reach l s k i ∧ s[k]? = some c ∧ stepP l c i j
theorem stepP_le {l : List Atom} {c : UInt8} {i j : Nat} (h : stepP l c i j) : j ≤ l.length := by
 obtain ⟨k,a,-,-,h1,h2⟩ := h
 have := (List.getElem?_eq_some_iff.1 h1).1
 rcases h2 with ⟨-,rfl⟩ | ⟨-,-,rfl⟩ <;> omega
theorem reach_le {l : List Atom} {s : Bytes} : ∀ {k j : Nat},reach l s k j → j ≤ l.length
 | 0,j,h => by
   have : j = 0 := h
   omega
 | k + 1,j,⟨i,c,_,_,h⟩ => stepP_le h
def fitsP (l : List Atom) (s : Bytes) : Prop := ∃ i,reach l s s.length i ∧ endedF l i = true
theorem starAt_some {l : List Atom} {k : Nat} {a : Atom} (h : l[k]? = some a) (hs : starAt l k) : a.isStar = true := by
 obtain ⟨b,hb,hb2⟩ := hs
 rw [h] at hb
 obtain rfl := Option.some.inj hb
 exact hb2
theorem stepP_at {l : List Atom} {c : UInt8} {i k2 j : Nat} (hs : ∀ t,i ≤ t → t < k2 → starAt l t) (hi : i ≤ k2) (h : stepP l c i j) : (i ≤ j ∧ j < k2) ∨ stepP l c k2 j := by
 obtain ⟨k,a,h1,h2,h3,h4⟩ := h
 by_cases hk : k < k2
 ·have := starAt_some h3 (hs k h1 hk)
  rcases h4 with ⟨-,rfl⟩ | ⟨h5,-,-⟩
  ·exact .inl ⟨h1,hk⟩
  ·rw [this] at h5; cases h5
 ·exact .inr ⟨k,a,by omega,fun t h5 h6 => h2 t (by omega) h6,h3,h4⟩
theorem stepP_none {l : List Atom} {c : UInt8} {k j : Nat} (hk : l.length ≤ k) (h : stepP l c k j) : False := by
 obtain ⟨k',a,h1,-,h3,-⟩ := h
 have := (List.getElem?_eq_some_iff.1 h3).1
 omega
theorem stepP_some {l : List Atom} {c : UInt8} {k j : Nat} {a : Atom} (h : l[k]? = some a) (ha : a.isStar = false) : stepP l c k j ↔ a.fit c = true ∧ j = k + 1 := by
 constructor
 ·rintro ⟨k',b,h1,h2,h3,h4⟩
  by_cases hk : k < k'
  ·have := starAt_some h (h2 k (Nat.le_refl _) hk)
   rw [ha] at this; cases this
  ·obtain rfl : k' = k := by omega
   rw [h] at h3
   obtain rfl := Option.some.inj h3
   rcases h4 with ⟨h5,-⟩ | ⟨-,h5,h6⟩
   ·rw [ha] at h5; cases h5
   ·exact ⟨h5,h6⟩
 ·rintro ⟨h1,rfl⟩
  exact ⟨k,a,Nat.le_refl _,fun t h2 h3 => by omega,h,.inr ⟨ha,h1,rfl⟩⟩
theorem stepP_back {l : List Atom} {c : UInt8} {i k2 j : Nat} (hs : ∀ t,i ≤ t → t < k2 → starAt l t) (hi : i ≤ k2) (h : stepP l c k2 j) : stepP l c i j := by
 obtain ⟨k,a,h1,h2,h3,h4⟩ := h
 exact ⟨k,a,by omega,fun t h5 h6 => by
  by_cases ht : t < k2
  ·exact hs t h5 ht
  ·exact h2 t (by omega) h6,h3,h4⟩
end Qv

end

section
open Go Go.Proofs Go.RowKit
namespace Qv
theorem hasM_eq {maps : List (Nat × List (AV × FV))} {o : Nat} {l0 l : List (AV × FV)} (h : getM maps o = some l0) (e : l0 = l) : ∃ l0,getM maps o = some l0 ∧ l0.length = l.length ∧ ∀ (i : Nat) (p p' : AV × FV),l0[i]? = some p → l[i]? = some p' → p'.1 = p.1 ∧ Weak p.2 p'.2 :=
 hasM_one (e ▸ h)
def FiM (ones : List Atom) (c : UInt8) (st : List Nat) (x : List Nat × List Nat × Option (AV × AV)) : Prop :=
 (∀ i,i ∈ x.2.1 → i ∈ st) ∧ (∀ j,j ∈ x.1 → ∃ i,i ∈ st ∧ stepP ones c i j) ∧ ∀ i,i ∈ st → i ∈ x.2.1 ∨ ∀ j,stepP ones c i j → j ∈ x.1
def FiI (ones : List Atom) (c : UInt8) (st rest : List Nat) (i : Nat) (x : List Nat × Nat) : Prop :=
 i ≤ x.2 ∧ x.2 ≤ ones.length ∧ (∀ t,i ≤ t → t < x.2 → starAt ones t) ∧ (∀ j,j ∈ x.1 → ∃ i,i ∈ st ∧ stepP ones c i j) ∧ (∀ j,i ≤ j → j < x.2 → j ∈ x.1) ∧ ∀ i',i' ∈ st → i' ∈ rest ∨ i' = i ∨ ∀ j,stepP ones c i' j → j ∈ x.1
theorem FiM.of {ones : List Atom} {c : UInt8} {st r1 r2 o2 o3 : List Nat} {i k2 : Nat} {cur : Option (AV × AV)} (h1 : ∀ i',i' ∈ r1 ++ i :: r2 → i' ∈ st) (h : FiI ones c st (r1 ++ r2) i (o2,k2)) (a1 : ∀ j,j ∈ o3 → j ∈ o2 ∨ stepP ones c k2 j)
 (a2 : ∀ j,j ∈ o2 → j ∈ o3) (a3 : ∀ j,stepP ones c k2 j → j ∈ o3) : FiM ones c st (o3,r1 ++ r2,cur) := by
 obtain ⟨g0,g1,g2,g3,g4,g5⟩ := h
 refine ⟨fun i' hi' => h1 i' ?_,fun j hj => ?_,fun i' hi' => ?_⟩
 ·simp only [List.mem_append,List.mem_cons] at hi' ⊢
  rcases hi' with h | h
  ·exact .inl h
  ·exact .inr (.inr h)
 ·rcases a1 j hj with h | h
  ·exact g3 j h
  ·exact ⟨i,h1 i (by simp),stepP_back g2 g0 h⟩
 ·rcases g5 i' hi' with h | h | h
  ·exact .inl h
  ·subst h
   refine .inr fun j hj => ?_
   rcases stepP_at g2 g0 hj with h | h
   ·exact a2 j (g4 j h.1 h.2)
   ·exact a3 j h
  ·exact .inr fun j hj => a2 j (h j hj)
end Qv

end

section
open Go Go.Proofs Go.RowKit
namespace Qv
def stepC (cs : List Comp) (p : Bytes) (i j : Nat) : Prop :=
 ∃ c,cs[i]? = some c ∧ ((c.deep = true ∧ j = i) ∨ (c.deep = false ∧ fitsP c.ones p ∧ j = i + 1))
structure FineC (cs : List Comp) : Prop where
 len : cs.length ≤ 2 ^ 30
 ones : ∀ c,c ∈ cs → c.ones.length ≤ 2 ^ 30
 fine : ∀ c,c ∈ cs → ∀ a,a ∈ c.ones → a.fine
def WaM (cs : List Comp) (p : Bytes) (st : List Nat) (x : List Nat × List Nat × Option (AV × AV)) : Prop :=
 (∀ i,i ∈ x.2.1 → i ∈ st) ∧ (∀ j,j ∈ x.1 → ∃ i,i ∈ st ∧ stepC cs p i j) ∧ ∀ i,i ∈ st → i ∈ x.2.1 ∨ ∀ j,stepC cs p i j → j ∈ x.1
theorem WaM.of {cs : List Comp} {p : Bytes} {st r1 r2 o o3 : List Nat} {i : Nat} {cur cur' : Option (AV × AV)} (h : WaM cs p st (o,r1 ++ i :: r2,cur)) (a1 : ∀ j,j ∈ o3 → j ∈ o ∨ stepC cs p i j)
 (a2 : ∀ j,j ∈ o → j ∈ o3) (a3 : ∀ j,stepC cs p i j → j ∈ o3) : WaM cs p st (o3,r1 ++ r2,cur') := by
 obtain ⟨h1,h2,h3⟩ := h
 refine ⟨fun i' hi' => h1 i' ?_,fun j hj => ?_,fun i' hi' => ?_⟩
 ·simp only [List.mem_append,List.mem_cons] at hi' ⊢
  rcases hi' with h | h
  ·exact .inl h
  ·exact .inr (.inr h)
 ·rcases a1 j hj with h | h
  ·exact h2 j h
  ·exact ⟨i,h1 i (by simp),h⟩
 ·rcases h3 i' hi' with h | h
  ·simp only [List.mem_append,List.mem_cons] at h ⊢
   rcases h with h | h | h
   ·exact .inl (.inl h)
   ·subst h; exact .inr a3
   ·exact .inl (.inr h)
  ·exact .inr fun j hj => a2 j (h j hj)
end Qv

end

section
open Go Go.Proofs Go.RowKit
namespace Qv
theorem onesGo_fine {s : Bytes} : ∀ {f n : Nat} {acc l : List Atom},onesGo s f n acc = some l → n ≤ s.length → acc.length ≤ n → (∀ a,a ∈ acc → a.fine) → l.length ≤ s.length ∧ ∀ a,a ∈ l → a.fine
 | 0,_,_,_,h,_,_,_ => by simp [onesGo] at h
 | f + 1,n,acc,l,h,hn,ha,hf => by
   simp only [onesGo] at h
   split at h
   ·split at h
    ·cases h
    ·rename_i a n' hq
     obtain ⟨h1,h2,h3⟩ := oneF_le hq
     refine onesGo_fine h h2 (by rw [List.length_append]; show acc.length + 1 ≤ n'; omega) fun b hb => ?_
     rcases List.mem_append.1 hb with hb | hb
     ·exact hf b hb
     ·rw [List.mem_singleton.1 hb]; exact h3
   ·obtain rfl := Option.some.inj h
    exact ⟨by omega,hf⟩
theorem compF_fine {p : Bytes} {c : Comp} (h : compF p = some c) : c.ones.length ≤ p.length ∧ ∀ a,a ∈ c.ones → a.fine := by
 unfold compF at h
 split at h
 ·cases h
 ·split at h
  ·obtain rfl := Option.some.inj h
   exact ⟨Nat.zero_le _,fun a ha => by cases ha⟩
  ·split at h
   ·cases h
   ·rename_i l hl
    obtain rfl := Option.some.inj h
    exact onesGo_fine hl (Nat.zero_le _) (Nat.le_refl _) (fun a ha => by cases ha)
theorem compsGo_all : ∀ {P : List Bytes} {acc l : List Comp},compsGo P acc = some l → l.length = acc.length + P.length ∧ ∀ c,c ∈ l → c ∈ acc ∨ ∃ p,p ∈ P ∧ compF p = some c
 | [],acc,l,h => by
   obtain rfl := Option.some.inj h
   exact ⟨rfl,fun c hc => .inl hc⟩
 | p :: P,acc,l,h => by
   simp only [compsGo] at h
   split at h
   ·cases h
   ·rename_i c hc
    obtain ⟨h1,h2⟩ := compsGo_all h
    refine ⟨by rw [h1]; simp; omega,fun d hd => ?_⟩
    rcases h2 d hd with h | ⟨q,hq,he⟩
    ·rcases List.mem_append.1 h with h | h
     ·exact .inl h
     ·rw [List.mem_singleton.1 h]
      exact .inr ⟨p,List.mem_cons_self,hc⟩
    ·exact .inr ⟨q,List.mem_cons_of_mem _ hq,he⟩
theorem pathF_small (s : Bytes) (hs : s.length ≤ 2 ^ 29) : (pathF s).length ≤ 2 ^ 30 ∧ ∀ p,p ∈ pathF s → p.length ≤ 2 ^ 30 := by
 unfold pathF
 split
 ·exact ⟨by simp,fun p hp => by cases hp⟩
 ·have h3 := parts_length 47 s
  have h4 := parts_mem 47 s
  exact ⟨by omega,fun p hp => by have := h4 p hp; omega⟩
end Qv

end
