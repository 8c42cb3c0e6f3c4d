/- Contracts: the laws UnifiedApplies and UnifiedMoved. No condition. -/
import Derived.Test.YthkmombkgelcnaaGreatDoorS2
set_option linter.unusedVariables false
set_option linter.unusedSimpArgs false
open Go Go.Proofs
namespace Qv

theorem seg_le {α : Type} (l : List α) (i j : Nat) : (seg l i j).length ≤ l.length := by
  unfold seg
  simp only [List.length_drop, List.length_take]
  omega

theorem blockLines_len (a : List Bytes) (e : Nat) : ∀ (g : List Hunk) (p : Nat), (blockLines a e p g).length ≤ a.length * (g.length + 1) + hSum g
  | [], p => by
    have := seg_le a p e
    simp only [blockLines, marked, List.length_map, List.length_nil]
    omega
  | h :: r, p => by
    have h1 := seg_le a p h.at_.toNat
    have ih := blockLines_len a e r (h.at_.toNat + h.old.length)
    have h2 : hSum (h :: r) = h.old.length + h.new.length + hSum r := rfl
    simp only [blockLines, marked, List.length_map, List.length_cons, List.length_append] at ih ⊢
    rw [h2, Nat.mul_add, Nat.mul_one]
    omega

theorem hSum_app (l r : List Hunk) : hSum (l ++ r) = hSum l + hSum r := by
  unfold hSum
  rw [List.map_append, List.sum_append]

theorem flat_mem {g : List Hunk} : ∀ {gs : List (List Hunk)}, g ∈ gs → g.length ≤ gs.flatten.length ∧ hSum g ≤ hSum gs.flatten
  | x :: gs, h => by
    rw [List.flatten_cons, List.length_append, hSum_app]
    rcases List.mem_cons.mp h with h | h
    · rw [h]; omega
    · have := flat_mem h; omega

theorem groupsL_len (n : Int) : ∀ (l : List Hunk), (groupsL n l).length ≤ l.length
  | [] => Nat.le_refl _
  | [x] => Nat.le_refl _
  | x :: y :: r => by
    obtain ⟨g, gs, h1, h2, h3⟩ := groups_ne n (y :: r) (by simp)
    have ih := groupsL_len n (y :: r)
    rw [groups_cons n x y r g gs h1]
    rw [h1] at ih
    simp only [List.length_cons] at ih ⊢
    split <;> simp only [List.length_cons] <;> omega

theorem blocksF_len (a : List Bytes) (n : Int) : ∀ (gs : List (List Hunk)) (sh : Int), (blocksF a n sh gs).length = gs.length
  | [], _ => rfl
  | g :: gs, sh => by simp only [blocksF, List.length_cons, blocksF_len a n gs]

theorem blocksF_mem {a : List Bytes} {n : Int} {b : Block} : ∀ {gs : List (List Hunk)} {sh : Int}, b ∈ blocksF a n sh gs → ∃ g, g ∈ gs ∧ ∃ s, b = blockOf a n s g
  | g :: gs, sh, h => by
    simp only [blocksF] at h
    rcases List.mem_cons.mp h with h | h
    · exact ⟨g, List.mem_cons_self, _, h⟩
    · obtain ⟨g', h1, h2⟩ := blocksF_mem h
      exact ⟨g', List.mem_cons_of_mem _ h1, h2⟩

theorem blocks_tiny {a : List Bytes} {l : List Hunk} (n : Int) (ha : a.length ≤ 40) (hl : l.length ≤ 12) (hh : hSum l ≤ 40) : TinyB (blocksF a n 0 (groupsL n l)) ∧ (blocksF a n 0 (groupsL n l)).length ≤ 12 := by
  have h1 := groupsL_len n l
  have h2 := blocksF_len a n (groupsL n l) 0
  refine ⟨⟨by omega, fun b hb => ?_⟩, by omega⟩
  obtain ⟨g, hg, s, rfl⟩ := blocksF_mem hb
  obtain ⟨f1, f2⟩ := flat_mem hg
  rw [groups_flat] at f1 f2
  have := blockLines_len a (min (a.length : Int) (gend g + n)).toNat g (max 0 (gbeg g - n)).toNat
  have h3 : a.length * (g.length + 1) ≤ 40 * 13 := Nat.mul_le_mul ha (by omega)
  show (blockLines a (min (a.length : Int) (gend g + n)).toNat (max 0 (gbeg g - n)).toNat g).length ≤ _
  omega

theorem great_no {a : List Bytes} {l : List Hunk} (h : (greatS a || greatHs l) = false) : a.length ≤ 40 ∧ l.length ≤ 12 ∧ hSum l ≤ 40 := by
  simp only [greatS, greatHs, Bool.or_eq_false_iff, decide_eq_false_iff_not] at h
  omega

theorem same_self (a : List Bytes) (h : a.length ≤ 2 ^ 40) : CallsTo C 11 [encS a, encS a] (fun r => r = .val (.bool true)) :=
  (same_ok a a h h).mono fun r hr => by rw [hr, decide_eq_true rfl]

theorem wrapS (n : Nat) (h : n < 256) : IntKind.i64.wrap (n : Int) = n := wrap64 (by omega) (by omega)

end Qv
