/- The hunks of blocks of hunks are these hunks; the law UnifiedHunks. No condition. -/
import Derived.Test.YthkmombkgelcnaaGreatDoorS9
set_option linter.unusedVariables false
set_option linter.unusedSimpArgs false
open Go Go.Proofs
namespace Qv

theorem marked_cons (c : UInt8) (s : Bytes) (l : List Bytes) : marked c (s :: l) = ([c] ++ s) :: marked c l := rfl

theorem hunkF_ctx (at_ : Int) (l r : List Bytes) : hunkF at_ none (marked 32 l ++ r) = hunkF (at_ + l.length) none r := by
  induction l generalizing at_ with
  | nil => simp [marked]
  | cons s l ih =>
    rw [marked_cons, List.cons_append, hunkF, if_pos (by rfl), ih]
    simp only [Option.toList, List.nil_append, List.length_cons]
    congr 1; omega

theorem hunkF_ctx1 (at_ : Int) (c : Hunk) (l r : List Bytes) (h : l ≠ []) : hunkF at_ (some c) (marked 32 l ++ r) = c :: hunkF (at_ + l.length) none r := by
  cases l with
  | nil => exact absurd rfl h
  | cons s l =>
    rw [marked_cons, List.cons_append, hunkF, if_pos (by rfl), hunkF_ctx]
    simp only [Option.toList, List.length_cons, List.cons_append, List.nil_append]
    congr 2; omega

theorem hunkF_old (at_ : Int) (c : Hunk) (o r : List Bytes) : hunkF at_ (some c) (marked 45 o ++ r) = hunkF (at_ + o.length) (some { c with old := c.old ++ o }) r := by
  induction o generalizing at_ c with
  | nil => simp [marked]
  | cons s l ih =>
    rw [marked_cons, List.cons_append, hunkF, if_neg (by simp [sgn]), if_pos (by rfl), ih]
    simp only [Option.getD_some, List.length_cons, List.cons_append, List.nil_append, List.tail_cons, List.append_assoc]
    congr 1; omega

theorem hunkF_new (at_ : Int) (c : Hunk) (o r : List Bytes) : hunkF at_ (some c) (marked 43 o ++ r) = hunkF at_ (some { c with new := c.new ++ o }) r := by
  induction o generalizing c with
  | nil => simp [marked]
  | cons s l ih =>
    rw [marked_cons, List.cons_append, hunkF, if_neg (by simp [sgn]), if_neg (by simp [sgn]), ih]
    simp only [Option.getD_some, List.cons_append, List.nil_append, List.tail_cons, List.append_assoc]

/-- At a change it is the same whether a hunk was opened here. -/
theorem hunkF_open (at_ : Int) (s : Bytes) (l : List Bytes) (h : sgn s ≠ 32) : hunkF at_ none (s :: l) = hunkF at_ (some ⟨at_, [], []⟩) (s :: l) := by
  rw [hunkF, hunkF, if_neg h, if_neg h]
  rfl

theorem hunkF_hunk (h : Hunk) (r : List Bytes) (hp : 0 < h.old.length + h.new.length) : hunkF h.at_ none (marked 45 h.old ++ (marked 43 h.new ++ r)) = hunkF (h.at_ + h.old.length) (some h) r := by
  have e : hunkF h.at_ none (marked 45 h.old ++ (marked 43 h.new ++ r)) = hunkF h.at_ (some ⟨h.at_, [], []⟩) (marked 45 h.old ++ (marked 43 h.new ++ r)) := by
    cases ho : h.old with
    | cons s o => exact hunkF_open _ _ _ (by simp [sgn])
    | nil =>
      cases hw : h.new with
      | cons s w => exact hunkF_open _ _ _ (by simp [sgn])
      | nil => rw [ho, hw] at hp; simp at hp
  rw [e, hunkF_old, hunkF_new]
  simp

theorem hunkF_lines {a : List Bytes} {e : Nat} : ∀ (g : List Hunk) (k : Nat) (cur : Option Hunk) (lo : Int), Fit a lo g → (cur = none ∧ (k : Int) ≤ gbeg g ∨ (k : Int) < gbeg g ∨ g = []) →
    hunkF k cur (blockLines a e k g) = cur.toList ++ g
  | [], k, cur, lo, hf, hk => by
    simp only [blockLines]
    have e0 : marked 32 (seg a k e) = marked 32 (seg a k e) ++ [] := (List.append_nil _).symm
    rw [e0]
    cases cur with
    | none => rw [hunkF_ctx]; rfl
    | some c =>
      by_cases hs : seg a k e = []
      · rw [hs]; rfl
      · rw [hunkF_ctx1 _ _ _ _ hs]; rfl
  | h :: r, k, cur, lo, hf, hk => by
    obtain ⟨f1, f2, f3, f4, f5, f6⟩ := hf
    have hk' : (k : Int) ≤ h.at_ := by
      rcases hk with hk | hk | hk
      · exact hk.2
      · simp only [gbeg] at hk; omega
      · cases hk
    have hl : (seg a k h.at_.toNat).length = h.at_.toNat - k := seg_length a k _ (by omega)
    have ih := hunkF_lines (e := e) r (h.at_.toNat + h.old.length) (some h) _ f6 (by
      cases r with
      | nil => exact .inr (.inr rfl)
      | cons y r => exact .inr (.inl (by have := f6.2.1; simp only [gbeg]; omega)))
    have hcast : ((h.at_.toNat + h.old.length : Nat) : Int) = h.at_ + h.old.length := by omega
    rw [hcast] at ih
    have hat : (k : Int) + (seg a k h.at_.toNat).length = h.at_ := by rw [hl]; omega
    simp only [blockLines]
    have hr : hunkF h.at_ none (marked 45 h.old ++ (marked 43 h.new ++ blockLines a e (h.at_.toNat + h.old.length) r)) = h :: r := by
      rw [hunkF_hunk h _ f5, ih]; rfl
    cases cur with
    | none => rw [hunkF_ctx, hat, hr]; rfl
    | some c =>
      have hne : seg a k h.at_.toNat ≠ [] := by
        intro e0
        rw [e0] at hl
        rcases hk with hk | hk | hk
        · exact absurd hk.1 (by simp)
        · simp only [gbeg, List.length_nil] at hk hl; omega
        · cases hk
      rw [hunkF_ctx1 _ _ _ _ hne, hat, hr]; rfl

theorem hunks_blocks {a : List Bytes} {n : Int} (hn : 0 ≤ n) : ∀ (gs : List (List Hunk)) (pe shift : Int), GFit a n pe gs → (blocksF a n shift gs).flatMap hunksB = gs.flatten
  | [], pe, shift, h => rfl
  | g :: gs, pe, shift, h => by
    obtain ⟨hne, ⟨lo, hf⟩, -, h4⟩ := h
    obtain ⟨p, e, b1, b2, b3, b4, b5, b6, b7, b8, b9, b10, b11, b12⟩ := block_facts (pe := 0) (shift := shift) hn hne hf
    have hg := (fit_gend hf hne).2.2.1
    simp only [blocksF, List.flatMap_cons, List.flatten_cons]
    rw [hunks_blocks hn gs _ _ h4]
    congr 1
    unfold hunksB
    rw [b1, b12, hunkF_lines (e := e) g p none lo hf (.inl ⟨rfl, by omega⟩)]
    rfl

theorem hunks_law {a : List Bytes} {l : List Hunk} {n : Int} (hn : 0 ≤ n) (h : (happly a l).2 = 0) (hb : a.length + newTotal l ≤ 2 ^ 40) : uhunks (blocksF a n 0 (groupsL n l)) = (l, 0) := by
  unfold uhunks
  rw [blocks_check hn h hb, if_pos rfl, hunks_blocks hn _ _ _ (blocks_flat hn h), groups_flat]

theorem blocks_nil {a : List Bytes} {l : List Hunk} {n : Int} (hn : 0 ≤ n) (h : (happly a l).2 = 0) : l = [] ↔ blocksF a n 0 (groupsL n l) = [] := by
  constructor
  · rintro rfl; rfl
  · intro e
    have := hunks_blocks hn _ _ 0 (blocks_flat hn h)
    rw [e, groups_flat] at this
    exact this.symm

end Qv
