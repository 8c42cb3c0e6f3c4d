/- Several texts in one: Contracts: decimal numerals, sides and the text of blocks, in the reference, Contracts: the text of blocks, in the reference, Contracts: equality of hunks; the law UnifiedTexts. No condition. -/
import Derived.Test.YthkmombkgelcnaaGreatDoorS8
import Derived.Test.YthkmombkgelcnaaGreatDoorS6

section
/- Contracts: decimal numerals, sides and the text of blocks, in the reference. No condition. -/
set_option linter.unusedVariables false
set_option linter.unusedSimpArgs false
open Go Go.Proofs
namespace Qv

theorem itoa_small (u : Nat) (h : u < 10) : Lib.itoa (u : Int) = [UInt8.ofNat (48 + u)] := by
  unfold Lib.itoa
  rw [if_neg (by omega), Int.toNat_natCast, Lib.decDigits_one h]

theorem itoa_big (u : Nat) (h : ¬ u < 10) : Lib.itoa (u : Int) = Lib.itoa ((u / 10 : Nat) : Int) ++ Lib.itoa ((u % 10 : Nat) : Int) := by
  unfold Lib.itoa
  rw [if_neg (by omega), if_neg (by omega), if_neg (by omega), Int.toNat_natCast, Int.toNat_natCast, Int.toNat_natCast, Lib.decDigits_one (by omega : u % 10 < 10)]
  rw [Lib.decDigits, dif_neg h]

end Qv
end

section
/- Contracts: the text of blocks, in the reference. No condition. -/
set_option linter.unusedVariables false
set_option linter.unusedSimpArgs false
open Go Go.Proofs
namespace Qv

theorem hasLF_mem (s : Bytes) : hasLF s = decide ((10 : UInt8) ∈ s) := by
  unfold hasLF
  induction s with
  | nil => rfl
  | cons b l ih =>
    unfold Lib.indexByte
    by_cases h : b = 10
    · subst h; simp
    · rw [if_neg (by simpa using h)]
      have hge := Lib.indexByte_ge l 10
      by_cases h1 : Lib.indexByte l 10 = -1
      · rw [h1] at ih
        rw [if_pos (by simp [h1])]
        have : ¬ (10 : UInt8) ∈ l := by simpa using ih
        simp [this, Ne.symm h]
      · rw [if_neg (by simpa using h1)]
        have : (10 : UInt8) ∈ l := by
          have h2 : decide (0 ≤ Lib.indexByte l 10) = true := decide_eq_true (by omega)
          rw [h2] at ih
          simpa using ih
        have h3 : 0 ≤ Lib.indexByte l 10 + 1 := by omega
        simp [this, h3]

theorem hasLF_at {s : Bytes} {t : Nat} (h : t < s.length) (he : s[t] = 10) : hasLF s = true := by
  rw [hasLF_mem]
  exact decide_eq_true (he ▸ List.getElem_mem h)

theorem hasLF_no {s : Bytes} (h : ∀ (u : Nat) (hu : u < s.length), s[u] ≠ 10) : hasLF s = false := by
  rw [hasLF_mem]
  refine decide_eq_false fun hm => ?_
  obtain ⟨u, hu, he⟩ := List.getElem_of_mem hm
  exact h u hu he

end Qv
end

section
/- Contracts: equality of hunks; the law UnifiedTexts. No condition. -/
set_option linter.unusedVariables false
set_option linter.unusedSimpArgs false
open Go Go.Proofs
namespace Qv

theorem hunk_ext {b c : Hunk} (h1 : b.at_ = c.at_) (h2 : b.old = c.old) (h3 : b.new = c.new) : b = c := by
  cases b; cases c
  simp_all

structure HSInv (x y : List Hunk) (k : Nat) : Prop where
  le : k ≤ x.length
  eq : x.take k = y.take k

theorem textLen_eq (l : List Block) : textLen l = 200 * l.length + bSum l + lSum l := by
  unfold textLen bSum lSum
  induction l with
  | nil => rfl
  | cons b l ih => simp only [List.map_cons, List.sum_cons, List.length_cons] at *; omega

theorem uhunks_len {l : List Block} (ht : TinyB l) (hl : l.length ≤ 2 ^ 10) : (uhunks l).1.length ≤ 2 ^ 40 := by
  unfold uhunks
  split
  · have := hunks_len l (2 ^ 20) ht.each
    simp only
    omega
  · simp

theorem hunkF_each (l : List Bytes) : ∀ (at_ : Int) (cur : Option Hunk) (n : Nat), (∀ h, h ∈ cur.toList → h.old.length + l.length ≤ n ∧ h.new.length + l.length ≤ n) → l.length ≤ n → ∀ h, h ∈ hunkF at_ cur l → h.old.length ≤ n ∧ h.new.length ≤ n := by
  induction l with
  | nil => intro at_ cur n hc hn h hh; exact hc h hh
  | cons s l ih =>
    intro at_ cur n hc hn h hh
    simp only [List.length_cons] at hc hn
    unfold hunkF at hh
    have hg : (cur.getD ⟨at_, [], []⟩).old.length + (l.length + 1) ≤ n ∧ (cur.getD ⟨at_, [], []⟩).new.length + (l.length + 1) ≤ n := by
      cases cur with
      | none => simp; omega
      | some c => exact hc c (by simp)
    split at hh
    · rcases List.mem_append.1 hh with hh | hh
      · have := hc h hh; omega
      · exact ih _ none n (fun h hh => by cases hh) (by omega) h hh
    · split at hh
      · refine ih _ _ n (fun h' hh' => ?_) (by omega) h hh
        obtain rfl : h' = _ := by simpa using hh'
        simp; omega
      · refine ih _ _ n (fun h' hh' => ?_) (by omega) h hh
        obtain rfl : h' = _ := by simpa using hh'
        simp; omega

theorem uhunks_each {l : List Block} (ht : TinyB l) : ∀ h, h ∈ (uhunks l).1 → h.old.length ≤ 2 ^ 40 ∧ h.new.length ≤ 2 ^ 40 := by
  unfold uhunks
  split
  · intro h hh
    obtain ⟨b, hb, hh⟩ := List.mem_flatMap.1 hh
    have h1 := ht.each b hb
    have := hunkF_each b.lines b.oldAt none (2 ^ 20) (fun h hh => by cases hh) h1 h hh
    omega
  · intro h hh; cases hh

end Qv
end
