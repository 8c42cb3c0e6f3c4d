/- Several texts in one: Contracts: where a block may stand (the statement's own function), Contracts: the law UnifiedPlaces. No condition. -/
import Derived.Test.YthkmombkgelcnaaGreatDoorS6

section
/- Contracts: where a block may stand (the statement's own function). No condition. -/
set_option linter.unusedVariables false
set_option linter.unusedSimpArgs false
open Go Go.Proofs
namespace Qv

theorem fitsB_get {a old : List Bytes} {p : Nat} : fitsB a old p = true ↔ p + old.length ≤ a.length ∧ ∀ j, j < old.length → a[p + j]? = old[j]? := by
  constructor
  · intro h
    obtain ⟨h1, h2⟩ := fitsB_le h
    refine ⟨h1, fun j hj => ?_⟩
    rw [← h2]
    simp [seg, List.getElem?_take, show p + j < p + old.length by omega]
  · rintro ⟨h1, h2⟩
    unfold fitsB
    have : seg a p (p + old.length) = old := by
      apply List.ext_getElem?
      intro j
      by_cases hj : j < old.length
      · rw [← h2 j hj]
        simp [seg, List.getElem?_take, show p + j < p + old.length by omega]
      · have hsl := seg_length a p (p + old.length) h1
        rw [List.getElem?_eq_none (by omega), List.getElem?_eq_none (by omega)]
    simp [h1, this]

/-- The state of the loop: so many lines agree. -/
structure QInv (a : List Bytes) (b : Block) (p k : Nat) : Prop where
  le : k ≤ b.lines.length
  ok : ∀ j, j < (chosenL 45 (b.lines.take k)).length → a[p + j]? = (chosenL 45 (b.lines.take k))[j]?
  in_ : (chosenL 45 (b.lines.take k)).length = 0 ∨ p + (chosenL 45 (b.lines.take k)).length ≤ a.length

theorem chosenL_take {b : Block} {k : Nat} (h : k < b.lines.length) : chosenL 45 (b.lines.take (k + 1)) = chosenL 45 (b.lines.take k) ++ chosen1 45 b.lines[k] := by
  unfold chosenL
  exact flatMap_take (chosen1 45) _ _ h

theorem chosenL_pre {b : Block} (k j : Nat) (h : j < (chosenL 45 (b.lines.take k)).length) : (chosenL 45 b.lines)[j]? = (chosenL 45 (b.lines.take k))[j]? := by
  have : chosenL 45 b.lines = chosenL 45 (b.lines.take k) ++ chosenL 45 (b.lines.drop k) := by
    unfold chosenL
    rw [← List.flatMap_append, List.take_append_drop]
  rw [this, List.getElem?_append_left h]

theorem chosenL_take_le (b : Block) (k : Nat) : (chosenL 45 (b.lines.take k)).length ≤ (chosenL 45 b.lines).length := by
  have : chosenL 45 b.lines = chosenL 45 (b.lines.take k) ++ chosenL 45 (b.lines.drop k) := by
    unfold chosenL
    rw [← List.flatMap_append, List.take_append_drop]
  rw [this, List.length_append]
  omega

end Qv
end

section
/- Contracts: the law UnifiedPlaces. No condition. -/
set_option linter.unusedVariables false
set_option linter.unusedSimpArgs false
open Go Go.Proofs
namespace Qv

theorem PlOK_step {a : List Bytes} {r : Int} {l : List Block} {ps : List Int} {k fr : Nat} {sh : Int} (h : PlOK a r fr sh (l.drop k) (ps.drop k)) (hk : k < l.length) (hp : k < ps.length) :
    ∃ p : Nat, ps[k] = p ∧ NearG a (chosenL 45 l[k].lines) fr (fun _ => True) (l[k].oldAt + sh) r (some p) ∧ PlOK a r (p + l[k].oldLen.toNat) (p - l[k].oldAt) (l.drop (k + 1)) (ps.drop (k + 1)) := by
  rw [List.drop_eq_getElem_cons hk, List.drop_eq_getElem_cons hp] at h
  obtain ⟨p, h1, h2, h3⟩ := h
  exact ⟨p, h1, h2, h3⟩

theorem growth_take {l : List Block} {k : Nat} (h : k < l.length) : growth (l.take (k + 1)) = growth (l.take k) + (l[k].newLen - l[k].oldLen) := by
  unfold growth
  rw [← List.take_append_getElem h, List.map_append, List.sum_append]
  simp

/-- The state of the loop over the blocks. -/
structure PlI (a : List Bytes) (l : List Block) (r : Int) (ps : List Int) (k fr : Nat) (sh size : Int) : Prop where
  le : k ≤ l.length
  ok : PlOK a r fr sh (l.drop k) (ps.drop k)
  frle : fr ≤ a.length
  lo : -2 ^ 41 ≤ sh
  hi : sh ≤ 2 ^ 41
  gr : size = a.length + growth (l.take k)
  glo : -(k : Int) * 2 ^ 20 ≤ growth (l.take k)
  ghi : growth (l.take k) ≤ (k : Int) * 2 ^ 20

theorem PlI.step {a : List Bytes} {l : List Block} {r : Int} {ps : List Int} {k fr : Nat} {sh size : Int} (h : PlI a l r ps k fr sh size) (ha : a.length ≤ 2 ^ 38) (hk : k < l.length) (hp : k < ps.length) (hb : BOK l[k]) (hl : l[k].lines.length ≤ 2 ^ 20) :
    ∃ p : Nat, ps[k] = p ∧ NearG a (chosenL 45 l[k].lines) fr (fun _ => True) (l[k].oldAt + sh) r (some p) ∧ p + l[k].oldLen.toNat ≤ a.length ∧ PlI a l r ps (k + 1) (p + l[k].oldLen.toNat) (p - l[k].oldAt) (size + l[k].newLen - l[k].oldLen) := by
  obtain ⟨p, h1, h2, h3⟩ := PlOK_step h.ok hk hp
  have h4 := (fitsB_le h2.2.2.1).1
  have h5 := hb.old
  have h6 := hb.at_
  have h7 := bok_len hb hl
  have h8 := growth_take hk
  have h9 := h.glo
  have h10 := h.ghi
  have h11 := h.gr
  refine ⟨p, h1, h2, by omega, hk, h3, by omega, by omega, by omega, by rw [h8]; omega, ?_, ?_⟩
  · rw [h8]; omega
  · rw [h8]; omega

theorem near_none {a old : List Bytes} {fr p q : Nat} {want reach : Int} (h : NearG a old fr (fun _ => True) want reach (some p)) (hq : fr ≤ q) (hc : (((q : Int) - want < dist p want ∧ (q : Int) - want > -(dist p want)) ∨ ((q : Int) - want = -(dist p want) ∧ (q : Int) - want < 0 ∧ (p : Int) ≠ q))) : fitsB a old q = false := by
  rw [Bool.eq_false_iff]
  intro hf
  obtain ⟨-, -, -, -, h5⟩ := h
  have := h5 q hq trivial hf
  unfold dist at *
  split at this <;> split at this <;> omega

theorem w64n {x y : Int} (h : x = y) (h1 : -9223372036854775808 ≤ x) (h2 : x ≤ 9223372036854775807) : IntKind.i64.wrap x = y := by
  rw [wrap64 h1 h2, h]

end Qv
end
