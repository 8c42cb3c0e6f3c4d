/- Several texts in one: Contracts of the reference's access: find, has, Contracts: equality of lists of texts (reference), small. No condition. -/
import Derived.Test.YtikckhebddimoaaGreatDoorT2

section
/- Contracts of the reference's access: find, has. No condition. -/
set_option linter.unusedVariables false
set_option linter.unusedSimpArgs false
open Go Go.Proofs Go.RowKit
namespace Qv
theorem refFind_ok (l : List Group) (n : Bytes) (hl : l.length ≤ 2 ^ 40) : CallsTo C 47 [encGroups l, .str n] (fun r => r = .val (.int .i64 (findG l n))) := by
  refine callsTo_of_ev' Tryz.func47 rfl rfl rfl ?_
  refine loopR 20 (fun k : Nat => [(0, .p (encGroups l)), (1, .p (.str n)), (5, .p (.int .i64 k))]) (fun _ => []) (fun k => k ≤ l.length ∧ ∀ i g, i < k → l[i]? = some g → (g.name == n) = false) (fun k => l.length - k) 0 ⟨Nat.zero_le _, fun i g h => absurd h (by omega)⟩ rfl ⟨Weak.refl _, Weak.refl _, Weak.refl _, trivial⟩ trivial ?_
  rintro k ⟨hk, hall⟩
  refine al_lt (fun hlt => ?_) (fun hge => ?_)
  · refine ⟨by omega, [.str (l[k]).name, encS (l[k]).members], idx_map (f := encGroup) rfl hlt, rfl, ?_⟩
    refine al_eq (fun he => ?_) (fun he => ?_)
    · have hq : ((l[k]).name == n) = true := by rw [beq_iff_eq]; exact he
      have : findG l n = (k : Int) := by
        unfold findG
        have : l.findIdx? (fun g => g.name == n) = some k := by
          rw [List.findIdx?_eq_some_iff_getElem]
          refine ⟨hlt, hq, fun j hj => ?_⟩
          rw [hall j l[j] hj (List.getElem?_eq_getElem (by omega))]
          simp
        rw [this]
      rw [this]
      exact rfl
    · have hq : ((l[k]).name == n) = false := by rw [beq_eq_false_iff_ne]; exact he
      refine ⟨((k + 1 : Nat) : Int), by rw [wrap64 (by omega) (by omega)]; omega, roundR (k + 1) ⟨hlt, fun i g hi hg => ?_⟩ (by omega) rfl ⟨Weak.refl _, Weak.refl _, Weak.refl _, trivial⟩ trivial⟩
      by_cases hik : i = k
      · subst hik
        rw [List.getElem?_eq_getElem hlt] at hg
        obtain rfl := Option.some.inj hg
        exact hq
      · exact hall i g (by omega) hg
  · have : findG l n = -1 := by
      unfold findG
      have : l.findIdx? (fun g => g.name == n) = none := by
        rw [List.findIdx?_eq_none_iff]
        intro g hg
        obtain ⟨i, hi⟩ := List.getElem?_of_mem hg
        exact hall i g (by have := (List.getElem?_eq_some_iff.1 hi).1; omega) hi
      rw [this]
    rw [this]
    exact rfl
theorem has_ok (l : List Bytes) (n : Bytes) (hl : l.length ≤ 2 ^ 40) : CallsTo C 48 [encS l, .str n] (fun r => r = .val (.bool (l.contains n))) := by
  refine callsTo_of_ev' Tryz.func48 rfl rfl rfl ?_
  refine loopR 18 (fun k : Nat => [(0, .p (encS l)), (1, .p (.str n)), (5, .p (.int .i64 k))]) (fun _ => []) (fun k => k ≤ l.length ∧ ∀ i g, i < k → l[i]? = some g → g ≠ n) (fun k => l.length - k) 0 ⟨Nat.zero_le _, fun i g h => absurd h (by omega)⟩ rfl ⟨Weak.refl _, Weak.refl _, Weak.refl _, trivial⟩ trivial ?_
  rintro k ⟨hk, hall⟩
  refine al_lt (fun hlt => ?_) (fun hge => ?_)
  · refine ⟨by omega, _, idx_map rfl hlt, rfl, ?_⟩
    refine al_eq (fun he => ?_) (fun he => ?_)
    · have he : l[k] = n := he
      have h1 : l.contains n = true := by
        rw [List.contains_iff_mem, ← he]
        exact List.getElem_mem hlt
      rw [h1]
      exact rfl
    · have he : l[k] ≠ n := he
      refine ⟨((k + 1 : Nat) : Int), by rw [wrap64 (by omega) (by omega)]; omega, roundR (k + 1) ⟨hlt, fun i g hi hg => ?_⟩ (by omega) rfl ⟨Weak.refl _, Weak.refl _, Weak.refl _, trivial⟩ trivial⟩
      by_cases hik : i = k
      · subst hik
        rw [List.getElem?_eq_getElem hlt] at hg
        obtain rfl := Option.some.inj hg
        exact he
      · exact hall i g (by omega) hg
  · have h1 : l.contains n = false := by
      cases hq : l.contains n with
      | false => rfl
      | true =>
        rw [List.contains_iff_mem] at hq
        obtain ⟨i, hi⟩ := List.getElem?_of_mem hq
        exact absurd rfl (hall i n (by have := (List.getElem?_eq_some_iff.1 hi).1; omega) hi)
    rw [h1]
    exact rfl
end Qv
end

section
/- Contracts: equality of lists of texts (reference), small. No condition. -/
set_option linter.unusedVariables false
set_option linter.unusedSimpArgs false
open Go Go.Proofs Go.RowKit
namespace Qv
theorem same_step {α : Type} {a b : List α} {k : Nat} (hl : a.length = b.length) (hk : k < a.length) (he : a.take k = b.take k) (h : a[k] = b[k]) : a.take (k + 1) = b.take (k + 1) := by
  rw [← List.take_append_getElem hk, ← List.take_append_getElem (show k < b.length by omega), he, h]
theorem same_all {α : Type} {a b : List α} {k : Nat} (hl : a.length = b.length) (hk : ¬ k < a.length) (he : a.take k = b.take k) : a = b := by
  rw [List.take_of_length_le (by omega), List.take_of_length_le (by omega)] at he
  exact he
theorem sameStrings_ok (a b : List Bytes) (ha : a.length ≤ 2 ^ 40) (hb : b.length ≤ 2 ^ 40) : CallsTo C 38 [encS a, encS b] (fun r => r = .val (.bool (decide (a = b)))) := by
  refine callsTo_of_ev' Tryz.func38 rfl rfl rfl ?_
  refine al_ne (fun h => ?_) (fun h => ?_)
  · have : a ≠ b := fun e => h (by rw [e])
    show Ret.val (.bool false) = _
    simp [this]
  · have hl : a.length = b.length := by
      simp only [List.length_map] at h; omega
    refine loopR 26 (fun k : Nat => [(0, .p (encS a)), (1, .p (encS b)), (5, .p (.int .i64 k))]) (fun _ => []) (fun k => k ≤ a.length ∧ a.take k = b.take k) (fun k => a.length - k) 0 ⟨Nat.zero_le _, rfl⟩ rfl ⟨Weak.refl _, Weak.refl _, Weak.refl _, trivial⟩ trivial ?_
    rintro k ⟨hk, he⟩
    refine al_lt (fun hlt => ?_) (fun hge => ?_)
    · have hlb : k < b.length := by omega
      refine ⟨.lex 8, by kernel_rfl, _, rfl, _, rfl, _, ⟨by omega, _, idx_map rfl hlt, rfl, rfl⟩, _, rfl, _, rfl, _, rfl, _, ⟨by omega, _, idx_map rfl hlb, rfl, rfl⟩, _, rfl, ?_⟩
      refine al_nes (fun h => ?_) (fun h => ?_)
      · have : a ≠ b := fun e => by subst e; exact h rfl
        show Ret.val (.bool false) = _
        simp [this]
      · exact ⟨k + 1, wrap64 (by first | omega | (simp only [List.length_map, List.length_append, List.length_cons, List.length_nil] at *; omega)) (by first | omega | (simp only [List.length_map, List.length_append, List.length_cons, List.length_nil] at *; omega)), roundR (k + 1) ⟨hlt, same_step hl hlt he h⟩ (by omega) rfl ⟨Weak.refl _, Weak.refl _, Weak.refl _, trivial⟩ trivial⟩
    · have : a = b := same_all hl hge he
      show Ret.val (.bool true) = _
      simp [this]
def smallF (l : List Bytes) : Bool := l.all (fun s => decide (s.length ≤ 40)) && decide (l.length ≤ 6)
theorem small_ok (l : List Bytes) (hl : l.length ≤ 2 ^ 60) : CallsTo C 18 [encS l] (fun r => r = .val (.bool (smallF l))) := by
  refine callsTo_of_ev' Tryz.func18 rfl rfl rfl ?_
  refine loopR 18 (fun k : Nat => [(0, .p (encS l)), (5, .p (encS l)), (6, .p (.int .i64 (l.map enc1).length)), (7, .p (.int .i64 k))]) (fun _ => []) (fun k => k ≤ l.length ∧ ∀ i g, i < k → l[i]? = some g → g.length ≤ 40) (fun k => l.length - k) 0 ⟨Nat.zero_le _, fun i g h => absurd h (by omega)⟩ rfl ⟨Weak.refl _, Weak.refl _, Weak.refl _, Weak.refl _, trivial⟩ trivial ?_
  rintro k ⟨hk, hall⟩
  refine al_lt (fun hlt => ?_) (fun hge => ?_)
  · refine ⟨by omega, _, idx_map rfl hlt, rfl, ?_⟩
    refine al_dec (fun hg => ?_) (fun hg => ?_)
    · have hg : ((l[k]).length : Int) > 40 := hg
      have : smallF l = false := by
        unfold smallF
        have : l.all (fun s => decide (s.length ≤ 40)) = false := by
          rw [List.all_eq_false]
          exact ⟨l[k], List.getElem_mem hlt, by simp; omega⟩
        rw [this, Bool.false_and]
      rw [this]
      exact rfl
    · have hg : ¬ ((l[k]).length : Int) > 40 := hg
      refine ⟨((k + 1 : Nat) : Int), by rw [wrap64 (by omega) (by omega)]; omega, roundR (k + 1) ⟨hlt, fun i g hi hgi => ?_⟩ (by omega) rfl ⟨Weak.refl _, Weak.refl _, Weak.refl _, Weak.refl _, trivial⟩ trivial⟩
      by_cases hik : i = k
      · subst hik
        rw [List.getElem?_eq_getElem hlt] at hgi
        obtain rfl := Option.some.inj hgi
        omega
      · exact hall i g (by omega) hgi
  · have h1 : l.all (fun s => decide (s.length ≤ 40)) = true := by
      rw [List.all_eq_true]
      intro g hg
      obtain ⟨i, hi⟩ := List.getElem?_of_mem hg
      have := hall i g (by have := (List.getElem?_eq_some_iff.1 hi).1; omega) hi
      simpa using this
    refine ⟨fun t ht => ?_⟩
    have hlen : ((l.map enc1).length : Int) = (l.length : Int) := by simp
    have : smallF l = t := by
      unfold smallF
      rw [h1, Bool.true_and, ht]
      show _ = decide (((l.map enc1).length : Int) ≤ 6)
      rw [hlen]
      apply decide_eq_decide.2
      omega
    rw [this]
    exact rfl
end Qv
end
