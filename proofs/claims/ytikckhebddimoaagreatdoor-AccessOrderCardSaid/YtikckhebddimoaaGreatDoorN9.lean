/- Several texts in one: Contracts: names, Contracts: strings.IndexFunc, access.isName. No condition. -/
import Derived.Test.YtikckhebddimoaaGreatDoorN2
import Derived.Lib.TrimUEq
import Derived.Test.YtikckhebddimoaaGreatDoorN0
import Derived.Shelf.Abstract

section
/- Contracts: names. No condition. -/
set_option linter.unusedVariables false
set_option linter.unusedSimpArgs false
open Go Go.Proofs Go.RowKit
namespace Qv
def NameP (x : Int) : Prop := (97 ≤ x ∧ x ≤ 122) ∨ (65 ≤ x ∧ x ≤ 90) ∨ (48 ≤ x ∧ x ≤ 57) ∨ x = 46 ∨ x = 95 ∨ x = 45
instance (x : Int) : Decidable (NameP x) := by unfold NameP; exact inferInstance
def nameB (c : UInt8) : Bool := decide (NameP c.toNat)
def nameF (s : Bytes) : Bool := decide (s ≠ []) && decide (s ≠ [46]) && decide (s ≠ [46, 46]) && decide (s.length ≤ 40) && s.all nameB
theorem leaf_t {x : Int} (h : ¬ NameP x) : Ret.val (.bool true) = Ret.val (.bool (!decide (NameP x))) := by rw [decide_eq_false h]; rfl
theorem leaf_f {x : Int} (h : NameP x) : Ret.val (.bool false) = Ret.val (.bool (!decide (NameP x))) := by rw [decide_eq_true h]; rfl
set_option maxHeartbeats 1000000 in
theorem rune_ok (x : Int) : CallsTo C 74 [.int .i32 x] (fun r => r = .val (.bool (!decide (NameP x)))) := by
  refine callsTo_of_ev' Tryz.func74 rfl rfl rfl ?_
  refine ⟨none, ?_⟩
  repeat' (first | refine al_dec (fun h => ?_) (fun h => ?_) | refine al_eq (fun h => ?_) (fun h => ?_) | refine al_not ?_)
  all_goals first
    | exact leaf_t (by unfold NameP; omega)
    | exact leaf_f (by unfold NameP; omega)
theorem nameF_false {s : Bytes} (h : s = [] ∨ s = [46] ∨ s = [46, 46] ∨ 40 < s.length ∨ ∃ c, c ∈ s ∧ ¬ NameP c.toNat) : nameF s = false := by
  cases hq : nameF s with
  | false => rfl
  | true =>
    simp only [nameF, Bool.and_eq_true, decide_eq_true_eq, List.all_eq_true] at hq
    obtain ⟨⟨⟨⟨h1, h2⟩, h3⟩, h4⟩, h5⟩ := hq
    rcases h with h | h | h | h | ⟨c, hc, hn⟩
    · exact absurd h h1
    · exact absurd h h2
    · exact absurd h h3
    · omega
    · have := h5 c hc
      simp only [nameB, decide_eq_true_eq] at this
      exact absurd this hn
theorem nameF_true {s : Bytes} (h1 : s ≠ []) (h2 : s ≠ [46]) (h3 : s ≠ [46, 46]) (h4 : s.length ≤ 40) (h5 : ∀ c, c ∈ s → NameP c.toNat) : nameF s = true := by
  simp only [nameF, Bool.and_eq_true, decide_eq_true_eq, List.all_eq_true]
  exact ⟨⟨⟨⟨h1, h2⟩, h3⟩, h4⟩, fun c hc => by simp only [nameB, decide_eq_true_eq]; exact h5 c hc⟩
end Qv

end

section
/- Contracts: strings.IndexFunc, access.isName. No condition. -/
set_option linter.unusedVariables false
set_option linter.unusedSimpArgs false
open Go Go.Proofs Go.RowKit Go.Lib
namespace Qv
theorem below_J {w W : World} (hJ : C.J w) (hn : C.nglob ≤ w.heap.size) (hb : Below w.heap.size w W) : C.J W ∧ C.nglob ≤ W.heap.size :=
  ⟨C.stable w W (fun k hk => hb.block k (Nat.lt_of_lt_of_le hk hn)) hJ, Nat.le_trans hn hb.size⟩
theorem grows_of {g : Nat} {p : Nat → Bool} (h : ∀ x : Nat, CallsTo C g [.int .i32 (x : Int)] (fun r => r = .val (.bool (p x)))) {w : World} (hJ : C.J w) (hn : C.nglob ≤ w.heap.size) : PredGrows Tryz.prog g #[] p w := by
  intro W x hx hb
  obtain ⟨hJ', hn'⟩ := below_J hJ hn hb
  have := (h x).2 (fun _ _ => False) W [.int .i32 (x : Int)] hJ' hn' (fun _ _ h => h.elim) rfl (fun i v y h1 h2 => by
    cases i with
    | zero => simp at h1 h2; subst h1; subst h2; exact .int _ _
    | succ i => simp at h1)
  refine this.mono ?_
  rintro e w' ⟨v, r, rfl, rfl, hr, hbel⟩
  refine ⟨?_, hbel⟩
  have hr : Rep _ w' v (.bool (p x)) := hr
  cases hr
  rfl
def runeN (x : Nat) : Bool := !decide (NameP (x : Int))
theorem decodeN_big (n b0 b1 b2 b3 : Nat) (h : 128 ≤ b0) : 128 ≤ (decodeN n b0 b1 b2 b3).1 := by
  unfold decodeN
  repeat' split
  all_goals first
    | omega
    | (simp; omega)
theorem idx_names (s : Bytes) : ∀ (f pos : Nat), s.length - pos ≤ f → (idxFuncFrom runeN true ⟨s.toArray⟩ f pos < 0 ↔ ∀ c, c ∈ s.drop pos → NameP c.toNat)
  | 0, pos, hf => by
    have : s.drop pos = [] := List.drop_of_length_le (by omega)
    rw [this]
    simp [idxFuncFrom]
  | f + 1, pos, hf => by
    unfold idxFuncFrom
    have hsz : (⟨s.toArray⟩ : ByteArray).size = s.length := by simp [ByteArray.size]
    rw [hsz]
    by_cases hlt : pos < s.length
    · rw [if_pos hlt]
      have hd : s.drop pos = s[pos] :: s.drop (pos + 1) := List.drop_eq_getElem_cons hlt
      rw [hd, decode_N]
      have hg : (⟨s.toArray⟩ : ByteArray).data.toList.getD pos 0 = s[pos] := by
        show s.getD pos 0 = s[pos]
        simp [List.getD, List.getElem?_eq_getElem hlt]
      rw [hg]
      by_cases ha : s[pos].toNat < 128
      · rw [decodeN_ascii _ _ _ _ _ ha]
        simp only
        have ih := idx_names s f (pos + 1) (by omega)
        by_cases hn : NameP (s[pos].toNat : Int)
        · have : runeN s[pos].toNat = false := by simp only [runeN, decide_eq_true hn, Bool.not_true]
          rw [if_neg (by rw [this]; simp), ih]
          exact ⟨fun h c hc => by
            rcases List.mem_cons.1 hc with rfl | hc
            · exact hn
            · exact h c hc, fun h c hc => h c (List.mem_cons_of_mem _ hc)⟩
        · have : runeN s[pos].toNat = true := by simp only [runeN, decide_eq_false hn, Bool.not_false]
          rw [if_pos this]
          exact ⟨fun h => absurd h (by omega), fun h => absurd (h _ List.mem_cons_self) hn⟩
      · have hbig := decodeN_big ((⟨s.toArray⟩ : ByteArray).data.toList.length - pos) s[pos].toNat ((⟨s.toArray⟩ : ByteArray).data.toList.getD (pos + 1) 0).toNat ((⟨s.toArray⟩ : ByteArray).data.toList.getD (pos + 2) 0).toNat ((⟨s.toArray⟩ : ByteArray).data.toList.getD (pos + 3) 0).toNat (by omega)
        generalize decodeN _ _ _ _ _ = d at hbig ⊢
        have hn : ¬ NameP (d.1 : Int) := by unfold NameP; omega
        have : runeN d.1 = true := by simp only [runeN, decide_eq_false hn, Bool.not_false]
        rw [if_pos this]
        exact ⟨fun h => absurd h (by omega), fun h => absurd (h _ List.mem_cons_self) (by unfold NameP; omega)⟩
    · rw [if_neg hlt]
      have : s.drop pos = [] := List.drop_of_length_le (by omega)
      rw [this]
      simp
theorem indexNames_ok (s : Bytes) : CallsTo C 73 [.str s, .fn (.func 74) [] []] (fun r => ∃ i : Int, r = .val (.int .i64 i) ∧ (i < 0 ↔ ∀ c, c ∈ s → NameP c.toNat)) := by
  refine ⟨⟨_, Tryz.func73, rfl, rfl⟩, fun imm w vs hJ hn hi hl hr => ?_⟩
  match vs, hl with
  | [v0, v1], _ =>
  have h := hr 0 v0 _ rfl rfl
  have h' := hr 1 v1 _ rfl rfl
  obtain rfl : v0 = .string ⟨s.toArray⟩ := by cases h; rfl
  obtain ⟨fs, cs, rfl, ⟨q1, -⟩, ⟨q2, -⟩⟩ := fn_inv (G := bare imm) (.p _ _ h')
  have hfs : fs = [] := List.length_eq_zero_iff.1 q1
  have hcs : cs = [] := List.length_eq_zero_iff.1 q2
  subst hfs; subst hcs
  refine (Tryz.strings_IndexFunc_grows 74 #[] (enters_of Tryz.func74 rfl rfl) runeN ⟨s.toArray⟩ w (grows_of (p := runeN) (fun x => rune_ok x) hJ hn)).mono ?_
  rintro e w' ⟨rfl, hb⟩
  refine ⟨_, _, rfl, ⟨_, rfl, ?_⟩, .int _ _, hb⟩
  have hsz : (⟨s.toArray⟩ : ByteArray).size = s.length := by simp [ByteArray.size]
  have := idx_names s s.length 0 (by omega)
  rw [List.drop_zero] at this
  rw [← this]
  unfold idxFunc
  rw [hsz]
theorem isName_ok (s : Bytes) : CallsTo C 39 [.str s] (fun r => r = .val (.bool (nameF s))) := by
  refine callsTo_of_ev' Tryz.func39 rfl rfl rfl ?_
  refine ⟨none, ?_⟩
  refine al_eq (fun h1 => ?_) (fun h1 => ?_)
  · rw [nameF_false (.inl h1)]
    exact rfl
  refine al_eq (fun h2 => ?_) (fun h2 => ?_)
  · rw [nameF_false (.inr (.inl h2))]
    exact rfl
  refine al_eq (fun h3 => ?_) (fun h3 => ?_)
  · rw [nameF_false (.inr (.inr (.inl h3)))]
    exact rfl
  refine al_dec (fun h4 => ?_) (fun h4 => ?_)
  · rw [nameF_false (.inr (.inr (.inr (.inl (by omega)))))]
    exact rfl
  refine ⟨_, indexNames_ok s, ?_⟩
  rintro r ⟨i, rfl, hi⟩
  refine al_dec (fun h5 => ?_) (fun h5 => ?_)
  · rw [nameF_true h1 h2 h3 (by omega) (hi.1 h5)]
    exact rfl
  · have : ∃ c, c ∈ s ∧ ¬ NameP c.toNat := Classical.byContradiction fun hno => h5 (hi.2 fun c hc => Classical.byContradiction fun hn => hno ⟨c, hc, hn⟩)
    rw [nameF_false (.inr (.inr (.inr (.inr this))))]
    exact rfl
end Qv

end
