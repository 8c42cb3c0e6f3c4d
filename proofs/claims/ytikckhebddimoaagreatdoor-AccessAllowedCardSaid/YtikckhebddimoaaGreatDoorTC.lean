/- Several texts in one: The words of a line; contract: access.fields, Contracts of the reference's reader: split, words, number, right, kind. No condition. -/
import Derived.Test.YtikckhebddimoaaGreatDoorTB
import Derived.Lib.SpaceUEq
import Derived.Lib.FieldsP

section
/- The words of a line; contract: access.fields. No condition. -/
set_option linter.unusedVariables false
set_option linter.unusedSimpArgs false
open Go Go.Proofs Go.RowKit Go.Lib
namespace Qv
def wordsF (l : Bytes) : List Bytes := (parts 32 l).filter fun w => decide (w ≠ [])
theorem words_space (l : Bytes) : wordsF (32 :: l) = wordsF l := by
  show (parts 32 (32 :: l)).filter _ = _
  have : parts 32 (32 :: l) = [] :: parts 32 l := by simp [parts]
  rw [this, List.filter_cons_of_neg (by simp)]
  rfl
theorem words_nil : wordsF [] = [] := by simp [wordsF, parts]
theorem words_one {u : Bytes} (hn : u ≠ []) (h : ∀ b, b ∈ u → b ≠ 32) : wordsF u = [u] := by
  unfold wordsF
  rw [parts_one h, List.filter_cons_of_pos (by simpa using hn)]
  rfl
theorem words_cut {u v : Bytes} (hn : u ≠ []) (h : ∀ b, b ∈ u → b ≠ 32) : wordsF (u ++ 32 :: v) = u :: wordsF v := by
  unfold wordsF
  rw [parts_cut h, List.filter_cons_of_pos (by simpa using hn)]
def segOf (s : Bytes) (x : Nat × Nat) : Bytes := (s.take x.2).drop x.1
def isSp (x : Nat) : Bool := decide ((x : Int) = 32)
theorem decode_skip (s : Bytes) (pos : Nat) (h : pos < s.length) : let d := Utf8.decode ⟨s.toArray⟩ pos
    1 ≤ d.2 ∧ pos + d.2 ≤ s.length ∧ (d.1 = 32 → s[pos]? = some 32 ∧ d.2 = 1) ∧ (d.1 ≠ 32 → ∀ i, pos ≤ i → i < pos + d.2 → s[i]? ≠ some 32) := by
  intro d
  have hg : ∀ i, (⟨s.toArray⟩ : ByteArray).data.toList.getD i 0 = s.getD i 0 := fun i => rfl
  have hd : d = decodeN (s.length - pos) (s.getD pos 0).toNat (s.getD (pos + 1) 0).toNat (s.getD (pos + 2) 0).toNat (s.getD (pos + 3) 0).toNat := decode_N ⟨s.toArray⟩ pos
  obtain ⟨c1, c2, c3, c4⟩ := decodeN_conts (s.length - pos) (s.getD pos 0).toNat (s.getD (pos + 1) 0).toNat (s.getD (pos + 2) 0).toNat (s.getD (pos + 3) 0).toNat
  have c0 := decodeN_ge1 (s.length - pos) (s.getD pos 0).toNat (s.getD (pos + 1) 0).toNat (s.getD (pos + 2) 0).toNat (s.getD (pos + 3) 0).toNat
  rw [← hd] at c0 c1 c2 c3 c4
  have hb : s.getD pos 0 = s[pos] := by simp [List.getD, List.getElem?_eq_getElem h]
  have asc : (s.getD pos 0).toNat < 128 → d = ((s.getD pos 0).toNat, 1) := fun ha => by rw [hd]; exact decodeN_ascii _ _ _ _ _ ha
  have big : 128 ≤ (s.getD pos 0).toNat → 128 ≤ d.1 := fun ha => by rw [hd]; exact decodeN_big _ _ _ _ _ ha
  have cont : ∀ i, (s.getD i 0).toNat / 64 = 2 → s[i]? ≠ some 32 := fun i hi he => by
    have : s.getD i 0 = 32 := by simp [List.getD, he]
    rw [this] at hi
    exact absurd hi (by decide)
  refine ⟨c0, ?_, fun h32 => ?_, fun h32 i hi hi2 => ?_⟩
  · have e1 : d.2 = 1 ∨ d.2 = 2 ∨ d.2 = 3 ∨ d.2 = 4 := by omega
    rcases e1 with e | e | e | e
    · omega
    · have := (c1 (by omega)).2; omega
    · have := (c2 (by omega)).2; omega
    · have := (c3 (by omega)).2; omega
  · by_cases ha : (s.getD pos 0).toNat < 128
    · have hda := asc ha
      rw [hda] at h32 ⊢
      have h32 : (s.getD pos 0).toNat = 32 := h32
      refine ⟨?_, rfl⟩
      rw [List.getElem?_eq_getElem h, ← hb]
      exact congrArg some (UInt8.toNat.inj h32)
    · have := big (by omega); omega
  · by_cases hip : i = pos
    · subst hip
      intro he
      have hsp : s.getD i 0 = 32 := by simp [List.getD, he]
      have := asc (by rw [hsp]; decide)
      rw [this, hsp] at h32
      exact h32 rfl
    · have hk : i = pos + 1 ∨ i = pos + 2 ∨ i = pos + 3 := by omega
      rcases hk with rfl | rfl | rfl
      · exact cont _ (c1 (by omega)).1
      · exact cont _ (c2 (by omega)).1
      · exact cont _ (c3 (by omega)).1
def begOf (st : Option Nat) (pos : Nat) : Nat := match st with
  | some a => a
  | none => pos
theorem seg_words {s : Bytes} {a pos : Nat} (hap : a < pos) (hp : pos ≤ s.length) (hno : ∀ i, a ≤ i → i < pos → s[i]? ≠ some 32) : segOf s (a, pos) ≠ [] ∧ ∀ b, b ∈ segOf s (a, pos) → b ≠ 32 := by
  constructor
  · intro e
    have := congrArg List.length e
    simp only [segOf, List.length_drop, List.length_take, List.length_nil] at this
    omega
  · intro b hb e
    subst e
    obtain ⟨j, hj⟩ := List.getElem?_of_mem hb
    simp only [segOf, List.getElem?_drop, List.getElem?_take] at hj
    split at hj
    · rename_i h1
      exact hno (a + j) (by omega) h1 hj
    · cases hj
theorem drop_seg {s : Bytes} {a pos : Nat} (hap : a ≤ pos) (hp : pos ≤ s.length) : s.drop a = segOf s (a, pos) ++ s.drop pos := by
  have : s = s.take pos ++ s.drop pos := (List.take_append_drop pos s).symm
  conv => lhs; rw [this]
  rw [List.drop_append_of_le_length (by rw [List.length_take]; omega)]
  rfl
theorem spans_words (s : Bytes) : ∀ (f pos : Nat) (st : Option Nat) (acc : List (Nat × Nat)), s.length - pos ≤ f → pos ≤ s.length → (∀ a, st = some a → a < pos ∧ ∀ i, a ≤ i → i < pos → s[i]? ≠ some 32) →
    (closeSpans ⟨s.toArray⟩ (spansFromP isSp ⟨s.toArray⟩ f pos st acc)).map (segOf s) = acc.map (segOf s) ++ wordsF (s.drop (begOf st pos)) := by
  have hsz : (⟨s.toArray⟩ : ByteArray).size = s.length := by simp [ByteArray.size]
  have ended : ∀ (st : Option Nat) (acc : List (Nat × Nat)), (∀ a, st = some a → a < s.length ∧ ∀ i, a ≤ i → i < s.length → s[i]? ≠ some 32) →
      (closeSpans ⟨s.toArray⟩ (acc, st)).map (segOf s) = acc.map (segOf s) ++ wordsF (s.drop (begOf st s.length)) := fun st acc hst => by
    cases st with
    | none =>
      have : s.drop (begOf none s.length) = [] := List.drop_of_length_le (Nat.le_refl _)
      rw [this, words_nil, List.append_nil]
      rfl
    | some a =>
      obtain ⟨h1, h2⟩ := hst a rfl
      obtain ⟨h3, h4⟩ := seg_words h1 (Nat.le_refl _) h2
      have hd : s.drop a = segOf s (a, s.length) := by
        have := drop_seg (s := s) (a := a) (pos := s.length) (by omega) (Nat.le_refl _)
        rw [List.drop_length, List.append_nil] at this
        exact this
      show ((acc ++ [(a, (⟨s.toArray⟩ : ByteArray).size)]).map (segOf s)) = acc.map (segOf s) ++ wordsF (s.drop a)
      rw [hsz, hd, words_one h3 h4, List.map_append]
      rfl
  intro f
  induction f with
  | zero =>
    intro pos st acc hf hp hst
    have : pos = s.length := by omega
    subst this
    exact ended st acc hst
  | succ f ih =>
    intro pos st acc hf hp hst
    by_cases hlt : pos < s.length
    · unfold spansFromP
      rw [hsz, if_pos hlt]
      obtain ⟨d1, d2, d3, d4⟩ := decode_skip s pos hlt
      generalize Utf8.decode ⟨s.toArray⟩ pos = d at d1 d2 d3 d4 ⊢
      by_cases h32 : d.1 = 32
      · have hsp : isSp d.1 = true := by rw [h32]; rfl
        obtain ⟨e1, e2⟩ := d3 h32
        have hc : s.drop pos = 32 :: s.drop (pos + 1) := by
          rw [List.drop_eq_getElem_cons hlt]
          have := (List.getElem?_eq_some_iff.1 e1).2
          rw [this]
        rw [if_pos hsp, e2]
        cases st with
        | none =>
          rw [ih (pos + 1) none acc (by omega) (by omega) (fun a h => by cases h)]
          show _ ++ wordsF (s.drop (pos + 1)) = _ ++ wordsF (s.drop pos)
          rw [hc, words_space]
        | some a =>
          obtain ⟨h1, h2⟩ := hst a rfl
          obtain ⟨h3, h4⟩ := seg_words h1 (by omega) h2
          show (closeSpans _ (spansFromP isSp _ f (pos + 1) none (acc ++ [(a, pos)]))).map _ = _
          rw [ih (pos + 1) none (acc ++ [(a, pos)]) (by omega) (by omega) (fun a h => by cases h)]
          show _ ++ wordsF (s.drop (pos + 1)) = _ ++ wordsF (s.drop a)
          rw [drop_seg (s := s) (a := a) (pos := pos) (by omega) (by omega), hc, words_cut h3 h4, List.map_append]
          simp
      · have hsp : isSp d.1 = false := by
          unfold isSp
          exact decide_eq_false (by omega)
        rw [if_neg (by rw [hsp]; simp)]
        have d4 := d4 h32
        cases st with
        | none =>
          show (closeSpans _ (spansFromP isSp _ f (pos + d.2) (some pos) acc)).map _ = _
          rw [ih (pos + d.2) (some pos) acc (by omega) d2 (fun a h => by
            obtain rfl := Option.some.inj h
            exact ⟨by omega, d4⟩)]
          rfl
        | some a =>
          obtain ⟨h1, h2⟩ := hst a rfl
          show (closeSpans _ (spansFromP isSp _ f (pos + d.2) (some a) acc)).map _ = _
          rw [ih (pos + d.2) (some a) acc (by omega) d2 (fun a' h => by
            obtain rfl := Option.some.inj h
            exact ⟨by omega, fun i hi hi2 => by
              by_cases hip : i < pos
              · exact h2 i hi hip
              · exact d4 i (by omega) hi2⟩)]
          rfl
    · have : pos = s.length := by omega
      subst this
      rw [spansFromP_end _ _ _ _ _ _ (by rw [hsz]; exact hlt)]
      exact ended st acc hst
theorem goFields_words (s : Bytes) : (goFieldsP isSp ⟨s.toArray⟩).map (·.data.toList) = wordsF s := by
  have hsz : (⟨s.toArray⟩ : ByteArray).size = s.length := by simp [ByteArray.size]
  have h := spans_words s s.length 0 none [] (by omega) (Nat.zero_le _) (fun a h => by cases h)
  rw [show begOf none 0 = 0 from rfl, List.drop_zero, List.map_nil, List.nil_append] at h
  rw [← h]
  unfold goFieldsP spansOfP
  rw [hsz, List.map_map]
  apply List.map_congr_left
  intro x hx
  simp only [Function.comp, segOf]
  rw [ByteArray.data_extract, Array.toList_extract]
  show (s.drop x.1).take (x.2 - x.1) = _
  rw [List.drop_take]
theorem rep_row {imm : Nat → Nat → Prop} {w : World} {A : Nat} {cur : Array Value} {e : TypeId} (L : List ByteArray) (h : w.heap[A]? = some (.cells cur e (0, 0))) (hc : cur.toList.take L.length = L.map Value.string) (hi : ∀ o, imm A o) :
    Rep imm w (.slice (some ⟨A, 0, none⟩) L.length L.length) (encS (L.map (·.data.toList))) := by
  have hlen : ((L.map (·.data.toList)).map enc1).length = L.length := by simp
  have get : ∀ (i : Nat) (ys : List AV) (j : Nat) (y : AV), ((L.map (·.data.toList)).map enc1)[i]? = some ys → ys[j]? = some y → ∃ b : ByteArray, L[i]? = some b ∧ j = 0 ∧ y = .str b.data.toList := fun i ys j y h2 h3 => by
    rw [List.map_map, List.getElem?_map] at h2
    cases hq : L[i]? with
    | none => simp [hq] at h2
    | some b =>
      simp only [hq, Option.map_some, Option.some.injEq, Function.comp, enc1] at h2
      subst h2
      cases j with
      | zero => simp at h3; exact ⟨b, rfl, rfl, h3.symm⟩
      | succ j => simp at h3
  unfold encS
  rw [← hlen]
  refine Rep.sl A 0 _ 1 _ (fun i _ => (L[i]?).elim undef Value.string) (fun i ys h2 => ?_) (fun i ys j y h2 h3 => ?_) (fun i ys j y h2 h3 => ?_) (fun i ys j y h2 h3 => hi _) (fun i ys j y h2 h3 => ?_) (by omega)
  · obtain ⟨x, -, rfl⟩ := List.mem_map.1 (List.mem_of_getElem? h2)
    rfl
  · obtain ⟨b, -, -, rfl⟩ := get i ys j y h2 h3
    rfl
  · obtain ⟨b, hb, rfl, rfl⟩ := get i ys j y h2 h3
    have hlt := (List.getElem?_eq_some_iff.1 hb).1
    have h4 : cur.toList[i]? = some (Value.string b) := by
      have : (cur.toList.take L.length)[i]? = some (Value.string b) := by rw [hc, List.getElem?_map, hb]; rfl
      rw [List.getElem?_take, if_pos hlt] at this
      exact this
    simp only [World.cell?, h, hb, Option.elim]
    rw [show 0 + i * 1 + 0 = i from by omega, ← Array.getElem?_toList, h4]
    rfl
  · obtain ⟨b, hb, rfl, rfl⟩ := get i ys j y h2 h3
    rw [hb]
    exact rep_str_of _ _ _
theorem space_ok (x : Int) : CallsTo C 60 [.int .i32 x] (fun r => r = .val (.bool (decide (x = 32)))) := by
  refine callsTo_of_ev' Tryz.func60 rfl rfl rfl ?_
  refine ⟨fun t ht => ?_⟩
  have ht : t = (x == 32) := ht
  have : decide (x = 32) = t := by rw [ht]; rfl
  rw [this]
  exact rfl
theorem fieldsFunc_ok (s : Bytes) (hs : s.length ≤ 4294967296) : CallsTo C 59 [.str s, .fn (.func 60) [] []] (fun r => r = .val (encS (wordsF s))) := by
  refine ⟨⟨_, Tryz.func59, rfl, rfl⟩, fun imm w vs hJ hn hi hl hr => ?_⟩
  match vs, hl with
  | [v0, v1], _ =>
  have h := hr 0 v0 _ rfl rfl
  have h' := hr 1 v1 _ rfl rfl
  obtain rfl : v0 = .string ⟨s.toArray⟩ := by cases h; rfl
  obtain ⟨fs, cs, rfl, ⟨q1, -⟩, ⟨q2, -⟩⟩ := fn_inv (G := bare imm) (.p _ _ h')
  have hfs : fs = [] := List.length_eq_zero_iff.1 q1
  have hcs : cs = [] := List.length_eq_zero_iff.1 q2
  subst hfs; subst hcs
  have hsz : (⟨s.toArray⟩ : ByteArray).size = s.length := by simp [ByteArray.size]
  refine (Tryz.strings_FieldsFunc_grows 60 #[] (enters_of Tryz.func60 rfl rfl) isSp ⟨s.toArray⟩ w (by rw [hsz]; exact hs) (grows_of (p := isSp) (fun x => space_ok x) hJ hn)).mono ?_
  rintro e w' ⟨A, rfl, hA, ho, hb⟩
  rw [← goFields_words]
  generalize goFieldsP isSp ⟨s.toArray⟩ = L at ho ⊢
  refine ⟨_, _, rfl, rfl, ?_, hb⟩
  obtain ⟨-, ho⟩ := ho
  rcases ho with ⟨ho, -⟩ | ⟨g, cap, cur, ho, -, h1, -, -, -, h2⟩
  · cases ho
  · injection ho with e1 e2 e3
    injection e1 with e1
    injection e1 with e1
    subst e1
    rw [Nat.mul_one] at h2
    exact rep_row L h1 h2 (fun o => .inr hA)
theorem fields_ok (s : Bytes) (hs : s.length ≤ 4294967296) : CallsTo C 30 [.str s] (fun r => r = .val (encS (wordsF s))) := by
  refine callsTo_of_ev' Tryz.func30 rfl rfl rfl ?_
  refine ⟨_, fieldsFunc_ok s hs, fun r hr => ?_⟩
  subst hr
  exact rfl
end Qv
end

section
/- Contracts of the reference's reader: split, words, number, right, kind. No condition. -/
set_option linter.unusedVariables false
set_option linter.unusedSimpArgs false
open Go Go.Proofs Go.RowKit
namespace Qv
def SpC (c : UInt8) (s : Bytes) (x : Nat × Nat × List Bytes) : Prop :=
  x.1 ≤ s.length + 1 ∧ x.2.1 ≤ x.1 ∧ x.2.2.length ≤ x.1 ∧ (x.1 ≤ s.length → x.2.2 ++ parts c (s.drop x.2.1) = parts c s ∧ ∀ i, x.2.1 ≤ i → i < x.1 → s[i]? ≠ some c) ∧ (x.1 = s.length + 1 → x.2.2 = parts c s)
theorem seg_freeC {c : UInt8} {s : Bytes} {a k : Nat} (h : ∀ i, a ≤ i → i < k → s[i]? ≠ some c) : ∀ b, b ∈ (s.take k).drop a → b ≠ c := by
  intro b hb e
  subst e
  obtain ⟨j, hj⟩ := List.getElem?_of_mem hb
  rw [List.getElem?_drop, List.getElem?_take] at hj
  split at hj
  · rename_i h1
    exact h (a + j) (by omega) h1 hj
  · cases hj
theorem refSplitC_ok (s : Bytes) (c : UInt8) (hs : s.length ≤ 2 ^ 30) : CallsTo C 34 [.str s, .int .u8 c.toNat] (fun r => r = .val (encS (parts c s))) := by
  refine callsTo_of_ev' Tryz.func34 rfl rfl rfl ?_
  refine loopR 36 (fun x : Nat × Nat × List Bytes => [(0, .p (.str s)), (1, .p (.int .u8 c.toNat)), (5, .tip 8 9 1 (x.2.2.map enc1)), (6, .p (.int .i64 x.2.1)), (7, .p (.int .i64 x.1))]) (fun _ => []) (SpC c s) (fun x => s.length + 1 - x.1) (0, 0, [])
    ⟨by show 0 ≤ _; omega, Nat.le_refl _, Nat.le_refl _, fun _ => ⟨rfl, fun i h1 h2 => absurd h2 (by show ¬ i < 0; omega)⟩, fun h => absurd h (by show ¬ 0 = _; omega)⟩ rfl ⟨Weak.refl _, Weak.refl _, Weak.refl _, Weak.refl _, Weak.refl _, trivial⟩ trivial ?_
  rintro ⟨k, a, out⟩ ⟨h1, h2, h3, h4, h5⟩
  have h1 : k ≤ s.length + 1 := h1
  have h2 : a ≤ k := h2
  have h3 : out.length ≤ k := h3
  have h4 : k ≤ s.length → out ++ parts c (s.drop a) = parts c s ∧ ∀ i, a ≤ i → i < k → s[i]? ≠ some c := h4
  have h5 : k = s.length + 1 → out = parts c s := h5
  have hw : IntKind.i64.wrap ((k : Int) + 1) = ((k + 1 : Nat) : Int) := by rw [wrap64 (by omega) (by omega)]; omega
  refine al_dec (fun hle => ?_) (fun hgt => ?_)
  · have hle : k ≤ s.length := by
      have : (k : Int) ≤ (s.length : Int) := hle
      omega
    obtain ⟨h6, h7⟩ := h4 hle
    refine ⟨none, ?_⟩
    have piece : ∀ (hx : out ++ [(s.take k).drop a] ++ (if k < s.length then parts c (s.drop (k + 1)) else []) = parts c s), SpC c s (k + 1, k + 1, out ++ [(s.take k).drop a]) := fun hx => by
      refine ⟨by show k + 1 ≤ _; omega, Nat.le_refl _, by show (out ++ [_]).length ≤ k + 1; simp; omega, fun hq => ?_, fun hq => ?_⟩
      · have hq : k + 1 ≤ s.length := hq
        rw [if_pos (by omega)] at hx
        exact ⟨hx, fun i h8 h9 => absurd h9 (by have h8 : k + 1 ≤ i := h8; show ¬ i < k + 1; omega)⟩
      · have hq : k + 1 = s.length + 1 := hq
        rw [if_neg (by omega), List.append_nil] at hx
        exact hx
    have happ : out.map enc1 ++ [[.str ((s.take k).drop a)]] = (out ++ [(s.take k).drop a]).map enc1 := by simp [enc1]
    refine al_eq (fun he => ?_) (fun he => ?_)
    · have he : k = s.length := by
        have : (k : Int) = (s.length : Int) := he
        omega
      refine ⟨k, rfl, a, rfl, h2, hle, _, rfl, ?_⟩
      refine ⟨all_enc1 _, all_one rfl, ?_, _, happ, ?_⟩
      · show ((out.map enc1).length + 1) * 16 ≤ 140737488355328
        rw [List.length_map]; omega
      refine ⟨_, hw, _, hw, roundR (k + 1, k + 1, out ++ [(s.take k).drop a]) (piece ?_) (by show s.length + 1 - (k + 1) < s.length + 1 - k; omega) rfl ⟨Weak.refl _, Weak.refl _, Weak.refl _, Weak.refl _, Weak.refl _, trivial⟩ trivial⟩
      rw [if_neg (by omega), List.append_nil, ← h6]
      have hfree := seg_freeC h7
      rw [he, List.take_length] at hfree ⊢
      rw [parts_one hfree]
    · have hlt : k < s.length := by
        have : ¬ (k : Int) = (s.length : Int) := he
        omega
      obtain ⟨d, hc⟩ : ∃ d, s[k]? = some d := ⟨_, List.getElem?_eq_getElem hlt⟩
      refine ⟨by omega, d, idx_str rfl hc, ?_⟩
      refine al_eq (fun h47 => ?_) (fun h47 => ?_)
      · have hdc : d = c := u8_eq h47
        subst hdc
        refine ⟨k, rfl, a, rfl, h2, hle, _, rfl, ?_⟩
        refine ⟨all_enc1 _, all_one rfl, ?_, _, happ, ?_⟩
        · show ((out.map enc1).length + 1) * 16 ≤ 140737488355328
          rw [List.length_map]; omega
        refine ⟨_, hw, _, hw, roundR (k + 1, k + 1, out ++ [(s.take k).drop a]) (piece ?_) (by show s.length + 1 - (k + 1) < s.length + 1 - k; omega) rfl ⟨Weak.refl _, Weak.refl _, Weak.refl _, Weak.refl _, Weak.refl _, trivial⟩ trivial⟩
        rw [if_pos hlt, ← h6]
        have hsp : s.drop a = (s.take k).drop a ++ d :: s.drop (k + 1) := by
          have e1 : s = s.take k ++ (d :: s.drop (k + 1)) := by
            have := List.drop_eq_getElem_cons hlt
            have hk : s[k] = d := (List.getElem?_eq_some_iff.1 hc).2
            rw [hk] at this
            rw [← this, List.take_append_drop]
          conv => lhs; rw [e1]
          rw [List.drop_append_of_le_length (by rw [List.length_take]; omega)]
        rw [hsp, parts_cut (seg_freeC h7)]
        simp
      · have hdc : d ≠ c := fun e => h47 (by rw [e])
        refine ⟨_, hw, roundR (k + 1, a, out) ⟨by show k + 1 ≤ _; omega, by show a ≤ k + 1; omega, by show out.length ≤ k + 1; omega, fun hq => ⟨h6, fun i h8 h9 => ?_⟩, fun hq => absurd hq (by show ¬ k + 1 = s.length + 1; omega)⟩ (by show s.length + 1 - (k + 1) < s.length + 1 - k; omega) rfl ⟨Weak.refl _, Weak.refl _, Weak.refl _, Weak.refl _, Weak.refl _, trivial⟩ trivial⟩
        have h9 : i < k + 1 := h9
        by_cases hik : i = k
        · subst hik
          rw [hc]
          intro e
          exact hdc (Option.some.inj e)
        · exact h7 i h8 (by omega)
  · have hgt : ¬ k ≤ s.length := by
      intro h
      exact hgt (show (k : Int) ≤ (s.length : Int) by omega)
    rw [← h5 (by omega)]
    exact .inr rfl
theorem refWords_ok (s : Bytes) (hs : s.length ≤ 2 ^ 30) : CallsTo C 36 [.str s] (fun r => r = .val (encS (wordsF s))) := by
  refine callsTo_of_ev' Tryz.func36 rfl rfl rfl ?_
  refine ⟨_, refSplitC_ok s 32 hs, fun r hr => ?_⟩
  subst hr
  have hl := parts_length 32 s
  unfold wordsF
  generalize parts 32 s = P at hl ⊢
  generalize hX : P.filter (fun w => decide (w ≠ [])) = X
  refine loopR 28 (fun x : Nat × List Bytes => [(3, .p (encS P)), (4, .tip 8 9 1 (x.2.map enc1)), (5, .p (.int .i64 x.1))]) (fun _ => []) (fun x => x.1 ≤ P.length ∧ x.2.length ≤ x.1 ∧ x.2 ++ (P.drop x.1).filter (fun w => decide (w ≠ [])) = X) (fun x => P.length - x.1) (0, [])
    ⟨Nat.zero_le _, Nat.le_refl _, hX⟩ rfl ⟨Weak.refl _, Weak.refl _, Weak.refl _, trivial⟩ trivial ?_
  clear hX
  rintro ⟨k, out⟩ ⟨hk, ho, hX⟩
  have hk : k ≤ P.length := hk
  have ho : out.length ≤ k := ho
  have hX : out ++ (P.drop k).filter (fun w => decide (w ≠ [])) = X := hX
  have hw : IntKind.i64.wrap ((k : Int) + 1) = ((k + 1 : Nat) : Int) := by rw [wrap64 (by omega) (by omega)]; omega
  refine al_lt (fun hlt => ?_) (fun hge => ?_)
  · have hlt : k < P.length := hlt
    rw [List.drop_eq_getElem_cons hlt] at hX
    refine ⟨by omega, _, idx_map rfl hlt, rfl, ?_⟩
    refine al_nes (fun hne => ?_) (fun he => ?_)
    · have hne : P[k] ≠ [] := hne
      rw [List.filter_cons_of_pos (by simpa using hne)] at hX
      refine ⟨by omega, _, idx_map rfl hlt, rfl, ?_⟩
      refine ⟨all_enc1 _, all_one rfl, ?_, (out ++ [P[k]]).map enc1, by simp; rfl, ?_⟩
      · show ((out.map enc1).length + 1) * 16 ≤ 140737488355328
        rw [List.length_map]; omega
      exact ⟨_, hw, roundR (k + 1, out ++ [P[k]]) ⟨hlt, by show (out ++ [_]).length ≤ k + 1; simp; omega, by rw [← hX]; simp⟩ (by show P.length - (k + 1) < P.length - k; omega) rfl ⟨Weak.refl _, Weak.refl _, Weak.refl _, trivial⟩ trivial⟩
    · have he : P[k] = [] := he
      rw [List.filter_cons_of_neg (by simpa using he)] at hX
      exact ⟨_, hw, roundR (k + 1, out) ⟨hlt, by show out.length ≤ k + 1; omega, hX⟩ (by show P.length - (k + 1) < P.length - k; omega) rfl ⟨Weak.refl _, Weak.refl _, Weak.refl _, trivial⟩ trivial⟩
  · have hge : ¬ k < P.length := hge
    rw [List.drop_of_length_le (by omega), List.filter_nil, List.append_nil] at hX
    rw [← hX]
    exact .inr rfl
def isDg (c : UInt8) : Bool := decide (48 ≤ c.toNat) && decide (c.toNat ≤ 57)
def numV (s : Bytes) : Nat := s.foldl (fun n c => 10 * n + (c.toNat - 48)) 0
def numOK (s : Bytes) : Bool := decide (s ≠ []) && s.all isDg && !(decide (2 ≤ s.length) && decide (s[0]? = some 48))
theorem numV_snoc (s : Bytes) (c : UInt8) : numV (s ++ [c]) = 10 * numV s + (c.toNat - 48) := by simp [numV]
theorem refNumber_ok (s : Bytes) (hs : s.length ≤ 2 ^ 30) : CallsTo C 96 [.str s] (fun r => ∃ n : Int, r = .val (.tup [.int .i64 n, .bool (numOK s)]) ∧ (numOK s = true → n = min 1000 (numV s : Int))) := by
  refine callsTo_of_ev' Tryz.func96 rfl rfl rfl ?_
  refine loopR 43 (fun k : Nat => [(0, .p (.str s)), (4, .p (.int .i64 (min 1000 (numV (s.take k) : Int)))), (5, .p (.int .i64 k))]) (fun _ => []) (fun k => k ≤ s.length ∧ (∀ i c, i < k → s[i]? = some c → isDg c = true) ∧ (2 ≤ k → s[0]? ≠ some 48)) (fun k => s.length - k) 0 ⟨Nat.zero_le _, fun i c h => absurd h (by omega), fun h => absurd h (by omega)⟩ rfl ⟨Weak.refl _, Weak.refl _, Weak.refl _, trivial⟩ trivial ?_
  rintro k ⟨hk, hall, hz⟩
  have hw : IntKind.i64.wrap ((k : Int) + 1) = ((k + 1 : Nat) : Int) := by rw [wrap64 (by omega) (by omega)]; omega
  refine al_dec (fun hlt => ?_) (fun hge => ?_)
  · have hlt : k < s.length := by
      have : (k : Int) < (s.length : Int) := hlt
      omega
    obtain ⟨c, hc⟩ : ∃ c, s[k]? = some c := ⟨_, List.getElem?_eq_getElem hlt⟩
    obtain ⟨c0, hc0⟩ : ∃ c, s[0]? = some c := ⟨_, List.getElem?_eq_getElem (by omega)⟩
    have badd : isDg c = false → numOK s = false := fun h => by
      have : s.all isDg = false := by
        rw [List.all_eq_false]
        exact ⟨c, List.mem_of_getElem? hc, by rw [h]; simp⟩
      simp only [numOK, this, Bool.and_false, Bool.false_and]
    have out : numOK s = false → ∃ n : Int, Ret.val (.tup [.int .i64 0, .bool false]) = .val (.tup [.int .i64 n, .bool (numOK s)]) ∧ (numOK s = true → n = min 1000 (numV s : Int)) := fun h => ⟨0, by rw [h], fun e => by rw [h] at e; cases e⟩
    have good : isDg c = true → (k = 1 → c0 ≠ 48) → ((k + 1 : Nat) ≤ s.length ∧ (∀ i d, i < k + 1 → s[i]? = some d → isDg d = true) ∧ (2 ≤ k + 1 → s[0]? ≠ some 48)) := fun h h2 => ⟨hlt, fun i d hi hd => by
      by_cases hik : i = k
      · subst hik
        rw [hc] at hd
        obtain rfl := Option.some.inj hd
        exact h
      · exact hall i d (by omega) hd, fun hk2 => by
      by_cases hk1 : k = 1
      · rw [hc0]
        intro e
        exact h2 hk1 (Option.some.inj e)
      · exact hz (by omega)⟩
    refine ⟨none, by omega, c, idx_str rfl hc, ?_⟩
    have rest : isDg c = true → ∀ (a b x y : Int), IntKind.i64.wrap (10 * min 1000 (numV (s.take k) : Int)) = a → IntKind.i64.wrap (c.toNat : Int) = b → IntKind.i64.wrap (a + b) = x → IntKind.i64.wrap (x - 48) = y → (if y < 1000 then y else 1000) = min 1000 (numV (s.take (k + 1)) : Int) := fun hd a b x y e1 e2 e3 e4 => by
      have ht : s.take (k + 1) = s.take k ++ [c] := by
        rw [List.take_add_one, hc]; rfl
      have hcl : c.toNat < 256 := c.toNat_lt
      simp only [isDg, Bool.and_eq_true, decide_eq_true_eq] at hd
      rw [ht, numV_snoc]
      rw [wrap64 (by omega) (by omega)] at e1
      subst e1
      rw [wrap64 (by omega) (by omega)] at e2
      subst e2
      rw [wrap64 (by omega) (by omega)] at e3
      subst e3
      rw [wrap64 (by omega) (by omega)] at e4
      subst e4
      split <;> omega
    refine al_dec (fun h1 => ?_) (fun h1 => ?_)
    · have h1 : (c.toNat : Int) < 48 := h1
      exact out (badd (by simp [isDg]; omega))
    · have h1 : ¬ (c.toNat : Int) < 48 := h1
      refine ⟨by omega, c, idx_str rfl hc, ?_⟩
      refine al_dec (fun h2 => ?_) (fun h2 => ?_)
      · have h2 : (c.toNat : Int) > 57 := h2
        exact out (badd (by simp [isDg]; omega))
      · have h2 : ¬ (c.toNat : Int) > 57 := h2
        have hd : isDg c = true := by simp [isDg]; omega
        refine al_eq (fun hk1 => ?_) (fun hk1 => ?_)
        · have hk1 : k = 1 := by
            have : (k : Int) = 1 := hk1
            omega
          refine ⟨by omega, c0, hc0, ?_⟩
          refine al_eq (fun h0 => ?_) (fun h0 => ?_)
          · have h0 : c0 = 48 := u8_eq h0
            refine out ?_
            have e1 : decide (2 ≤ s.length) = true := decide_eq_true (by omega)
            have e2 : decide (s[0]? = some 48) = true := decide_eq_true (by rw [hc0, h0])
            simp only [numOK, e1, e2, Bool.true_and, Bool.not_true, Bool.and_false]
          · have h0 : c0 ≠ 48 := fun e => h0 (by rw [e]; rfl)
            refine ⟨_, rfl, by omega, c, idx_str rfl hc, _, rfl, _, rfl, _, rfl, _, rest hd _ _ _ _ rfl rfl rfl rfl, ?_⟩
            exact ⟨_, hw, roundR (k + 1) (good hd fun _ => h0) (by omega) rfl ⟨Weak.refl _, Weak.refl _, Weak.refl _, trivial⟩ trivial⟩
        · have hk1 : k ≠ 1 := fun e => hk1 (show (k : Int) = 1 by omega)
          refine ⟨_, rfl, by omega, c, idx_str rfl hc, _, rfl, _, rfl, _, rfl, _, rest hd _ _ _ _ rfl rfl rfl rfl, ?_⟩
          exact ⟨_, hw, roundR (k + 1) (good hd fun e => absurd e hk1) (by omega) rfl ⟨Weak.refl _, Weak.refl _, Weak.refl _, trivial⟩ trivial⟩
  · have hge : k = s.length := by
      have : ¬ (k : Int) < (s.length : Int) := hge
      omega
    subst hge
    have hd : s.all isDg = true := by
      rw [List.all_eq_true]
      intro c hc
      obtain ⟨i, hi⟩ := List.getElem?_of_mem hc
      exact hall i c (List.getElem?_eq_some_iff.1 hi).1 hi
    refine ⟨fun t ht => ?_⟩
    have ht : t = !(s == []) := ht
    have hok : numOK s = t := by
      rw [ht]
      unfold numOK
      rw [hd]
      cases s with
      | nil => rfl
      | cons c r =>
        have : (decide (2 ≤ (c :: r).length) && decide ((c :: r)[0]? = some 48)) = false := by
          by_cases h2 : 2 ≤ (c :: r).length
          · rw [decide_eq_false (hz h2), Bool.and_false]
          · rw [decide_eq_false h2, Bool.false_and]
        rw [this]
        simp
    rw [List.take_length]
    rw [← hok]
    exact ⟨_, rfl, fun _ => rfl⟩
def rightW (k : Nat) : Bytes := match k with
  | 1 => [114, 101, 97, 100]
  | 2 => [112, 117, 115, 104]
  | 3 => [114, 101, 118, 105, 101, 119]
  | 4 => [97, 100, 109, 105, 110]
  | _ => []
def kindF (w : Bytes) : Nat := if w = rightW 1 then 1 else if w = rightW 2 then 2 else if w = rightW 3 then 3 else if w = rightW 4 then 4 else 0
theorem refRight_ok (k : Nat) (hk : k < 5) : CallsTo C 55 [.int .i64 k] (fun r => r = .val (.str (rightW k))) := by
  have : k = 0 ∨ k = 1 ∨ k = 2 ∨ k = 3 ∨ k = 4 := by omega
  rcases this with rfl | rfl | rfl | rfl | rfl
  · exact callsTo_of_ev' Tryz.func55 rfl rfl rfl ⟨0, rfl, by omega, rfl⟩
  · exact callsTo_of_ev' Tryz.func55 rfl rfl rfl ⟨1, rfl, by omega, rfl⟩
  · exact callsTo_of_ev' Tryz.func55 rfl rfl rfl ⟨2, rfl, by omega, rfl⟩
  · exact callsTo_of_ev' Tryz.func55 rfl rfl rfl ⟨3, rfl, by omega, rfl⟩
  · exact callsTo_of_ev' Tryz.func55 rfl rfl rfl ⟨4, rfl, by omega, rfl⟩
theorem refKind_ok (w : Bytes) : CallsTo C 97 [.str w] (fun r => r = .val (.int .i64 (kindF w))) := by
  refine callsTo_of_ev' Tryz.func97 rfl rfl rfl ?_
  refine loopR 13 (fun k : Nat => [(0, .p (.str w)), (3, .p (.int .i64 k))]) (fun _ => []) (fun k => 1 ≤ k ∧ k ≤ 5 ∧ ∀ j, 1 ≤ j → j < k → w ≠ rightW j) (fun k => 5 - k) 1 ⟨Nat.le_refl _, by omega, fun j h1 h2 => by omega⟩ rfl ⟨Weak.refl _, Weak.refl _, trivial⟩ trivial ?_
  rintro k ⟨h1, h5, hno⟩
  have hw : IntKind.i64.wrap ((k : Int) + 1) = ((k + 1 : Nat) : Int) := by rw [wrap64 (by omega) (by omega)]; omega
  refine al_dec (fun hlt => ?_) (fun hge => ?_)
  · have hlt : k < 5 := by
      have : (k : Int) < 5 := hlt
      omega
    refine ⟨_, refRight_ok k hlt, fun r hr => ?_⟩
    subst hr
    refine al_eq (fun he => ?_) (fun he => ?_)
    · have he : rightW k = w := he
      have : kindF w = k := by
        have : k = 1 ∨ k = 2 ∨ k = 3 ∨ k = 4 := by omega
        rcases this with rfl | rfl | rfl | rfl <;> subst he <;> rfl
      rw [this]
      exact rfl
    · have he : rightW k ≠ w := he
      exact ⟨_, hw, roundR (k + 1) ⟨by omega, hlt, fun j h2 h3 => by
        by_cases hj : j = k
        · subst hj; exact fun e => he e.symm
        · exact hno j h2 (by omega)⟩ (by omega) rfl ⟨Weak.refl _, Weak.refl _, trivial⟩ trivial⟩
  · have hge : ¬ k < 5 := by
      intro h
      exact hge (show (k : Int) < 5 by omega)
    have : kindF w = 0 := by
      unfold kindF
      rw [if_neg (hno 1 (by omega) (by omega)), if_neg (hno 2 (by omega) (by omega)), if_neg (hno 3 (by omega) (by omega)), if_neg (hno 4 (by omega) (by omega))]
    rw [this]
    exact rfl
end Qv
end
