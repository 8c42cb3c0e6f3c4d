/- Several texts in one: The words of a line; contract: access.fields, Contracts of the reference's reader: split, words, number, right, kind. No condition. -/
import Derived.Test.YtikckhebddimoaaGreatDoorNB
import Derived.Lib.SpaceUEq
import Derived.Lib.FieldsP

section
/- The words of a line; contract: access.fields. No condition. -/
set_option linter.unusedVariables false
set_option linter.unusedSimpArgs false
open Go Go.Proofs Go.RowKit Go.Lib
namespace Qv
def wordsF (l : Bytes) : List Bytes := (parts 32 l).filter fun w => decide (w ≠ [])
theorem words_space (l : Bytes) : wordsF (32 :: l) = wordsF l := by
  show (parts 32 (32 :: l)).filter _ = _
  have : parts 32 (32 :: l) = [] :: parts 32 l := by simp [parts]
  rw [this, List.filter_cons_of_neg (by simp)]
  rfl
theorem words_nil : wordsF [] = [] := by simp [wordsF, parts]
theorem words_one {u : Bytes} (hn : u ≠ []) (h : ∀ b, b ∈ u → b ≠ 32) : wordsF u = [u] := by
  unfold wordsF
  rw [parts_one h, List.filter_cons_of_pos (by simpa using hn)]
  rfl
theorem words_cut {u v : Bytes} (hn : u ≠ []) (h : ∀ b, b ∈ u → b ≠ 32) : wordsF (u ++ 32 :: v) = u :: wordsF v := by
  unfold wordsF
  rw [parts_cut h, List.filter_cons_of_pos (by simpa using hn)]
def segOf (s : Bytes) (x : Nat × Nat) : Bytes := (s.take x.2).drop x.1
def isSp (x : Nat) : Bool := decide ((x : Int) = 32)
theorem decode_skip (s : Bytes) (pos : Nat) (h : pos < s.length) : let d := Utf8.decode ⟨s.toArray⟩ pos
    1 ≤ d.2 ∧ pos + d.2 ≤ s.length ∧ (d.1 = 32 → s[pos]? = some 32 ∧ d.2 = 1) ∧ (d.1 ≠ 32 → ∀ i, pos ≤ i → i < pos + d.2 → s[i]? ≠ some 32) := by
  intro d
  have hg : ∀ i, (⟨s.toArray⟩ : ByteArray).data.toList.getD i 0 = s.getD i 0 := fun i => rfl
  have hd : d = decodeN (s.length - pos) (s.getD pos 0).toNat (s.getD (pos + 1) 0).toNat (s.getD (pos + 2) 0).toNat (s.getD (pos + 3) 0).toNat := decode_N ⟨s.toArray⟩ pos
  obtain ⟨c1, c2, c3, c4⟩ := decodeN_conts (s.length - pos) (s.getD pos 0).toNat (s.getD (pos + 1) 0).toNat (s.getD (pos + 2) 0).toNat (s.getD (pos + 3) 0).toNat
  have c0 := decodeN_ge1 (s.length - pos) (s.getD pos 0).toNat (s.getD (pos + 1) 0).toNat (s.getD (pos + 2) 0).toNat (s.getD (pos + 3) 0).toNat
  rw [← hd] at c0 c1 c2 c3 c4
  have hb : s.getD pos 0 = s[pos] := by simp [List.getD, List.getElem?_eq_getElem h]
  have asc : (s.getD pos 0).toNat < 128 → d = ((s.getD pos 0).toNat, 1) := fun ha => by rw [hd]; exact decodeN_ascii _ _ _ _ _ ha
  have big : 128 ≤ (s.getD pos 0).toNat → 128 ≤ d.1 := fun ha => by rw [hd]; exact decodeN_big _ _ _ _ _ ha
  have cont : ∀ i, (s.getD i 0).toNat / 64 = 2 → s[i]? ≠ some 32 := fun i hi he => by
    have : s.getD i 0 = 32 := by simp [List.getD, he]
    rw [this] at hi
    exact absurd hi (by decide)
  refine ⟨c0, ?_, fun h32 => ?_, fun h32 i hi hi2 => ?_⟩
  · have e1 : d.2 = 1 ∨ d.2 = 2 ∨ d.2 = 3 ∨ d.2 = 4 := by omega
    rcases e1 with e | e | e | e
    · omega
    · have := (c1 (by omega)).2; omega
    · have := (c2 (by omega)).2; omega
    · have := (c3 (by omega)).2; omega
  · by_cases ha : (s.getD pos 0).toNat < 128
    · have hda := asc ha
      rw [hda] at h32 ⊢
      have h32 : (s.getD pos 0).toNat = 32 := h32
      refine ⟨?_, rfl⟩
      rw [List.getElem?_eq_getElem h, ← hb]
      exact congrArg some (UInt8.toNat.inj h32)
    · have := big (by omega); omega
  · by_cases hip : i = pos
    · subst hip
      intro he
      have hsp : s.getD i 0 = 32 := by simp [List.getD, he]
      have := asc (by rw [hsp]; decide)
      rw [this, hsp] at h32
      exact h32 rfl
    · have hk : i = pos + 1 ∨ i = pos + 2 ∨ i = pos + 3 := by omega
      rcases hk with rfl | rfl | rfl
      · exact cont _ (c1 (by omega)).1
      · exact cont _ (c2 (by omega)).1
      · exact cont _ (c3 (by omega)).1
def begOf (st : Option Nat) (pos : Nat) : Nat := match st with
  | some a => a
  | none => pos
theorem seg_words {s : Bytes} {a pos : Nat} (hap : a < pos) (hp : pos ≤ s.length) (hno : ∀ i, a ≤ i → i < pos → s[i]? ≠ some 32) : segOf s (a, pos) ≠ [] ∧ ∀ b, b ∈ segOf s (a, pos) → b ≠ 32 := by
  constructor
  · intro e
    have := congrArg List.length e
    simp only [segOf, List.length_drop, List.length_take, List.length_nil] at this
    omega
  · intro b hb e
    subst e
    obtain ⟨j, hj⟩ := List.getElem?_of_mem hb
    simp only [segOf, List.getElem?_drop, List.getElem?_take] at hj
    split at hj
    · rename_i h1
      exact hno (a + j) (by omega) h1 hj
    · cases hj
theorem drop_seg {s : Bytes} {a pos : Nat} (hap : a ≤ pos) (hp : pos ≤ s.length) : s.drop a = segOf s (a, pos) ++ s.drop pos := by
  have : s = s.take pos ++ s.drop pos := (List.take_append_drop pos s).symm
  conv => lhs; rw [this]
  rw [List.drop_append_of_le_length (by rw [List.length_take]; omega)]
  rfl
theorem spans_words (s : Bytes) : ∀ (f pos : Nat) (st : Option Nat) (acc : List (Nat × Nat)), s.length - pos ≤ f → pos ≤ s.length → (∀ a, st = some a → a < pos ∧ ∀ i, a ≤ i → i < pos → s[i]? ≠ some 32) →
    (closeSpans ⟨s.toArray⟩ (spansFromP isSp ⟨s.toArray⟩ f pos st acc)).map (segOf s) = acc.map (segOf s) ++ wordsF (s.drop (begOf st pos)) := by
  have hsz : (⟨s.toArray⟩ : ByteArray).size = s.length := by simp [ByteArray.size]
  have ended : ∀ (st : Option Nat) (acc : List (Nat × Nat)), (∀ a, st = some a → a < s.length ∧ ∀ i, a ≤ i → i < s.length → s[i]? ≠ some 32) →
      (closeSpans ⟨s.toArray⟩ (acc, st)).map (segOf s) = acc.map (segOf s) ++ wordsF (s.drop (begOf st s.length)) := fun st acc hst => by
    cases st with
    | none =>
      have : s.drop (begOf none s.length) = [] := List.drop_of_length_le (Nat.le_refl _)
      rw [this, words_nil, List.append_nil]
      rfl
    | some a =>
      obtain ⟨h1, h2⟩ := hst a rfl
      obtain ⟨h3, h4⟩ := seg_words h1 (Nat.le_refl _) h2
      have hd : s.drop a = segOf s (a, s.length) := by
        have := drop_seg (s := s) (a := a) (pos := s.length) (by omega) (Nat.le_refl _)
        rw [List.drop_length, List.append_nil] at this
        exact this
      show ((acc ++ [(a, (⟨s.toArray⟩ : ByteArray).size)]).map (segOf s)) = acc.map (segOf s) ++ wordsF (s.drop a)
      rw [hsz, hd, words_one h3 h4, List.map_append]
      rfl
  intro f
  induction f with
  | zero =>
    intro pos st acc hf hp hst
    have : pos = s.length := by omega
    subst this
    exact ended st acc hst
  | succ f ih =>
    intro pos st acc hf hp hst
    by_cases hlt : pos < s.length
    · unfold spansFromP
      rw [hsz, if_pos hlt]
      obtain ⟨d1, d2, d3, d4⟩ := decode_skip s pos hlt
      generalize Utf8.decode ⟨s.toArray⟩ pos = d at d1 d2 d3 d4 ⊢
      by_cases h32 : d.1 = 32
      · have hsp : isSp d.1 = true := by rw [h32]; rfl
        obtain ⟨e1, e2⟩ := d3 h32
        have hc : s.drop pos = 32 :: s.drop (pos + 1) := by
          rw [List.drop_eq_getElem_cons hlt]
          have := (List.getElem?_eq_some_iff.1 e1).2
          rw [this]
        rw [if_pos hsp, e2]
        cases st with
        | none =>
          rw [ih (pos + 1) none acc (by omega) (by omega) (fun a h => by cases h)]
          show _ ++ wordsF (s.drop (pos + 1)) = _ ++ wordsF (s.drop pos)
          rw [hc, words_space]
        | some a =>
          obtain ⟨h1, h2⟩ := hst a rfl
          obtain ⟨h3, h4⟩ := seg_words h1 (by omega) h2
          show (closeSpans _ (spansFromP isSp _ f (pos + 1) none (acc ++ [(a, pos)]))).map _ = _
          rw [ih (pos + 1) none (acc ++ [(a, pos)]) (by omega) (by omega) (fun a h => by cases h)]
          show _ ++ wordsF (s.drop (pos + 1)) = _ ++ wordsF (s.drop a)
          rw [drop_seg (s := s) (a := a) (pos := pos) (by omega) (by omega), hc, words_cut h3 h4, List.map_append]
          simp
      · have hsp : isSp d.1 = false := by
          unfold isSp
          exact decide_eq_false (by omega)
        rw [if_neg (by rw [hsp]; simp)]
        have d4 := d4 h32
        cases st with
        | none =>
          show (closeSpans _ (spansFromP isSp _ f (pos + d.2) (some pos) acc)).map _ = _
          rw [ih (pos + d.2) (some pos) acc (by omega) d2 (fun a h => by
            obtain rfl := Option.some.inj h
            exact ⟨by omega, d4⟩)]
          rfl
        | some a =>
          obtain ⟨h1, h2⟩ := hst a rfl
          show (closeSpans _ (spansFromP isSp _ f (pos + d.2) (some a) acc)).map _ = _
          rw [ih (pos + d.2) (some a) acc (by omega) d2 (fun a' h => by
            obtain rfl := Option.some.inj h
            exact ⟨by omega, fun i hi hi2 => by
              by_cases hip : i < pos
              · exact h2 i hi hip
              · exact d4 i (by omega) hi2⟩)]
          rfl
    · have : pos = s.length := by omega
      subst this
      rw [spansFromP_end _ _ _ _ _ _ (by rw [hsz]; exact hlt)]
      exact ended st acc hst
theorem goFields_words (s : Bytes) : (goFieldsP isSp ⟨s.toArray⟩).map (·.data.toList) = wordsF s := by
  have hsz : (⟨s.toArray⟩ : ByteArray).size = s.length := by simp [ByteArray.size]
  have h := spans_words s s.length 0 none [] (by omega) (Nat.zero_le _) (fun a h => by cases h)
  rw [show begOf none 0 = 0 from rfl, List.drop_zero, List.map_nil, List.nil_append] at h
  rw [← h]
  unfold goFieldsP spansOfP
  rw [hsz, List.map_map]
  apply List.map_congr_left
  intro x hx
  simp only [Function.comp, segOf]
  rw [ByteArray.data_extract, Array.toList_extract]
  show (s.drop x.1).take (x.2 - x.1) = _
  rw [List.drop_take]
theorem rep_row {imm : Nat → Nat → Prop} {w : World} {A : Nat} {cur : Array Value} {e : TypeId} (L : List ByteArray) (h : w.heap[A]? = some (.cells cur e (0, 0))) (hc : cur.toList.take L.length = L.map Value.string) (hi : ∀ o, imm A o) :
    Rep imm w (.slice (some ⟨A, 0, none⟩) L.length L.length) (encS (L.map (·.data.toList))) := by
  have hlen : ((L.map (·.data.toList)).map enc1).length = L.length := by simp
  have get : ∀ (i : Nat) (ys : List AV) (j : Nat) (y : AV), ((L.map (·.data.toList)).map enc1)[i]? = some ys → ys[j]? = some y → ∃ b : ByteArray, L[i]? = some b ∧ j = 0 ∧ y = .str b.data.toList := fun i ys j y h2 h3 => by
    rw [List.map_map, List.getElem?_map] at h2
    cases hq : L[i]? with
    | none => simp [hq] at h2
    | some b =>
      simp only [hq, Option.map_some, Option.some.injEq, Function.comp, enc1] at h2
      subst h2
      cases j with
      | zero => simp at h3; exact ⟨b, rfl, rfl, h3.symm⟩
      | succ j => simp at h3
  unfold encS
  rw [← hlen]
  refine Rep.sl A 0 _ 1 _ (fun i _ => (L[i]?).elim undef Value.string) (fun i ys h2 => ?_) (fun i ys j y h2 h3 => ?_) (fun i ys j y h2 h3 => ?_) (fun i ys j y h2 h3 => hi _) (fun i ys j y h2 h3 => ?_) (by omega)
  · obtain ⟨x, -, rfl⟩ := List.mem_map.1 (List.mem_of_getElem? h2)
    rfl
  · obtain ⟨b, -, -, rfl⟩ := get i ys j y h2 h3
    rfl
  · obtain ⟨b, hb, rfl, rfl⟩ := get i ys j y h2 h3
    have hlt := (List.getElem?_eq_some_iff.1 hb).1
    have h4 : cur.toList[i]? = some (Value.string b) := by
      have : (cur.toList.take L.length)[i]? = some (Value.string b) := by rw [hc, List.getElem?_map, hb]; rfl
      rw [List.getElem?_take, if_pos hlt] at this
      exact this
    simp only [World.cell?, h, hb, Option.elim]
    rw [show 0 + i * 1 + 0 = i from by omega, ← Array.getElem?_toList, h4]
    rfl
  · obtain ⟨b, hb, rfl, rfl⟩ := get i ys j y h2 h3
    rw [hb]
    exact rep_str_of _ _ _
theorem space_ok (x : Int) : CallsTo C 60 [.int .i32 x] (fun r => r = .val (.bool (decide (x = 32)))) := by
  refine callsTo_of_ev' Tryz.func60 rfl rfl rfl ?_
  refine ⟨fun t ht => ?_⟩
  have ht : t = (x == 32) := ht
  have : decide (x = 32) = t := by rw [ht]; rfl
  rw [this]
  exact rfl
theorem fieldsFunc_ok (s : Bytes) (hs : s.length ≤ 4294967296) : CallsTo C 59 [.str s, .fn (.func 60) [] []] (fun r => r = .val (encS (wordsF s))) := by
  refine ⟨⟨_, Tryz.func59, rfl, rfl⟩, fun imm w vs hJ hn hi hl hr => ?_⟩
  match vs, hl with
  | [v0, v1], _ =>
  have h := hr 0 v0 _ rfl rfl
  have h' := hr 1 v1 _ rfl rfl
  obtain rfl : v0 = .string ⟨s.toArray⟩ := by cases h; rfl
  obtain ⟨fs, cs, rfl, ⟨q1, -⟩, ⟨q2, -⟩⟩ := fn_inv (G := bare imm) (.p _ _ h')
  have hfs : fs = [] := List.length_eq_zero_iff.1 q1
  have hcs : cs = [] := List.length_eq_zero_iff.1 q2
  subst hfs; subst hcs
  have hsz : (⟨s.toArray⟩ : ByteArray).size = s.length := by simp [ByteArray.size]
  refine (Tryz.strings_FieldsFunc_grows 60 #[] (enters_of Tryz.func60 rfl rfl) isSp ⟨s.toArray⟩ w (by rw [hsz]; exact hs) (grows_of (p := isSp) (fun x => space_ok x) hJ hn)).mono ?_
  rintro e w' ⟨A, rfl, hA, ho, hb⟩
  rw [← goFields_words]
  generalize goFieldsP isSp ⟨s.toArray⟩ = L at ho ⊢
  refine ⟨_, _, rfl, rfl, ?_, hb⟩
  obtain ⟨-, ho⟩ := ho
  rcases ho with ⟨ho, -⟩ | ⟨g, cap, cur, ho, -, h1, -, -, -, h2⟩
  · cases ho
  · injection ho with e1 e2 e3
    injection e1 with e1
    injection e1 with e1
    subst e1
    rw [Nat.mul_one] at h2
    exact rep_row L h1 h2 (fun o => .inr hA)
theorem fields_ok (s : Bytes) (hs : s.length ≤ 4294967296) : CallsTo C 30 [.str s] (fun r => r = .val (encS (wordsF s))) := by
  refine callsTo_of_ev' Tryz.func30 rfl rfl rfl ?_
  refine ⟨_, fieldsFunc_ok s hs, fun r hr => ?_⟩
  subst hr
  exact rfl
end Qv

end

section
/- Contracts of the reference's reader: split, words, number, right, kind. No condition. -/
set_option linter.unusedVariables false
set_option linter.unusedSimpArgs false
open Go Go.Proofs Go.RowKit
namespace Qv
def isDg (c : UInt8) : Bool := decide (48 ≤ c.toNat) && decide (c.toNat ≤ 57)
def numV (s : Bytes) : Nat := s.foldl (fun n c => 10 * n + (c.toNat - 48)) 0
def numOK (s : Bytes) : Bool := decide (s ≠ []) && s.all isDg && !(decide (2 ≤ s.length) && decide (s[0]? = some 48))
def rightW (k : Nat) : Bytes := match k with
  | 1 => [114, 101, 97, 100]
  | 2 => [112, 117, 115, 104]
  | 3 => [114, 101, 118, 105, 101, 119]
  | 4 => [97, 100, 109, 105, 110]
  | _ => []
def kindF (w : Bytes) : Nat := if w = rightW 1 then 1 else if w = rightW 2 then 2 else if w = rightW 3 then 3 else if w = rightW 4 then 4 else 0
end Qv

end
