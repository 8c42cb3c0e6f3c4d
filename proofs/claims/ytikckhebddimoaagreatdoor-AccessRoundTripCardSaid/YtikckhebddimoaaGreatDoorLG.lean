/- Several texts in one: What a policy grants, as a function that can be evaluated, The laws of what a policy grants, in plain terms: paths, first and last rules, groups, order, The text of a policy, and that it is read back. No condition. -/
import Derived.Test.YtikckhebddimoaaGreatDoorLB
import Derived.Test.YtikckhebddimoaaGreatDoorLD

section
/- What a policy grants, as a function that can be evaluated. No condition. -/
set_option linter.unusedVariables false
set_option linter.unusedSimpArgs false
open Go Go.Proofs Go.RowKit
namespace Qv
def starB (l : List Atom) (t : Nat) : Bool := match l[t]? with
  | some a => a.isStar
  | none => false
theorem starB_iff {l : List Atom} {t : Nat} : starB l t = true ↔ starAt l t := by
  unfold starB starAt
  cases l[t]? with
  | none => simp
  | some a => simp
def takeB (a : Atom) (c : UInt8) (k j : Nat) : Bool := (a.isStar && decide (j = k)) || (!a.isStar && a.fit c && decide (j = k + 1))
def stepAB (l : List Atom) (c : UInt8) (i j : Nat) : Bool := (List.range l.length).any fun k => decide (i ≤ k) && (List.range k).all (fun t => decide (t < i) || starB l t) && match l[k]? with
  | none => false
  | some a => takeB a c k j
theorem stepAB_iff {l : List Atom} {c : UInt8} {i j : Nat} : stepAB l c i j = true ↔ stepP l c i j := by
  unfold stepAB stepP
  rw [List.any_eq_true]
  constructor
  · rintro ⟨k, hk, h⟩
    simp only [Bool.and_eq_true, decide_eq_true_eq, List.all_eq_true, List.mem_range, Bool.or_eq_true] at h
    obtain ⟨⟨h1, h2⟩, h3⟩ := h
    cases ha : l[k]? with
    | none => rw [ha] at h3; cases h3
    | some a =>
      rw [ha] at h3
      refine ⟨k, a, h1, fun t ht1 ht2 => ?_, ha, ?_⟩
      · rcases h2 t ht2 with h | h
        · omega
        · exact starB_iff.1 h
      · simp only [takeB, Bool.or_eq_true, Bool.and_eq_true, decide_eq_true_eq, Bool.not_eq_true'] at h3
        rcases h3 with h | ⟨⟨h, h'⟩, h''⟩
        · exact .inl h
        · exact .inr ⟨h, h', h''⟩
  · rintro ⟨k, a, h1, h2, h3, h4⟩
    have hk := (List.getElem?_eq_some_iff.1 h3).1
    refine ⟨k, List.mem_range.2 hk, ?_⟩
    simp only [Bool.and_eq_true, decide_eq_true_eq, List.all_eq_true, List.mem_range, Bool.or_eq_true, h3]
    refine ⟨⟨h1, fun t ht => ?_⟩, ?_⟩
    · by_cases hti : t < i
      · exact .inl hti
      · exact .inr (starB_iff.2 (h2 t (by omega) ht))
    · simp only [takeB, Bool.or_eq_true, Bool.and_eq_true, decide_eq_true_eq, Bool.not_eq_true']
      rcases h4 with h | ⟨h, h', h''⟩
      · exact .inl h
      · exact .inr ⟨⟨h, h'⟩, h''⟩
def reachS (l : List Atom) (s : Bytes) : Nat → List Nat
  | 0 => [0]
  | k + 1 => match s[k]? with
    | none => []
    | some c => (List.range (l.length + 1)).filter fun j => (reachS l s k).any fun i => stepAB l c i j
theorem reachS_iff {l : List Atom} {s : Bytes} : ∀ {k j : Nat}, j ∈ reachS l s k ↔ reach l s k j
  | 0, j => by simp [reachS, reach]
  | k + 1, j => by
    unfold reachS reach
    cases hc : s[k]? with
    | none => simp
    | some c =>
      simp only [List.mem_filter, List.mem_range, List.any_eq_true]
      constructor
      · rintro ⟨_, i, hi, h⟩
        exact ⟨i, c, reachS_iff.1 hi, rfl, stepAB_iff.1 h⟩
      · rintro ⟨i, c', hi, hc', h⟩
        obtain rfl := Option.some.inj hc'
        exact ⟨by have := stepP_le h; omega, i, reachS_iff.2 hi, stepAB_iff.2 h⟩
def fitsB (l : List Atom) (s : Bytes) : Bool := (reachS l s s.length).any fun i => endedF l i
theorem fitsB_iff {l : List Atom} {s : Bytes} : fitsB l s = true ↔ fitsP l s := by
  unfold fitsB fitsP
  rw [List.any_eq_true]
  exact ⟨fun ⟨i, h1, h2⟩ => ⟨i, reachS_iff.1 h1, h2⟩, fun ⟨i, h1, h2⟩ => ⟨i, reachS_iff.2 h1, h2⟩⟩
def deepB (cs : List Comp) (t : Nat) : Bool := match cs[t]? with
  | some c => c.deep
  | none => false
theorem deepB_iff {cs : List Comp} {t : Nat} : deepB cs t = true ↔ deepAt cs t := by
  unfold deepB deepAt
  cases cs[t]? with
  | none => simp
  | some a => simp
def closB (cs : List Comp) (i j : Nat) : Bool := decide (i ≤ j) && (List.range j).all fun t => decide (t < i) || deepB cs t
theorem closB_iff {cs : List Comp} {i j : Nat} : closB cs i j = true ↔ closP cs i j := by
  unfold closB closP
  simp only [Bool.and_eq_true, decide_eq_true_eq, List.all_eq_true, List.mem_range, Bool.or_eq_true]
  constructor
  · rintro ⟨h1, h2⟩
    refine ⟨h1, fun t ht1 ht2 => ?_⟩
    rcases h2 t ht2 with h | h
    · omega
    · exact deepB_iff.1 h
  · rintro ⟨h1, h2⟩
    refine ⟨h1, fun t ht => ?_⟩
    by_cases hti : t < i
    · exact .inl hti
    · exact .inr (deepB_iff.2 (h2 t (by omega) ht))
def stepCB (cs : List Comp) (p : Bytes) (i j : Nat) : Bool := match cs[i]? with
  | none => false
  | some c => (c.deep && decide (j = i)) || (!c.deep && fitsB c.ones p && decide (j = i + 1))
theorem stepCB_iff {cs : List Comp} {p : Bytes} {i j : Nat} : stepCB cs p i j = true ↔ stepC cs p i j := by
  unfold stepCB stepC
  cases cs[i]? with
  | none => simp
  | some c =>
    simp only [Bool.or_eq_true, Bool.and_eq_true, decide_eq_true_eq, Bool.not_eq_true', fitsB_iff, Option.some.injEq, exists_eq_left']
    constructor
    · rintro (h | ⟨⟨h, h'⟩, h''⟩)
      · exact .inl h
      · exact .inr ⟨h, h', h''⟩
    · rintro (h | ⟨h, h', h''⟩)
      · exact .inl h
      · exact .inr ⟨⟨h, h'⟩, h''⟩
def reachCS (cs : List Comp) (P : List Bytes) : Nat → List Nat
  | 0 => (List.range (cs.length + 1)).filter (closB cs 0)
  | k + 1 => match P[k]? with
    | none => []
    | some p => (List.range (cs.length + 1)).filter fun j => (reachCS cs P k).any fun i => (List.range (cs.length + 1)).any fun j' => stepCB cs p i j' && closB cs j' j
theorem reachCS_iff {cs : List Comp} {P : List Bytes} : ∀ {k j : Nat}, j ∈ reachCS cs P k ↔ reachC cs P k j
  | 0, j => by
    simp only [reachCS, reachC, List.mem_filter, List.mem_range, closB_iff]
    exact ⟨fun h => h.2, fun h => ⟨by have := closP_le h (Nat.zero_le _); omega, h⟩⟩
  | k + 1, j => by
    unfold reachCS reachC
    cases hp : P[k]? with
    | none => simp
    | some p =>
      simp only [List.mem_filter, List.mem_range, List.any_eq_true, Bool.and_eq_true]
      constructor
      · rintro ⟨_, i, hi, j', _, h1, h2⟩
        exact ⟨i, p, j', reachCS_iff.1 hi, rfl, stepCB_iff.1 h1, closB_iff.1 h2⟩
      · rintro ⟨i, p', j', hi, hp', h1, h2⟩
        obtain rfl := Option.some.inj hp'
        have h3 := stepC_le h1
        have h4 := closP_le h2 h3
        exact ⟨by omega, i, reachCS_iff.2 hi, j', by omega, stepCB_iff.2 h1, closB_iff.2 h2⟩
def matchC (g path : Bytes) : Bool := decide ((parseF g).2 = 0) && (reachCS (parseF g).1 (pathF path) (pathF path).length).contains (parseF g).1.length
theorem matchB_eq (g path : Bytes) : matchB g path = matchC g path := by
  refine (matchB_of ?_).symm
  unfold matchC matchP
  rw [Bool.and_eq_true, decide_eq_true_eq, List.contains_iff_mem, reachCS_iff]
def fitsC (a : Access) (who : Bytes) (right : Int) (branch path : Bytes) (r : Rule) : Bool := r.right == right && concernsF a r who && matchC r.ref branch && matchC r.path path
theorem fitsF_eq (a : Access) (who : Bytes) (right : Int) (branch path : Bytes) : fitsF a who right branch path = fitsC a who right branch path := by
  funext r
  unfold fitsF fitsC
  rw [matchB_eq, matchB_eq]
def grantC (a : Access) (who : Bytes) (right : Int) (branch path : Bytes) : Bool := match a.rules.find? (fitsC a who right branch path) with
  | some r => r.flag
  | none => false
theorem grantF_eq (a : Access) (who : Bytes) (right : Int) (branch path : Bytes) : grantF a who right branch path = grantC a who right branch path := by
  unfold grantF grantC
  rw [fitsF_eq]
  rfl
def allowedC (a : Access) (who : Bytes) (right : Int) (branch path : Bytes) : Bool := decide (checkF a = 0) && grantC a who right branch path
theorem allowedF_one (a : Access) (who : Bytes) (right : Int) (branch path : Bytes) : allowedF a who right branch [path] = allowedC a who right branch path := by
  unfold allowedF allowedC
  rw [if_neg (by simp), ← grantF_eq]
  simp
end Qv

end

section
/- The laws of what a policy grants, in plain terms: paths, first and last rules, groups, order. No condition. -/
set_option linter.unusedVariables false
set_option linter.unusedSimpArgs false
open Go Go.Proofs Go.RowKit
namespace Qv
theorem checkRule_zero {gs : List Group} {r : Rule} : checkRuleF gs r = 0 ↔ isWhoF r.who = true ∧ ¬ (isGrp r.who = true ∧ findG gs (r.who.drop 1) < 0) ∧ (1 ≤ r.right ∧ r.right ≤ 4) ∧ checkGlobF r.ref = 0 ∧ checkGlobF r.path = 0 := by
  unfold checkRuleF
  constructor
  · intro h
    split at h
    · cases h
    rename_i h1
    split at h
    · cases h
    rename_i h2
    split at h
    · cases h
    rename_i h3
    split at h
    · rename_i h4; exact absurd h h4
    rename_i h4
    exact ⟨by simpa using h1, h2, Decidable.not_not.1 h3, Decidable.not_not.1 h4, h⟩
  · rintro ⟨h1, h2, h3, h4, h5⟩
    rw [if_neg (by rw [h1]; simp), if_neg h2, if_neg (fun h => h h3), if_neg (fun h => h h4), h5]
theorem members_names {l : List Bytes} (h : membersF l = 0) : ∀ m, m ∈ l → nameF m = true := by
  unfold membersF at h
  split at h
  · cases h
  intro m hm
  obtain ⟨i, hi⟩ := List.getElem?_of_mem hm
  have := firstE_zero h i m hi
  unfold memberE at this
  split at this
  · cases this
  · rename_i hn
    simpa using hn
theorem groupE_zero {gs : List Group} {i : Nat} {g : Group} (h : groupE gs i g = 0) : nameF g.name = true ∧ findG (gs.take i) g.name < 0 ∧ membersF g.members = 0 := by
  unfold groupE at h
  split at h
  · cases h
  rename_i h1
  split at h
  · cases h
  rename_i h2
  exact ⟨by simpa using h1, by omega, h⟩
end Qv

end

section
/- The text of a policy, and that it is read back. No condition. -/
set_option linter.unusedVariables false
set_option linter.unusedSimpArgs false
open Go Go.Proofs Go.RowKit
namespace Qv
def joinSp : List Bytes → Bytes
  | [] => []
  | [w] => w
  | w :: v :: r => w ++ 32 :: joinSp (v :: r)
def wsV (v : Int) : List Bytes := [wVotes, Lib.itoa v]
def wsG (g : Group) : List Bytes := wGroup :: (g.name ++ [58]) :: g.members
def wordR (b : Bool) : Bytes := if b then wAllow else wDeny
def wsR (r : Rule) : List Bytes := [wordR r.flag, r.who, rightW r.right.toNat, r.ref, r.path]
def linesA (a : Access) : List Bytes := joinSp (wsV a.votes) :: (a.groups.map (fun g => joinSp (wsG g)) ++ a.rules.map fun r => joinSp (wsR r))
def unlines (l : List Bytes) : Bytes := l.flatMap fun x => x ++ [10]
def textF (a : Access) : Bytes := unlines (linesA a)
structure WordP (w : Bytes) : Prop where
  ne : w ≠ []
  sp : ∀ b, b ∈ w → b ≠ 32
  lf : ∀ b, b ∈ w → b ≠ 10
theorem words_join : ∀ {ws : List Bytes}, (∀ w, w ∈ ws → WordP w) → wordsF (joinSp ws) = ws
  | [], _ => words_nil
  | [w], h => words_one (h w List.mem_cons_self).ne (h w List.mem_cons_self).sp
  | w :: v :: r, h => by
    have hw := h w List.mem_cons_self
    show wordsF (w ++ 32 :: joinSp (v :: r)) = _
    rw [words_cut hw.ne hw.sp, words_join fun x hx => h x (List.mem_cons_of_mem _ hx)]
theorem join_free : ∀ {ws : List Bytes}, (∀ w, w ∈ ws → WordP w) → ∀ b, b ∈ joinSp ws → b ≠ 10
  | [], _, b, hb => by cases hb
  | [w], h, b, hb => (h w List.mem_cons_self).lf b hb
  | w :: v :: r, h, b, hb => by
    have hb : b ∈ w ++ 32 :: joinSp (v :: r) := hb
    rcases List.mem_append.1 hb with hb | hb
    · exact (h w List.mem_cons_self).lf b hb
    · rcases List.mem_cons.1 hb with rfl | hb
      · decide
      · exact join_free (fun x hx => h x (List.mem_cons_of_mem _ hx)) b hb
theorem parts_lines : ∀ {ls : List Bytes}, (∀ l, l ∈ ls → ∀ b, b ∈ l → b ≠ 10) → parts 10 (unlines ls) = ls ++ [[]]
  | [], _ => rfl
  | l :: ls, h => by
    have : unlines (l :: ls) = l ++ 10 :: unlines ls := by simp [unlines]
    rw [this, parts_cut (h l List.mem_cons_self), parts_lines fun x hx => h x (List.mem_cons_of_mem _ hx)]
    rfl
theorem name_word {m : Bytes} (h : nameF m = true) : m ≠ [] ∧ m.length ≤ 40 ∧ ∀ b, b ∈ m → b ≠ 32 ∧ b ≠ 10 ∧ b ≠ 35 := by
  simp only [nameF, Bool.and_eq_true, decide_eq_true_eq, List.all_eq_true] at h
  obtain ⟨⟨⟨⟨h1, h2⟩, h3⟩, h4⟩, h5⟩ := h
  refine ⟨h1, h4, fun b hb => ?_⟩
  have h6 := h5 b hb
  simp only [nameB, decide_eq_true_eq, NameP] at h6
  refine ⟨?_, ?_, ?_⟩
  all_goals
    intro e
    subst e
    revert h6
    decide
theorem wordP_name {m : Bytes} (h : nameF m = true) : WordP m := by
  obtain ⟨h1, -, h2⟩ := name_word h
  exact ⟨h1, fun b hb => (h2 b hb).1, fun b hb => (h2 b hb).2.1⟩
theorem wordP_colon {m : Bytes} (h : nameF m = true) : WordP (m ++ [58]) := by
  obtain ⟨h1, -, h2⟩ := name_word h
  refine ⟨by simp, fun b hb => ?_, fun b hb => ?_⟩
  all_goals
    rcases List.mem_append.1 hb with hb | hb
    · first
        | exact (h2 b hb).1
        | exact (h2 b hb).2.1
    · rw [List.mem_singleton.1 hb]; decide
theorem wordP_who {w : Bytes} (h : isWhoF w = true) : WordP w ∧ w.length ≤ 41 := by
  unfold isWhoF at h
  rw [Bool.or_eq_true, Bool.or_eq_true] at h
  rcases h with (h | h) | h
  · simp only [isGrp, Bool.and_eq_true] at h
    obtain ⟨h1, h2⟩ := h
    obtain ⟨h3, h5, h4⟩ := name_word h2
    match w, h1, h3, h4, h5 with
    | c :: r, h1, h3, h4, h5 =>
      have hc : c = 64 := by simpa [atF] using h1
      subst hc
      have h4 : ∀ b, b ∈ r → b ≠ 32 ∧ b ≠ 10 ∧ b ≠ 35 := h4
      have h5 : r.length ≤ 40 := h5
      refine ⟨⟨by simp, fun b hb => ?_, fun b hb => ?_⟩, by simp; omega⟩
      · rcases List.mem_cons.1 hb with rfl | hb
        · decide
        · exact (h4 b hb).1
      · rcases List.mem_cons.1 hb with rfl | hb
        · decide
        · exact (h4 b hb).2.1
  · have : w = [42] := by simpa using h
    subst this
    exact ⟨⟨by simp, fun b hb => by rw [List.mem_singleton.1 hb]; decide, fun b hb => by rw [List.mem_singleton.1 hb]; decide⟩, by simp⟩
  · have := name_word h
    exact ⟨wordP_name h, by omega⟩
theorem wordP_glob {g : Bytes} (h : checkGlobF g = 0) : WordP g := by
  unfold checkGlobF at h
  split at h
  · rename_i h1; exact absurd h h1
  rename_i h1
  split at h
  · rename_i h2
    rw [List.all_eq_true] at h2
    refine ⟨fun e => ?_, fun b hb e => ?_, fun b hb e => ?_⟩
    · subst e
      exact h1 (by decide)
    · subst e
      exact absurd (h2 _ hb) (by decide)
    · subst e
      exact absurd (h2 _ hb) (by decide)
  · cases h
theorem wordP_right {k : Int} (h1 : 1 ≤ k) (h2 : k ≤ 4) : WordP (rightW k.toNat) ∧ (rightW k.toNat).length ≤ 6 ∧ (kindF (rightW k.toNat) : Int) = k := by
  have : k = 1 ∨ k = 2 ∨ k = 3 ∨ k = 4 := by omega
  rcases this with rfl | rfl | rfl | rfl
  all_goals exact ⟨⟨by decide, by decide, by decide⟩, by decide, by decide⟩
theorem wordP_wordR (b : Bool) : WordP (wordR b) ∧ (wordR b).length ≤ 5 := by
  cases b
  all_goals exact ⟨⟨by decide, by decide, by decide⟩, by decide⟩
def vTest (v : Nat) : Bool := numOK (Lib.itoa (v : Int)) && decide (numV (Lib.itoa (v : Int)) = v) && decide ((Lib.itoa (v : Int)).length ≤ 3)
theorem votes_test : ((List.range 101).all vTest) = true := by decide +kernel
theorem votes_text {v : Int} (h0 : 0 ≤ v) (h1 : v ≤ 100) : numOK (Lib.itoa v) = true ∧ (numV (Lib.itoa v) : Int) = v ∧ (Lib.itoa v).length ≤ 3 := by
  have := List.all_eq_true.1 votes_test v.toNat (List.mem_range.2 (by omega))
  simp only [vTest, Bool.and_eq_true, decide_eq_true_eq] at this
  rw [Int.toNat_of_nonneg h0] at this
  obtain ⟨⟨a, b⟩, c⟩ := this
  exact ⟨a, by omega, c⟩
theorem wordP_num {s : Bytes} (h : numOK s = true) : WordP s := by
  simp only [numOK, Bool.and_eq_true, decide_eq_true_eq, List.all_eq_true] at h
  obtain ⟨⟨h1, h2⟩, -⟩ := h
  refine ⟨h1, fun b hb e => ?_, fun b hb e => ?_⟩
  · subst e
    exact absurd (h2 _ hb) (by decide)
  · subst e
    exact absurd (h2 _ hb) (by decide)
theorem words_V {v : Int} (h0 : 0 ≤ v) (h1 : v ≤ 100) : ∀ w, w ∈ wsV v → WordP w := by
  intro w hw
  rcases List.mem_cons.1 hw with rfl | hw
  · exact ⟨by decide, by decide, by decide⟩
  · rw [List.mem_singleton.1 hw]
    exact wordP_num (votes_text h0 h1).1
theorem words_G {gs : List Group} {i : Nat} {g : Group} (h : groupE gs i g = 0) : ∀ w, w ∈ wsG g → WordP w := by
  obtain ⟨h1, h2, h3⟩ := groupE_zero h
  intro w hw
  rcases List.mem_cons.1 hw with rfl | hw
  · exact ⟨by decide, by decide, by decide⟩
  · rcases List.mem_cons.1 hw with rfl | hw
    · exact wordP_colon h1
    · exact wordP_name (members_names h3 w hw)
theorem words_R {gs : List Group} {r : Rule} (h : checkRuleF gs r = 0) : ∀ w, w ∈ wsR r → WordP w := by
  obtain ⟨h1, h2, h3, h4, h5⟩ := checkRule_zero.1 h
  intro w hw
  simp only [wsR, List.mem_cons, List.not_mem_nil, or_false] at hw
  rcases hw with rfl | rfl | rfl | rfl | rfl
  · exact (wordP_wordR _).1
  · exact (wordP_who h1).1
  · exact (wordP_right h3.1 h3.2).1
  · exact wordP_glob h4
  · exact wordP_glob h5
theorem line_step {st : PS} {ws : List Bytes} {n : Nat} (h : ∀ w, w ∈ ws → WordP w) (h1 : ws ≠ []) (h2 : (nth ws 0).head? ≠ some 35) : lineS st (joinSp ws) n = stepS st ws n := by
  unfold lineS
  rw [words_join h, if_neg]
  simp [idleF, h1, h2]
theorem lines_step {l : Bytes} {r : List Bytes} {n : Nat} {st st' : PS} (h : lineS st l (n + 1) = (0, st')) : linesF (l :: r) n st = linesF r (n + 1) st' := by
  rw [linesF, h, if_neg (by simp)]
theorem lines_V {v : Int} (h0 : 0 ≤ v) (h1 : v ≤ 100) (r : List Bytes) : linesF (joinSp (wsV v) :: r) 0 ps0 = linesF r 1 ⟨[], [], v, true, []⟩ := by
  refine lines_step ?_
  rw [line_step (words_V h0 h1) (by simp [wsV]) (by simp [nth, wsV, wVotes])]
  obtain ⟨a, b, -⟩ := votes_text h0 h1
  have hn0 : nth (wsV v) 0 = wVotes := rfl
  have hn1 : nth (wsV v) 1 = Lib.itoa v := rfl
  unfold stepS
  rw [hn0, if_pos rfl]
  unfold votesS
  rw [if_neg (by simp [wsV]), hn1, a, if_neg (by simp), if_neg (by simp [ps0]), if_neg (by omega), b]
  rfl
theorem lines_G {v : Int} (r : List Bytes) : ∀ (gs pre : List Group) (n : Nat), (pre ++ gs).length ≤ 100 → (∀ i g, gs[i]? = some g → groupE (pre ++ gs) (pre.length + i) g = 0) →
    linesF (gs.map (fun g => joinSp (wsG g)) ++ r) n ⟨pre, [], v, true, []⟩ = linesF r (n + gs.length) ⟨pre ++ gs, [], v, true, []⟩
  | [], pre, n, _, _ => by simp
  | g :: gs, pre, n, hl, h => by
    have hg := h 0 g rfl
    obtain ⟨h1, h2, h3⟩ := groupE_zero hg
    rw [Nat.add_zero, List.take_left] at h2
    have hlen : pre.length < 100 := by
      rw [List.length_append, List.length_cons] at hl
      omega
    rw [List.map_cons, List.cons_append, lines_step (st' := ⟨pre ++ [g], [], v, true, []⟩)]
    · rw [lines_G r gs (pre ++ [g]) (n + 1) (by simp only [List.append_assoc, List.singleton_append]; exact hl) fun i g' hi => ?_]
      · rw [List.length_cons, List.append_assoc, show n + 1 + gs.length = n + (gs.length + 1) from by omega]
        rfl
      · have := h (i + 1) g' (by simpa using hi)
        rw [List.length_append, List.append_assoc]
        rw [show pre.length + (i + 1) = pre.length + [g].length + i from by simp; omega] at this
        exact this
    · rw [line_step (words_G hg) (by simp [wsG]) (by simp [nth, wsG, wGroup])]
      have hn0 : nth (wsG g) 0 = wGroup := rfl
      have hn1 : nth (wsG g) 1 = g.name ++ [58] := rfl
      have hd : (wsG g).drop 2 = g.members := rfl
      have hc : colonF (g.name ++ [58]) = true := by simp [colonF]
      have hdl : (g.name ++ [58]).dropLast = g.name := by simp
      unfold stepS
      rw [hn0, if_neg (by decide), if_pos rfl]
      unfold groupS
      rw [if_neg (by simp [wsG]), hn1, hc, if_neg (by simp), hdl, h1, if_neg (by simp), if_neg (by show ¬ 0 ≤ findG pre g.name; omega), if_neg (by show ¬ 100 ≤ pre.length; omega), hd, h3, if_neg (by simp)]
theorem lines_R {v : Int} {gs : List Group} (r : List Bytes) : ∀ (rs pre : List Rule) (ls : List Nat) (n : Nat), (pre ++ rs).length ≤ 100 → (∀ x, x ∈ rs → checkRuleF gs x = 0) →
    ∃ ls', linesF (rs.map (fun x => joinSp (wsR x)) ++ r) n ⟨gs, pre, v, true, ls⟩ = linesF r (n + rs.length) ⟨gs, pre ++ rs, v, true, ls'⟩
  | [], pre, ls, n, _, _ => ⟨ls, by simp⟩
  | x :: rs, pre, ls, n, hl, h => by
    have hx := h x List.mem_cons_self
    obtain ⟨h1, h2, h3, h4, h5⟩ := checkRule_zero.1 hx
    obtain ⟨-, -, hk⟩ := wordP_right h3.1 h3.2
    have hlen : pre.length < 100 := by
      rw [List.length_append, List.length_cons] at hl
      omega
    obtain ⟨ls', hr⟩ := lines_R r rs (pre ++ [x]) (ls ++ [n + 1]) (n + 1) (by simp only [List.append_assoc, List.singleton_append]; exact hl) (fun y hy => h y (List.mem_cons_of_mem _ hy))
    refine ⟨ls', ?_⟩
    rw [List.map_cons, List.cons_append, lines_step (st' := ⟨gs, pre ++ [x], v, true, ls ++ [n + 1]⟩), hr]
    · rw [List.length_cons, List.append_assoc, show n + 1 + rs.length = n + (rs.length + 1) from by omega]
      rfl
    · have hn0 : nth (wsR x) 0 = wordR x.flag := rfl
      have hn1 : nth (wsR x) 1 = x.who := rfl
      have hn2 : nth (wsR x) 2 = rightW x.right.toNat := rfl
      have hn3 : nth (wsR x) 3 = x.ref := rfl
      have hn4 : nth (wsR x) 4 = x.path := rfl
      rw [line_step (words_R hx) (by simp [wsR]) (by rw [hn0]; cases x.flag <;> decide)]
      have hro : ruleOf (wsR x) = x := by
        unfold ruleOf
        rw [hn0, hn1, hn2, hn3, hn4, hk]
        have : (wordR x.flag == wAllow) = x.flag := by cases x.flag <;> decide
        rw [this]
      unfold stepS
      rw [hn0, if_neg (by cases x.flag <;> decide), if_neg (by cases x.flag <;> decide), if_pos (by cases x.flag <;> decide)]
      unfold ruleS
      rw [hn1, hn2, hn3, hn4, if_neg (by simp [wsR]), if_neg (by show ¬ 100 ≤ pre.length; omega), h1, if_neg (by simp), if_neg (by omega), h4, if_neg (by simp), h5, if_neg (by simp), hro]
theorem parse_text {a : Access} (h : checkF a = 0) : parseA (textF a) = (a, 0, 0) := by
  have hv := checkF_zero.1 h
  obtain ⟨v0, v1⟩ := hv.votes
  have hfree : ∀ l, l ∈ linesA a → ∀ b, b ∈ l → b ≠ 10 := by
    intro l hl
    unfold linesA at hl
    rcases List.mem_cons.1 hl with rfl | hl
    · exact join_free (words_V v0 v1)
    rcases List.mem_append.1 hl with hl | hl
    · obtain ⟨g, hg, rfl⟩ := List.mem_map.1 hl
      obtain ⟨i, hi⟩ := List.getElem?_of_mem hg
      exact join_free (words_G (hv.groups i g hi))
    · obtain ⟨r, hr, rfl⟩ := List.mem_map.1 hl
      exact join_free (words_R (hv.rules r hr))
  unfold parseA textF
  rw [parts_lines hfree]
  unfold linesA
  rw [List.cons_append, lines_V v0 v1, List.append_assoc, lines_G _ a.groups [] 1 (by simpa using hv.gl) (fun i g hi => by simpa using hv.groups i g hi)]
  obtain ⟨ls', hr⟩ := lines_R (v := a.votes) (gs := [] ++ a.groups) [[]] a.rules [] [] (1 + a.groups.length) (by simpa using hv.rl) (by simpa using hv.rules)
  rw [hr]
  have hidle : ∀ (n : Nat) (st : PS), linesF [[]] n st = .inr st := fun n st => by
    rw [lines_step (st' := st)]
    · rfl
    · unfold lineS
      rw [words_nil]
      rfl
  rw [hidle]
  have hnone : ([] ++ a.rules).findIdx? (lateE ([] ++ a.groups)) = none := by
    rw [List.findIdx?_eq_none_iff]
    intro r hr
    obtain ⟨-, h2, -⟩ := checkRule_zero.1 (hv.rules r (by simpa using hr))
    simp only [lateE, List.nil_append, Bool.and_eq_false_iff, decide_eq_false_iff_not]
    cases hg : isGrp r.who with
    | false => exact .inl rfl
    | true => exact .inr (fun hf => h2 ⟨hg, hf⟩)
  have hend : endS ⟨[] ++ a.groups, [] ++ a.rules, a.votes, true, ls'⟩ = (⟨[] ++ a.groups, [] ++ a.rules, a.votes⟩, 0, 0) := by
    unfold endS
    simp only
    rw [hnone]
    rfl
  show endS _ = _
  rw [hend]
  rfl
theorem stepS_pos {st : PS} {w : List Bytes} {n : Nat} (h : ∀ k, k ∈ st.lines → 0 < k) (hn : 0 < n) : ∀ k, k ∈ (stepS st w n).2.lines → 0 < k := by
  unfold stepS
  split
  · unfold votesS
    repeat' split
    all_goals exact h
  split
  · unfold groupS
    repeat' split
    all_goals exact h
  split
  · unfold ruleS
    repeat' split
    all_goals first
      | exact h
      | (intro k hk
         have hk : k ∈ st.lines ++ [n] := hk
         rcases List.mem_append.1 hk with hk | hk
         · exact h k hk
         · rw [List.mem_singleton.1 hk]; exact hn)
  · exact h
theorem lineS_pos {st : PS} {l : Bytes} {n : Nat} (h : ∀ k, k ∈ st.lines → 0 < k) (hn : 0 < n) : ∀ k, k ∈ (lineS st l n).2.lines → 0 < k := by
  unfold lineS
  split
  · exact h
  · exact stepS_pos h hn
theorem linesF_inr {B : Nat} : ∀ {ls : List Bytes} {n : Nat} {st st' : PS}, linesF ls n st = .inr st' → PSInv B st → (∀ l, l ∈ ls → l.length + 1 ≤ B) → (∀ k, k ∈ st.lines → 0 < k) → PSInv B st' ∧ ∀ k, k ∈ st'.lines → 0 < k
  | [], n, st, st', h, hI, _, hp => by
    have h : Sum.inr st = Sum.inr st' := h
    obtain rfl := Sum.inr.inj h
    exact ⟨hI, hp⟩
  | l :: ls, n, st, st', h, hI, hl, hp => by
    unfold linesF at h
    split at h
    · cases h
    · exact linesF_inr h (lineS_inv hI (hl l List.mem_cons_self)) (fun x hx => hl x (List.mem_cons_of_mem _ hx)) (lineS_pos hp (by omega))
theorem linesF_inl : ∀ {ls : List Bytes} {n : Nat} {st : PS} {m : Nat} {e : Int}, linesF ls n st = .inl (m, e) → 0 < m ∧ e ≠ 0
  | [], n, st, m, e, h => by cases h
  | l :: ls, n, st, m, e, h => by
    unfold linesF at h
    split at h
    · rename_i hne
      have h := Sum.inl.inj h
      injection h with h1 h2
      exact ⟨by omega, h2 ▸ hne⟩
    · exact linesF_inl h
theorem parse_end (s : Bytes) : (checkF (parseA s).1 = 0 ∧ (parseA s).2 = (0, 0)) ∨ ((parseA s).1 = emptyA ∧ 0 < (parseA s).2.1 ∧ (parseA s).2.2 ≠ 0) := by
  unfold parseA
  cases hq : linesF (parts 10 s) 0 ps0 with
  | inl x =>
    obtain ⟨m, e⟩ := x
    obtain ⟨h1, h2⟩ := linesF_inl hq
    exact .inr ⟨rfl, h1, h2⟩
  | inr st =>
    obtain ⟨hI, hp⟩ := linesF_inr (B := s.length + 1) hq (PSInv.zero _) (fun l hl => by have := parts_mem 10 s l hl; omega) (fun k hk => by cases hk)
    show (checkF (endS st).1 = 0 ∧ (endS st).2 = (0, 0)) ∨ _
    show _ ∨ ((endS st).1 = emptyA ∧ 0 < (endS st).2.1 ∧ (endS st).2.2 ≠ 0)
    unfold endS
    cases hf : st.rules.findIdx? (lateE st.groups) with
    | some i =>
      obtain ⟨hi, -, -⟩ := List.findIdx?_eq_some_iff_getElem.1 hf
      refine .inr ⟨rfl, ?_, show (7 : Int) ≠ 0 by decide⟩
      have hi' : i < st.lines.length := by rw [hI.ll]; exact hi
      show 0 < (st.lines[i]?).getD 0
      rw [List.getElem?_eq_getElem hi']
      exact hp _ (List.getElem_mem hi')
    | none =>
      rw [List.findIdx?_eq_none_iff] at hf
      refine .inl ⟨checkF_zero.2 ⟨hI.gl, hI.rl, hI.groups, fun r hr => ?_, hI.votes⟩, rfl⟩
      obtain ⟨h1, h2, h3, h4⟩ := hI.rules r hr
      refine checkRule_zero.2 ⟨h1, fun h => ?_, h2, h3, h4⟩
      have := hf r hr
      simp only [lateE, h.1, Bool.true_and, decide_eq_false_iff_not] at this
      exact this h.2
theorem join_len {M : Nat} : ∀ {ws : List Bytes}, (∀ w, w ∈ ws → w.length ≤ M) → (joinSp ws).length ≤ ws.length * (M + 1)
  | [], _ => by simp [joinSp]
  | [w], h => by
    have := h w List.mem_cons_self
    show w.length ≤ 1 * (M + 1)
    omega
  | w :: v :: r, h => by
    have h1 := h w List.mem_cons_self
    have h2 := join_len (ws := v :: r) fun x hx => h x (List.mem_cons_of_mem _ hx)
    show (w ++ 32 :: joinSp (v :: r)).length ≤ (v :: r).length.succ * (M + 1)
    rw [List.length_append, List.length_cons, Nat.succ_mul]
    omega
theorem unlines_len {M : Nat} : ∀ {ls : List Bytes}, (∀ l, l ∈ ls → l.length ≤ M) → (unlines ls).length ≤ ls.length * (M + 1)
  | [], _ => by simp [unlines]
  | l :: ls, h => by
    have h1 := h l List.mem_cons_self
    have h2 := unlines_len (ls := ls) fun x hx => h x (List.mem_cons_of_mem _ hx)
    have : unlines (l :: ls) = l ++ 10 :: unlines ls := by simp [unlines]
    rw [this, List.length_append, List.length_cons, List.length_cons, Nat.succ_mul]
    omega
structure TinyA (a : Access) : Prop where
  gl : a.groups.length ≤ 6
  rl : a.rules.length ≤ 8
  members : ∀ g, g ∈ a.groups → g.members.length ≤ 6
  globs : ∀ r, r ∈ a.rules → r.ref.length ≤ 40 ∧ r.path.length ≤ 40
theorem text_len {a : Access} (h : checkF a = 0) (ht : TinyA a) : (∀ l, l ∈ linesA a → l.length ≤ 400) ∧ (textF a).length ≤ 8000 := by
  have hv := checkF_zero.1 h
  obtain ⟨v0, v1⟩ := hv.votes
  have hline : ∀ l, l ∈ linesA a → l.length ≤ 400 := by
    intro l hl
    unfold linesA at hl
    rcases List.mem_cons.1 hl with rfl | hl
    · have := join_len (M := 41) (ws := wsV a.votes) fun w hw => by
        rcases List.mem_cons.1 hw with rfl | hw
        · decide
        · rw [List.mem_singleton.1 hw]
          have := (votes_text v0 v1).2.2
          omega
      have e : (wsV a.votes).length = 2 := rfl
      rw [e] at this
      omega
    rcases List.mem_append.1 hl with hl | hl
    · obtain ⟨g, hg, rfl⟩ := List.mem_map.1 hl
      obtain ⟨i, hi⟩ := List.getElem?_of_mem hg
      obtain ⟨h1, h2, h3⟩ := groupE_zero (hv.groups i g hi)
      have := join_len (M := 41) (ws := wsG g) fun w hw => by
        rcases List.mem_cons.1 hw with rfl | hw
        · decide
        rcases List.mem_cons.1 hw with rfl | hw
        · have := (name_word h1).2.1
          rw [List.length_append]
          show g.name.length + 1 ≤ 41
          omega
        · have := (name_word (members_names h3 w hw)).2.1
          omega
      have e : (wsG g).length = g.members.length + 2 := rfl
      rw [e] at this
      have := ht.members g hg
      show (joinSp (wsG g)).length ≤ 400
      have : (g.members.length + 2) * (41 + 1) ≤ 8 * 42 := Nat.mul_le_mul_right _ (by omega)
      omega
    · obtain ⟨r, hr, rfl⟩ := List.mem_map.1 hl
      obtain ⟨h1, h2, h3, h4, h5⟩ := checkRule_zero.1 (hv.rules r hr)
      obtain ⟨g1, g2⟩ := ht.globs r hr
      have := join_len (M := 41) (ws := wsR r) fun w hw => by
        simp only [wsR, List.mem_cons, List.not_mem_nil, or_false] at hw
        rcases hw with rfl | rfl | rfl | rfl | rfl
        · have := (wordP_wordR r.flag).2; omega
        · exact (wordP_who h1).2
        · have := (wordP_right h3.1 h3.2).2.1; omega
        · omega
        · omega
      have e : (wsR r).length = 5 := rfl
      rw [e] at this
      show (joinSp (wsR r)).length ≤ 400
      omega
  refine ⟨hline, ?_⟩
  have := unlines_len hline
  have hn : (linesA a).length = 1 + (a.groups.length + a.rules.length) := by
    simp only [linesA, List.length_cons, List.length_append, List.length_map]
    omega
  rw [hn] at this
  have h1 := ht.gl
  have h2 := ht.rl
  have h3 : (1 + (a.groups.length + a.rules.length)) * (400 + 1) ≤ 15 * 401 := Nat.mul_le_mul_right _ (by omega)
  show (unlines (linesA a)).length ≤ 8000
  omega
end Qv

end
