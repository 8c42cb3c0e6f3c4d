/- Several texts in one: What a policy grants, as a function that can be evaluated, The laws of what a policy grants, in plain terms: paths, first and last rules, groups, order, The text of a policy, and that it is read back. No condition. -/
import Derived.Test.YtikckhebddimoaaGreatDoorKB
import Derived.Test.YtikckhebddimoaaGreatDoorKD

section
/- What a policy grants, as a function that can be evaluated. No condition. -/
set_option linter.unusedVariables false
set_option linter.unusedSimpArgs false
open Go Go.Proofs Go.RowKit
namespace Qv
def starB (l : List Atom) (t : Nat) : Bool := match l[t]? with
  | some a => a.isStar
  | none => false
theorem starB_iff {l : List Atom} {t : Nat} : starB l t = true ↔ starAt l t := by
  unfold starB starAt
  cases l[t]? with
  | none => simp
  | some a => simp
def takeB (a : Atom) (c : UInt8) (k j : Nat) : Bool := (a.isStar && decide (j = k)) || (!a.isStar && a.fit c && decide (j = k + 1))
def stepAB (l : List Atom) (c : UInt8) (i j : Nat) : Bool := (List.range l.length).any fun k => decide (i ≤ k) && (List.range k).all (fun t => decide (t < i) || starB l t) && match l[k]? with
  | none => false
  | some a => takeB a c k j
theorem stepAB_iff {l : List Atom} {c : UInt8} {i j : Nat} : stepAB l c i j = true ↔ stepP l c i j := by
  unfold stepAB stepP
  rw [List.any_eq_true]
  constructor
  · rintro ⟨k, hk, h⟩
    simp only [Bool.and_eq_true, decide_eq_true_eq, List.all_eq_true, List.mem_range, Bool.or_eq_true] at h
    obtain ⟨⟨h1, h2⟩, h3⟩ := h
    cases ha : l[k]? with
    | none => rw [ha] at h3; cases h3
    | some a =>
      rw [ha] at h3
      refine ⟨k, a, h1, fun t ht1 ht2 => ?_, ha, ?_⟩
      · rcases h2 t ht2 with h | h
        · omega
        · exact starB_iff.1 h
      · simp only [takeB, Bool.or_eq_true, Bool.and_eq_true, decide_eq_true_eq, Bool.not_eq_true'] at h3
        rcases h3 with h | ⟨⟨h, h'⟩, h''⟩
        · exact .inl h
        · exact .inr ⟨h, h', h''⟩
  · rintro ⟨k, a, h1, h2, h3, h4⟩
    have hk := (List.getElem?_eq_some_iff.1 h3).1
    refine ⟨k, List.mem_range.2 hk, ?_⟩
    simp only [Bool.and_eq_true, decide_eq_true_eq, List.all_eq_true, List.mem_range, Bool.or_eq_true, h3]
    refine ⟨⟨h1, fun t ht => ?_⟩, ?_⟩
    · by_cases hti : t < i
      · exact .inl hti
      · exact .inr (starB_iff.2 (h2 t (by omega) ht))
    · simp only [takeB, Bool.or_eq_true, Bool.and_eq_true, decide_eq_true_eq, Bool.not_eq_true']
      rcases h4 with h | ⟨h, h', h''⟩
      · exact .inl h
      · exact .inr ⟨⟨h, h'⟩, h''⟩
def reachS (l : List Atom) (s : Bytes) : Nat → List Nat
  | 0 => [0]
  | k + 1 => match s[k]? with
    | none => []
    | some c => (List.range (l.length + 1)).filter fun j => (reachS l s k).any fun i => stepAB l c i j
theorem reachS_iff {l : List Atom} {s : Bytes} : ∀ {k j : Nat}, j ∈ reachS l s k ↔ reach l s k j
  | 0, j => by simp [reachS, reach]
  | k + 1, j => by
    unfold reachS reach
    cases hc : s[k]? with
    | none => simp
    | some c =>
      simp only [List.mem_filter, List.mem_range, List.any_eq_true]
      constructor
      · rintro ⟨_, i, hi, h⟩
        exact ⟨i, c, reachS_iff.1 hi, rfl, stepAB_iff.1 h⟩
      · rintro ⟨i, c', hi, hc', h⟩
        obtain rfl := Option.some.inj hc'
        exact ⟨by have := stepP_le h; omega, i, reachS_iff.2 hi, stepAB_iff.2 h⟩
def fitsB (l : List Atom) (s : Bytes) : Bool := (reachS l s s.length).any fun i => endedF l i
theorem fitsB_iff {l : List Atom} {s : Bytes} : fitsB l s = true ↔ fitsP l s := by
  unfold fitsB fitsP
  rw [List.any_eq_true]
  exact ⟨fun ⟨i, h1, h2⟩ => ⟨i, reachS_iff.1 h1, h2⟩, fun ⟨i, h1, h2⟩ => ⟨i, reachS_iff.2 h1, h2⟩⟩
def deepB (cs : List Comp) (t : Nat) : Bool := match cs[t]? with
  | some c => c.deep
  | none => false
theorem deepB_iff {cs : List Comp} {t : Nat} : deepB cs t = true ↔ deepAt cs t := by
  unfold deepB deepAt
  cases cs[t]? with
  | none => simp
  | some a => simp
def closB (cs : List Comp) (i j : Nat) : Bool := decide (i ≤ j) && (List.range j).all fun t => decide (t < i) || deepB cs t
theorem closB_iff {cs : List Comp} {i j : Nat} : closB cs i j = true ↔ closP cs i j := by
  unfold closB closP
  simp only [Bool.and_eq_true, decide_eq_true_eq, List.all_eq_true, List.mem_range, Bool.or_eq_true]
  constructor
  · rintro ⟨h1, h2⟩
    refine ⟨h1, fun t ht1 ht2 => ?_⟩
    rcases h2 t ht2 with h | h
    · omega
    · exact deepB_iff.1 h
  · rintro ⟨h1, h2⟩
    refine ⟨h1, fun t ht => ?_⟩
    by_cases hti : t < i
    · exact .inl hti
    · exact .inr (deepB_iff.2 (h2 t (by omega) ht))
def stepCB (cs : List Comp) (p : Bytes) (i j : Nat) : Bool := match cs[i]? with
  | none => false
  | some c => (c.deep && decide (j = i)) || (!c.deep && fitsB c.ones p && decide (j = i + 1))
theorem stepCB_iff {cs : List Comp} {p : Bytes} {i j : Nat} : stepCB cs p i j = true ↔ stepC cs p i j := by
  unfold stepCB stepC
  cases cs[i]? with
  | none => simp
  | some c =>
    simp only [Bool.or_eq_true, Bool.and_eq_true, decide_eq_true_eq, Bool.not_eq_true', fitsB_iff, Option.some.injEq, exists_eq_left']
    constructor
    · rintro (h | ⟨⟨h, h'⟩, h''⟩)
      · exact .inl h
      · exact .inr ⟨h, h', h''⟩
    · rintro (h | ⟨h, h', h''⟩)
      · exact .inl h
      · exact .inr ⟨⟨h, h'⟩, h''⟩
def reachCS (cs : List Comp) (P : List Bytes) : Nat → List Nat
  | 0 => (List.range (cs.length + 1)).filter (closB cs 0)
  | k + 1 => match P[k]? with
    | none => []
    | some p => (List.range (cs.length + 1)).filter fun j => (reachCS cs P k).any fun i => (List.range (cs.length + 1)).any fun j' => stepCB cs p i j' && closB cs j' j
theorem reachCS_iff {cs : List Comp} {P : List Bytes} : ∀ {k j : Nat}, j ∈ reachCS cs P k ↔ reachC cs P k j
  | 0, j => by
    simp only [reachCS, reachC, List.mem_filter, List.mem_range, closB_iff]
    exact ⟨fun h => h.2, fun h => ⟨by have := closP_le h (Nat.zero_le _); omega, h⟩⟩
  | k + 1, j => by
    unfold reachCS reachC
    cases hp : P[k]? with
    | none => simp
    | some p =>
      simp only [List.mem_filter, List.mem_range, List.any_eq_true, Bool.and_eq_true]
      constructor
      · rintro ⟨_, i, hi, j', _, h1, h2⟩
        exact ⟨i, p, j', reachCS_iff.1 hi, rfl, stepCB_iff.1 h1, closB_iff.1 h2⟩
      · rintro ⟨i, p', j', hi, hp', h1, h2⟩
        obtain rfl := Option.some.inj hp'
        have h3 := stepC_le h1
        have h4 := closP_le h2 h3
        exact ⟨by omega, i, reachCS_iff.2 hi, j', by omega, stepCB_iff.2 h1, closB_iff.2 h2⟩
def matchC (g path : Bytes) : Bool := decide ((parseF g).2 = 0) && (reachCS (parseF g).1 (pathF path) (pathF path).length).contains (parseF g).1.length
theorem matchB_eq (g path : Bytes) : matchB g path = matchC g path := by
  refine (matchB_of ?_).symm
  unfold matchC matchP
  rw [Bool.and_eq_true, decide_eq_true_eq, List.contains_iff_mem, reachCS_iff]
def fitsC (a : Access) (who : Bytes) (right : Int) (branch path : Bytes) (r : Rule) : Bool := r.right == right && concernsF a r who && matchC r.ref branch && matchC r.path path
theorem fitsF_eq (a : Access) (who : Bytes) (right : Int) (branch path : Bytes) : fitsF a who right branch path = fitsC a who right branch path := by
  funext r
  unfold fitsF fitsC
  rw [matchB_eq, matchB_eq]
def grantC (a : Access) (who : Bytes) (right : Int) (branch path : Bytes) : Bool := match a.rules.find? (fitsC a who right branch path) with
  | some r => r.flag
  | none => false
theorem grantF_eq (a : Access) (who : Bytes) (right : Int) (branch path : Bytes) : grantF a who right branch path = grantC a who right branch path := by
  unfold grantF grantC
  rw [fitsF_eq]
  rfl
def allowedC (a : Access) (who : Bytes) (right : Int) (branch path : Bytes) : Bool := decide (checkF a = 0) && grantC a who right branch path
theorem allowedF_one (a : Access) (who : Bytes) (right : Int) (branch path : Bytes) : allowedF a who right branch [path] = allowedC a who right branch path := by
  unfold allowedF allowedC
  rw [if_neg (by simp), ← grantF_eq]
  simp
end Qv

end

section
/- The laws of what a policy grants, in plain terms: paths, first and last rules, groups, order. No condition. -/
set_option linter.unusedVariables false
set_option linter.unusedSimpArgs false
open Go Go.Proofs Go.RowKit
namespace Qv
theorem checkRule_zero {gs : List Group} {r : Rule} : checkRuleF gs r = 0 ↔ isWhoF r.who = true ∧ ¬ (isGrp r.who = true ∧ findG gs (r.who.drop 1) < 0) ∧ (1 ≤ r.right ∧ r.right ≤ 4) ∧ checkGlobF r.ref = 0 ∧ checkGlobF r.path = 0 := by
  unfold checkRuleF
  constructor
  · intro h
    split at h
    · cases h
    rename_i h1
    split at h
    · cases h
    rename_i h2
    split at h
    · cases h
    rename_i h3
    split at h
    · rename_i h4; exact absurd h h4
    rename_i h4
    exact ⟨by simpa using h1, h2, Decidable.not_not.1 h3, Decidable.not_not.1 h4, h⟩
  · rintro ⟨h1, h2, h3, h4, h5⟩
    rw [if_neg (by rw [h1]; simp), if_neg h2, if_neg (fun h => h h3), if_neg (fun h => h h4), h5]
theorem members_names {l : List Bytes} (h : membersF l = 0) : ∀ m, m ∈ l → nameF m = true := by
  unfold membersF at h
  split at h
  · cases h
  intro m hm
  obtain ⟨i, hi⟩ := List.getElem?_of_mem hm
  have := firstE_zero h i m hi
  unfold memberE at this
  split at this
  · cases this
  · rename_i hn
    simpa using hn
theorem groupE_zero {gs : List Group} {i : Nat} {g : Group} (h : groupE gs i g = 0) : nameF g.name = true ∧ findG (gs.take i) g.name < 0 ∧ membersF g.members = 0 := by
  unfold groupE at h
  split at h
  · cases h
  rename_i h1
  split at h
  · cases h
  rename_i h2
  exact ⟨by simpa using h1, by omega, h⟩
end Qv

end

section
/- The text of a policy, and that it is read back. No condition. -/
set_option linter.unusedVariables false
set_option linter.unusedSimpArgs false
open Go Go.Proofs Go.RowKit
namespace Qv
def joinSp : List Bytes → Bytes
  | [] => []
  | [w] => w
  | w :: v :: r => w ++ 32 :: joinSp (v :: r)
def wsV (v : Int) : List Bytes := [wVotes, Lib.itoa v]
def wsG (g : Group) : List Bytes := wGroup :: (g.name ++ [58]) :: g.members
def wordR (b : Bool) : Bytes := if b then wAllow else wDeny
def wsR (r : Rule) : List Bytes := [wordR r.flag, r.who, rightW r.right.toNat, r.ref, r.path]
def linesA (a : Access) : List Bytes := joinSp (wsV a.votes) :: (a.groups.map (fun g => joinSp (wsG g)) ++ a.rules.map fun r => joinSp (wsR r))
def unlines (l : List Bytes) : Bytes := l.flatMap fun x => x ++ [10]
def textF (a : Access) : Bytes := unlines (linesA a)
structure WordP (w : Bytes) : Prop where
  ne : w ≠ []
  sp : ∀ b, b ∈ w → b ≠ 32
  lf : ∀ b, b ∈ w → b ≠ 10
theorem name_word {m : Bytes} (h : nameF m = true) : m ≠ [] ∧ m.length ≤ 40 ∧ ∀ b, b ∈ m → b ≠ 32 ∧ b ≠ 10 ∧ b ≠ 35 := by
  simp only [nameF, Bool.and_eq_true, decide_eq_true_eq, List.all_eq_true] at h
  obtain ⟨⟨⟨⟨h1, h2⟩, h3⟩, h4⟩, h5⟩ := h
  refine ⟨h1, h4, fun b hb => ?_⟩
  have h6 := h5 b hb
  simp only [nameB, decide_eq_true_eq, NameP] at h6
  refine ⟨?_, ?_, ?_⟩
  all_goals
    intro e
    subst e
    revert h6
    decide
theorem wordP_name {m : Bytes} (h : nameF m = true) : WordP m := by
  obtain ⟨h1, -, h2⟩ := name_word h
  exact ⟨h1, fun b hb => (h2 b hb).1, fun b hb => (h2 b hb).2.1⟩
theorem wordP_who {w : Bytes} (h : isWhoF w = true) : WordP w ∧ w.length ≤ 41 := by
  unfold isWhoF at h
  rw [Bool.or_eq_true, Bool.or_eq_true] at h
  rcases h with (h | h) | h
  · simp only [isGrp, Bool.and_eq_true] at h
    obtain ⟨h1, h2⟩ := h
    obtain ⟨h3, h5, h4⟩ := name_word h2
    match w, h1, h3, h4, h5 with
    | c :: r, h1, h3, h4, h5 =>
      have hc : c = 64 := by simpa [atF] using h1
      subst hc
      have h4 : ∀ b, b ∈ r → b ≠ 32 ∧ b ≠ 10 ∧ b ≠ 35 := h4
      have h5 : r.length ≤ 40 := h5
      refine ⟨⟨by simp, fun b hb => ?_, fun b hb => ?_⟩, by simp; omega⟩
      · rcases List.mem_cons.1 hb with rfl | hb
        · decide
        · exact (h4 b hb).1
      · rcases List.mem_cons.1 hb with rfl | hb
        · decide
        · exact (h4 b hb).2.1
  · have : w = [42] := by simpa using h
    subst this
    exact ⟨⟨by simp, fun b hb => by rw [List.mem_singleton.1 hb]; decide, fun b hb => by rw [List.mem_singleton.1 hb]; decide⟩, by simp⟩
  · have := name_word h
    exact ⟨wordP_name h, by omega⟩
theorem wordP_right {k : Int} (h1 : 1 ≤ k) (h2 : k ≤ 4) : WordP (rightW k.toNat) ∧ (rightW k.toNat).length ≤ 6 ∧ (kindF (rightW k.toNat) : Int) = k := by
  have : k = 1 ∨ k = 2 ∨ k = 3 ∨ k = 4 := by omega
  rcases this with rfl | rfl | rfl | rfl
  all_goals exact ⟨⟨by decide, by decide, by decide⟩, by decide, by decide⟩
theorem wordP_wordR (b : Bool) : WordP (wordR b) ∧ (wordR b).length ≤ 5 := by
  cases b
  all_goals exact ⟨⟨by decide, by decide, by decide⟩, by decide⟩
def vTest (v : Nat) : Bool := numOK (Lib.itoa (v : Int)) && decide (numV (Lib.itoa (v : Int)) = v) && decide ((Lib.itoa (v : Int)).length ≤ 3)
theorem votes_test : ((List.range 101).all vTest) = true := by decide +kernel
theorem votes_text {v : Int} (h0 : 0 ≤ v) (h1 : v ≤ 100) : numOK (Lib.itoa v) = true ∧ (numV (Lib.itoa v) : Int) = v ∧ (Lib.itoa v).length ≤ 3 := by
  have := List.all_eq_true.1 votes_test v.toNat (List.mem_range.2 (by omega))
  simp only [vTest, Bool.and_eq_true, decide_eq_true_eq] at this
  rw [Int.toNat_of_nonneg h0] at this
  obtain ⟨⟨a, b⟩, c⟩ := this
  exact ⟨a, by omega, c⟩
theorem join_len {M : Nat} : ∀ {ws : List Bytes}, (∀ w, w ∈ ws → w.length ≤ M) → (joinSp ws).length ≤ ws.length * (M + 1)
  | [], _ => by simp [joinSp]
  | [w], h => by
    have := h w List.mem_cons_self
    show w.length ≤ 1 * (M + 1)
    omega
  | w :: v :: r, h => by
    have h1 := h w List.mem_cons_self
    have h2 := join_len (ws := v :: r) fun x hx => h x (List.mem_cons_of_mem _ hx)
    show (w ++ 32 :: joinSp (v :: r)).length ≤ (v :: r).length.succ * (M + 1)
    rw [List.length_append, List.length_cons, Nat.succ_mul]
    omega
theorem unlines_len {M : Nat} : ∀ {ls : List Bytes}, (∀ l, l ∈ ls → l.length ≤ M) → (unlines ls).length ≤ ls.length * (M + 1)
  | [], _ => by simp [unlines]
  | l :: ls, h => by
    have h1 := h l List.mem_cons_self
    have h2 := unlines_len (ls := ls) fun x hx => h x (List.mem_cons_of_mem _ hx)
    have : unlines (l :: ls) = l ++ 10 :: unlines ls := by simp [unlines]
    rw [this, List.length_append, List.length_cons, List.length_cons, Nat.succ_mul]
    omega
structure TinyA (a : Access) : Prop where
  gl : a.groups.length ≤ 6
  rl : a.rules.length ≤ 8
  members : ∀ g, g ∈ a.groups → g.members.length ≤ 6
  globs : ∀ r, r ∈ a.rules → r.ref.length ≤ 40 ∧ r.path.length ≤ 40
theorem text_len {a : Access} (h : checkF a = 0) (ht : TinyA a) : (∀ l, l ∈ linesA a → l.length ≤ 400) ∧ (textF a).length ≤ 8000 := by
  have hv := checkF_zero.1 h
  obtain ⟨v0, v1⟩ := hv.votes
  have hline : ∀ l, l ∈ linesA a → l.length ≤ 400 := by
    intro l hl
    unfold linesA at hl
    rcases List.mem_cons.1 hl with rfl | hl
    · have := join_len (M := 41) (ws := wsV a.votes) fun w hw => by
        rcases List.mem_cons.1 hw with rfl | hw
        · decide
        · rw [List.mem_singleton.1 hw]
          have := (votes_text v0 v1).2.2
          omega
      have e : (wsV a.votes).length = 2 := rfl
      rw [e] at this
      omega
    rcases List.mem_append.1 hl with hl | hl
    · obtain ⟨g, hg, rfl⟩ := List.mem_map.1 hl
      obtain ⟨i, hi⟩ := List.getElem?_of_mem hg
      obtain ⟨h1, h2, h3⟩ := groupE_zero (hv.groups i g hi)
      have := join_len (M := 41) (ws := wsG g) fun w hw => by
        rcases List.mem_cons.1 hw with rfl | hw
        · decide
        rcases List.mem_cons.1 hw with rfl | hw
        · have := (name_word h1).2.1
          rw [List.length_append]
          show g.name.length + 1 ≤ 41
          omega
        · have := (name_word (members_names h3 w hw)).2.1
          omega
      have e : (wsG g).length = g.members.length + 2 := rfl
      rw [e] at this
      have := ht.members g hg
      show (joinSp (wsG g)).length ≤ 400
      have : (g.members.length + 2) * (41 + 1) ≤ 8 * 42 := Nat.mul_le_mul_right _ (by omega)
      omega
    · obtain ⟨r, hr, rfl⟩ := List.mem_map.1 hl
      obtain ⟨h1, h2, h3, h4, h5⟩ := checkRule_zero.1 (hv.rules r hr)
      obtain ⟨g1, g2⟩ := ht.globs r hr
      have := join_len (M := 41) (ws := wsR r) fun w hw => by
        simp only [wsR, List.mem_cons, List.not_mem_nil, or_false] at hw
        rcases hw with rfl | rfl | rfl | rfl | rfl
        · have := (wordP_wordR r.flag).2; omega
        · exact (wordP_who h1).2
        · have := (wordP_right h3.1 h3.2).2.1; omega
        · omega
        · omega
      have e : (wsR r).length = 5 := rfl
      rw [e] at this
      show (joinSp (wsR r)).length ≤ 400
      omega
  refine ⟨hline, ?_⟩
  have := unlines_len hline
  have hn : (linesA a).length = 1 + (a.groups.length + a.rules.length) := by
    simp only [linesA, List.length_cons, List.length_append, List.length_map]
    omega
  rw [hn] at this
  have h1 := ht.gl
  have h2 := ht.rl
  have h3 : (1 + (a.groups.length + a.rules.length)) * (400 + 1) ≤ 15 * 401 := Nat.mul_le_mul_right _ (by omega)
  show (unlines (linesA a)).length ≤ 8000
  omega
end Qv

end
