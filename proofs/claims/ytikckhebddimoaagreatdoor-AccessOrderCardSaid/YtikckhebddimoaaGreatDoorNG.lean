/- Several texts in one: What a policy grants, as a function that can be evaluated, The laws of what a policy grants, in plain terms: paths, first and last rules, groups, order, The text of a policy, and that it is read back. No condition. -/
import Derived.Test.YtikckhebddimoaaGreatDoorNB
import Derived.Test.YtikckhebddimoaaGreatDoorND

section
/- What a policy grants, as a function that can be evaluated. No condition. -/
set_option linter.unusedVariables false
set_option linter.unusedSimpArgs false
open Go Go.Proofs Go.RowKit
namespace Qv
def starB (l : List Atom) (t : Nat) : Bool := match l[t]? with
  | some a => a.isStar
  | none => false
theorem starB_iff {l : List Atom} {t : Nat} : starB l t = true ↔ starAt l t := by
  unfold starB starAt
  cases l[t]? with
  | none => simp
  | some a => simp
def takeB (a : Atom) (c : UInt8) (k j : Nat) : Bool := (a.isStar && decide (j = k)) || (!a.isStar && a.fit c && decide (j = k + 1))
def stepAB (l : List Atom) (c : UInt8) (i j : Nat) : Bool := (List.range l.length).any fun k => decide (i ≤ k) && (List.range k).all (fun t => decide (t < i) || starB l t) && match l[k]? with
  | none => false
  | some a => takeB a c k j
theorem stepAB_iff {l : List Atom} {c : UInt8} {i j : Nat} : stepAB l c i j = true ↔ stepP l c i j := by
  unfold stepAB stepP
  rw [List.any_eq_true]
  constructor
  · rintro ⟨k, hk, h⟩
    simp only [Bool.and_eq_true, decide_eq_true_eq, List.all_eq_true, List.mem_range, Bool.or_eq_true] at h
    obtain ⟨⟨h1, h2⟩, h3⟩ := h
    cases ha : l[k]? with
    | none => rw [ha] at h3; cases h3
    | some a =>
      rw [ha] at h3
      refine ⟨k, a, h1, fun t ht1 ht2 => ?_, ha, ?_⟩
      · rcases h2 t ht2 with h | h
        · omega
        · exact starB_iff.1 h
      · simp only [takeB, Bool.or_eq_true, Bool.and_eq_true, decide_eq_true_eq, Bool.not_eq_true'] at h3
        rcases h3 with h | ⟨⟨h, h'⟩, h''⟩
        · exact .inl h
        · exact .inr ⟨h, h', h''⟩
  · rintro ⟨k, a, h1, h2, h3, h4⟩
    have hk := (List.getElem?_eq_some_iff.1 h3).1
    refine ⟨k, List.mem_range.2 hk, ?_⟩
    simp only [Bool.and_eq_true, decide_eq_true_eq, List.all_eq_true, List.mem_range, Bool.or_eq_true, h3]
    refine ⟨⟨h1, fun t ht => ?_⟩, ?_⟩
    · by_cases hti : t < i
      · exact .inl hti
      · exact .inr (starB_iff.2 (h2 t (by omega) ht))
    · simp only [takeB, Bool.or_eq_true, Bool.and_eq_true, decide_eq_true_eq, Bool.not_eq_true']
      rcases h4 with h | ⟨h, h', h''⟩
      · exact .inl h
      · exact .inr ⟨⟨h, h'⟩, h''⟩
def reachS (l : List Atom) (s : Bytes) : Nat → List Nat
  | 0 => [0]
  | k + 1 => match s[k]? with
    | none => []
    | some c => (List.range (l.length + 1)).filter fun j => (reachS l s k).any fun i => stepAB l c i j
theorem reachS_iff {l : List Atom} {s : Bytes} : ∀ {k j : Nat}, j ∈ reachS l s k ↔ reach l s k j
  | 0, j => by simp [reachS, reach]
  | k + 1, j => by
    unfold reachS reach
    cases hc : s[k]? with
    | none => simp
    | some c =>
      simp only [List.mem_filter, List.mem_range, List.any_eq_true]
      constructor
      · rintro ⟨_, i, hi, h⟩
        exact ⟨i, c, reachS_iff.1 hi, rfl, stepAB_iff.1 h⟩
      · rintro ⟨i, c', hi, hc', h⟩
        obtain rfl := Option.some.inj hc'
        exact ⟨by have := stepP_le h; omega, i, reachS_iff.2 hi, stepAB_iff.2 h⟩
def fitsB (l : List Atom) (s : Bytes) : Bool := (reachS l s s.length).any fun i => endedF l i
theorem fitsB_iff {l : List Atom} {s : Bytes} : fitsB l s = true ↔ fitsP l s := by
  unfold fitsB fitsP
  rw [List.any_eq_true]
  exact ⟨fun ⟨i, h1, h2⟩ => ⟨i, reachS_iff.1 h1, h2⟩, fun ⟨i, h1, h2⟩ => ⟨i, reachS_iff.2 h1, h2⟩⟩
def deepB (cs : List Comp) (t : Nat) : Bool := match cs[t]? with
  | some c => c.deep
  | none => false
theorem deepB_iff {cs : List Comp} {t : Nat} : deepB cs t = true ↔ deepAt cs t := by
  unfold deepB deepAt
  cases cs[t]? with
  | none => simp
  | some a => simp
def closB (cs : List Comp) (i j : Nat) : Bool := decide (i ≤ j) && (List.range j).all fun t => decide (t < i) || deepB cs t
theorem closB_iff {cs : List Comp} {i j : Nat} : closB cs i j = true ↔ closP cs i j := by
  unfold closB closP
  simp only [Bool.and_eq_true, decide_eq_true_eq, List.all_eq_true, List.mem_range, Bool.or_eq_true]
  constructor
  · rintro ⟨h1, h2⟩
    refine ⟨h1, fun t ht1 ht2 => ?_⟩
    rcases h2 t ht2 with h | h
    · omega
    · exact deepB_iff.1 h
  · rintro ⟨h1, h2⟩
    refine ⟨h1, fun t ht => ?_⟩
    by_cases hti : t < i
    · exact .inl hti
    · exact .inr (deepB_iff.2 (h2 t (by omega) ht))
def stepCB (cs : List Comp) (p : Bytes) (i j : Nat) : Bool := match cs[i]? with
  | none => false
  | some c => (c.deep && decide (j = i)) || (!c.deep && fitsB c.ones p && decide (j = i + 1))
theorem stepCB_iff {cs : List Comp} {p : Bytes} {i j : Nat} : stepCB cs p i j = true ↔ stepC cs p i j := by
  unfold stepCB stepC
  cases cs[i]? with
  | none => simp
  | some c =>
    simp only [Bool.or_eq_true, Bool.and_eq_true, decide_eq_true_eq, Bool.not_eq_true', fitsB_iff, Option.some.injEq, exists_eq_left']
    constructor
    · rintro (h | ⟨⟨h, h'⟩, h''⟩)
      · exact .inl h
      · exact .inr ⟨h, h', h''⟩
    · rintro (h | ⟨h, h', h''⟩)
      · exact .inl h
      · exact .inr ⟨⟨h, h'⟩, h''⟩
def reachCS (cs : List Comp) (P : List Bytes) : Nat → List Nat
  | 0 => (List.range (cs.length + 1)).filter (closB cs 0)
  | k + 1 => match P[k]? with
    | none => []
    | some p => (List.range (cs.length + 1)).filter fun j => (reachCS cs P k).any fun i => (List.range (cs.length + 1)).any fun j' => stepCB cs p i j' && closB cs j' j
theorem reachCS_iff {cs : List Comp} {P : List Bytes} : ∀ {k j : Nat}, j ∈ reachCS cs P k ↔ reachC cs P k j
  | 0, j => by
    simp only [reachCS, reachC, List.mem_filter, List.mem_range, closB_iff]
    exact ⟨fun h => h.2, fun h => ⟨by have := closP_le h (Nat.zero_le _); omega, h⟩⟩
  | k + 1, j => by
    unfold reachCS reachC
    cases hp : P[k]? with
    | none => simp
    | some p =>
      simp only [List.mem_filter, List.mem_range, List.any_eq_true, Bool.and_eq_true]
      constructor
      · rintro ⟨_, i, hi, j', _, h1, h2⟩
        exact ⟨i, p, j', reachCS_iff.1 hi, rfl, stepCB_iff.1 h1, closB_iff.1 h2⟩
      · rintro ⟨i, p', j', hi, hp', h1, h2⟩
        obtain rfl := Option.some.inj hp'
        have h3 := stepC_le h1
        have h4 := closP_le h2 h3
        exact ⟨by omega, i, reachCS_iff.2 hi, j', by omega, stepCB_iff.2 h1, closB_iff.2 h2⟩
def matchC (g path : Bytes) : Bool := decide ((parseF g).2 = 0) && (reachCS (parseF g).1 (pathF path) (pathF path).length).contains (parseF g).1.length
theorem matchB_eq (g path : Bytes) : matchB g path = matchC g path := by
  refine (matchB_of ?_).symm
  unfold matchC matchP
  rw [Bool.and_eq_true, decide_eq_true_eq, List.contains_iff_mem, reachCS_iff]
def fitsC (a : Access) (who : Bytes) (right : Int) (branch path : Bytes) (r : Rule) : Bool := r.right == right && concernsF a r who && matchC r.ref branch && matchC r.path path
theorem fitsF_eq (a : Access) (who : Bytes) (right : Int) (branch path : Bytes) : fitsF a who right branch path = fitsC a who right branch path := by
  funext r
  unfold fitsF fitsC
  rw [matchB_eq, matchB_eq]
def grantC (a : Access) (who : Bytes) (right : Int) (branch path : Bytes) : Bool := match a.rules.find? (fitsC a who right branch path) with
  | some r => r.flag
  | none => false
theorem grantF_eq (a : Access) (who : Bytes) (right : Int) (branch path : Bytes) : grantF a who right branch path = grantC a who right branch path := by
  unfold grantF grantC
  rw [fitsF_eq]
  rfl
def allowedC (a : Access) (who : Bytes) (right : Int) (branch path : Bytes) : Bool := decide (checkF a = 0) && grantC a who right branch path
theorem allowedF_one (a : Access) (who : Bytes) (right : Int) (branch path : Bytes) : allowedF a who right branch [path] = allowedC a who right branch path := by
  unfold allowedF allowedC
  rw [if_neg (by simp), ← grantF_eq]
  simp
end Qv

end

section
/- The laws of what a policy grants, in plain terms: paths, first and last rules, groups, order. No condition. -/
set_option linter.unusedVariables false
set_option linter.unusedSimpArgs false
open Go Go.Proofs Go.RowKit
namespace Qv
def Access.wr (a : Access) (l : List Rule) : Access := ⟨a.groups, l, a.votes⟩
theorem valid_wr {a : Access} {l : List Rule} (h : ValidA a) (hl : l.length ≤ 100) (hr : ∀ r, r ∈ l → checkRuleF a.groups r = 0) : ValidA (a.wr l) :=
  ⟨h.gl, hl, h.groups, hr, h.votes⟩
noncomputable def flagOf (p : Rule → Bool) (l : List Rule) : Bool := match l.find? p with
  | some r => r.flag
  | none => false
theorem grant_flag (a : Access) (who : Bytes) (right : Int) (branch path : Bytes) : grantF a who right branch path = flagOf (fitsF a who right branch path) a.rules := rfl
theorem flag_cons (p : Rule → Bool) (x : Rule) (l : List Rule) : flagOf p (x :: l) = if p x = true then x.flag else flagOf p l := by
  unfold flagOf
  rw [List.find?_cons]
  cases p x <;> rfl
theorem flag_append (p : Rule → Bool) (l m : List Rule) : flagOf p (l ++ m) = if l.any p = true then flagOf p l else flagOf p m := by
  induction l with
  | nil => rfl
  | cons x l ih =>
    rw [List.cons_append, flag_cons, flag_cons, ih, List.any_cons]
    cases p x <;> simp
theorem flag_swap {p : Rule → Bool} (l m : List Rule) (x y : Rule) (h : ¬ (p x = true ∧ p y = true)) : flagOf p (l ++ x :: y :: m) = flagOf p (l ++ y :: x :: m) := by
  rw [flag_append, flag_append, flag_cons, flag_cons, flag_cons, flag_cons]
  cases hx : p x with
  | false => cases hy : p y <;> rfl
  | true =>
    cases hy : p y with
    | false => rfl
    | true => exact absurd ⟨hx, hy⟩ h
theorem swap_valid {a : Access} {l m : List Rule} {x y : Rule} (h : checkF a = 0) (hr : a.rules = l ++ x :: y :: m) : checkF (a.wr (l ++ y :: x :: m)) = 0 := by
  have hv := checkF_zero.1 h
  refine checkF_zero.2 (valid_wr hv ?_ fun r hm => hv.rules r ?_)
  · have := hv.rl
    rw [hr] at this
    simp only [List.length_append, List.length_cons] at this ⊢
    exact this
  · rw [hr]
    simp only [List.mem_append, List.mem_cons] at hm ⊢
    rcases hm with h | h | h | h
    · exact .inl h
    · exact .inr (.inr (.inl h))
    · exact .inr (.inl h)
    · exact .inr (.inr (.inr h))
end Qv

end

section
/- The text of a policy, and that it is read back. No condition. -/
set_option linter.unusedVariables false
set_option linter.unusedSimpArgs false
open Go Go.Proofs Go.RowKit
namespace Qv
structure TinyA (a : Access) : Prop where
  gl : a.groups.length ≤ 6
  rl : a.rules.length ≤ 8
  members : ∀ g, g ∈ a.groups → g.members.length ≤ 6
  globs : ∀ r, r ∈ a.rules → r.ref.length ≤ 40 ∧ r.path.length ≤ 40
end Qv

end
