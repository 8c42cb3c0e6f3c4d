/- Several texts in one: What the functions of the Unified seat compute, as plain functions on lists, Plain laws of what the functions of the Unified seat compute: the nearest place, hunks that fit, blocks of hunks, The context of the Unified seat: the table of its types, DERIVED: THE SHELF's CONTRACTS AT THIS DUMP, IN PLAIN WORDS (tools/lay-plain.mjs out of 'TryzShelf.lean', which tools/la, ZULay, The library's functions of the Unified seat, as contracts. No condition. -/
import Derived.Test.YthkmombkgelcnaaGreatDoorSv3
import Derived.Test.YthkmombkgelcnaaGreatDoorProg
import Derived.KernelRfl
import Derived.Lib.LaidTab
import Derived.Lib.ItoaNum
import Derived.Shelf.Strings.Builder1
import Derived.Shelf.Small.Wraps
import Derived.Shelf.Strconv.Atoi
import Derived.Shelf.Strconv.Itoa0
import Derived.Shelf.Strconv.Itoa1
import Derived.Shelf.LaysM
import Derived.Shelf.Strconv.Itoa2
import Derived.Shelf.Strconv.Itoa3
import Derived.Shelf.Strconv.AtoiErrFast
import Derived.Shelf.Strconv.ParseIntEmpty
import Derived.Shelf.Strconv.AtoiFail
import Derived.Shelf.Strconv.Clone
import Derived.Shelf.Strconv.SyntaxError
import Derived.Shelf.LaysC
import Derived.Shelf.Strconv.ToError
import Derived.Shelf.Strconv.Lower
import Derived.Shelf.Strconv.ParseUint10
import Derived.Shelf.Strconv.ParseUint10Empty
import Derived.Shelf.Strconv.ParseUint10Any
import Derived.Shelf.Strconv.ParseInt10
import Derived.Shelf.Strconv.AtoiLong
import Derived.Shelf.Strconv.AtoiInnerAll
import Derived.Shelf.Strconv.RangeError
import Derived.Shelf.Strconv.ToErrorRange
import Derived.Shelf.Strconv.AtoiAll
import Derived.Shelf.Strconv.ErrVarAll
import Derived.Shelf.Strings.Search1
import Derived.Shelf.Strings.Search2
import Derived.Shelf.Strings.Search3
import Derived.Shelf.Strings.Cut
import Derived.Shelf.Strings.Shaped
import Derived.Shelf.Strings.Prefix
import Derived.Shelf.Slices.Equal

section
/- What the functions of the Unified seat compute, as plain functions on lists. No condition. -/
set_option linter.unusedVariables false
set_option linter.unusedSimpArgs false
namespace Qv

structure Block where
  oldAt : Int
  oldLen : Int
  newAt : Int
  newLen : Int
  lines : List Bytes
  deriving DecidableEq

structure Hunk where
  at_ : Int
  old : List Bytes
  new : List Bytes
  deriving DecidableEq

/-- A stretch of a list. -/
def seg {α : Type} (a : List α) (i j : Nat) : List α := (a.take j).drop i

theorem seg_length {α : Type} (a : List α) (i j : Nat) (h : j ≤ a.length) : (seg a i j).length = j - i := by
  simp [seg]; omega

theorem seg_seg {α : Type} (a : List α) {i j k : Nat} (h1 : i ≤ j) (h2 : j ≤ k) : seg a i j ++ seg a j k = seg a i k := by
  unfold seg
  have h : a.take j = (a.take k).take j := by rw [List.take_take, Nat.min_eq_left h2]
  rw [h]
  generalize a.take k = b
  by_cases hj : j ≤ b.length
  · have h3 : (b.take j ++ b.drop j).drop i = (b.take j).drop i ++ b.drop j := List.drop_append_of_le_length (by simp; omega)
    rw [List.take_append_drop] at h3
    exact h3.symm
  · have h4 : b.take j = b := List.take_of_length_le (by omega)
    have h5 : b.drop j = [] := List.drop_of_length_le (by omega)
    simp [h4, h5]

theorem seg_drop {α : Type} (a : List α) {i j : Nat} (h1 : i ≤ j) : seg a i j ++ a.drop j = a.drop i := by
  have := seg_seg a (i := i) (j := j) (k := max j a.length) h1 (by omega)
  unfold seg at this ⊢
  rw [List.take_of_length_le (show a.length ≤ max j a.length by omega)] at this
  exact this

theorem seg_self {α : Type} (a : List α) (i : Nat) : seg a i i = [] := by
  unfold seg
  exact List.drop_of_length_le (by simp; omega)

/-- The sign of a line. -/
def sgn (s : Bytes) : UInt8 := s.headD 0
def isSgn (s : Bytes) : Bool := sgn s == 32 || sgn s == 45 || sgn s == 43
def nK (l : List Bytes) : Nat := l.countP (fun s => sgn s == 32)
def nR (l : List Bytes) : Nat := l.countP (fun s => sgn s == 45)
def nA (l : List Bytes) : Nat := l.countP (fun s => sgn s == 43)
def inR (n : Int) : Bool := decide (0 ≤ n) && decide (n ≤ 1099511627776)

def touchingB (x b : Block) : Bool := decide (b.oldAt = x.oldAt + x.oldLen) && (sgn (x.lines.getLastD []) != 32) && (sgn (b.lines.headD []) != 32)

def checkB (prev : Option Block) (b : Block) (shift : Int) : Int :=
  if (inR b.oldAt && inR b.newAt) = false then 2
  else if b.lines.all isSgn = false then 3
  else if nR b.lines + nA b.lines = 0 then 1
  else if ¬ (b.oldLen = nK b.lines + nR b.lines ∧ b.newLen = nK b.lines + nA b.lines ∧ b.newAt = b.oldAt + shift) then 10
  else if (inR (b.oldAt + b.oldLen) && inR (b.newAt + b.newLen)) = false then 2
  else match prev with
    | none => 0
    | some x => if b.oldAt < x.oldAt + x.oldLen ∨ touchingB x b = true then 9 else 0

def checkF (prev : Option Block) (i shift : Int) : List Block → Int × Int
  | [] => (0, 0)
  | b :: l => if checkB prev b shift = 0 then checkF (some b) (i + 1) (shift + b.newLen - b.oldLen) l else (i, checkB prev b shift)

def checkL (l : List Block) : Int × Int := checkF none 0 0 l

/-! ### Hunks -/

def hcheckF (e : Int) : List Hunk → Int
  | [] => 0
  | h :: l => if inR h.at_ = false then 2 else if h.old.length + h.new.length = 0 then 1 else if h.at_ ≤ e then 9 else hcheckF (h.at_ + h.old.length) l

def hcheckL (l : List Hunk) : Int := hcheckF (-1) l

def happlyF (a : List Bytes) (at_ : Nat) : List Hunk → Sum Int (List Bytes)
  | [] => .inr (a.drop at_)
  | h :: l =>
    if a.length < h.at_.toNat + h.old.length then .inl 2
    else if seg a h.at_.toNat (h.at_.toNat + h.old.length) = h.old then
      match happlyF a (h.at_.toNat + h.old.length) l with
      | .inl e => .inl e
      | .inr m => .inr (seg a at_ h.at_.toNat ++ h.new ++ m)
    else .inl 15

def resE : Sum Int (List Bytes) → List Bytes × Int
  | .inl e => ([], e)
  | .inr m => (m, 0)

def happly (a : List Bytes) (l : List Hunk) : List Bytes × Int :=
  if hcheckL l = 0 then resE (happlyF a 0 l) else ([], hcheckL l)

/-! ### Blocks -/

def marked (c : UInt8) (l : List Bytes) : List Bytes := l.map ([c] ++ ·)

def blockLines (a : List Bytes) (e : Nat) (at_ : Nat) : List Hunk → List Bytes
  | [] => marked 32 (seg a at_ e)
  | h :: r => marked 32 (seg a at_ h.at_.toNat) ++ (marked 45 h.old ++ (marked 43 h.new ++ blockLines a e (h.at_.toNat + h.old.length) r))

def gend : List Hunk → Int
  | [] => 0
  | [h] => h.at_ + h.old.length
  | _ :: r => gend r

def gbeg : List Hunk → Int
  | [] => 0
  | h :: _ => h.at_

def blockOf (a : List Bytes) (n : Int) (shift : Int) (g : List Hunk) : Block :=
  let at_ := max 0 (gbeg g - n)
  let e := min (a.length : Int) (gend g + n)
  let L := blockLines a e.toNat at_.toNat g
  { oldAt := at_, oldLen := (nK L + nR L : Nat), newAt := at_ + shift, newLen := (nK L + nA L : Nat), lines := L }

/-- Two hunks are in one block. -/
def joined (n : Int) (h h' : Hunk) : Bool := decide (h'.at_ - (h.at_ + h.old.length) ≤ 2 * n)

def groupsL (n : Int) : List Hunk → List (List Hunk)
  | [] => []
  | h :: r => match r, groupsL n r with
    | h' :: _, g :: gs => if joined n h h' = true then (h :: g) :: gs else [h] :: g :: gs
    | _, _ => [[h]]

def blocksF (a : List Bytes) (n : Int) (shift : Int) : List (List Hunk) → List Block
  | [] => []
  | g :: gs => blockOf a n shift g :: blocksF a n (shift + (blockOf a n shift g).newLen - (blockOf a n shift g).oldLen) gs

def blocksL (a : List Bytes) (l : List Hunk) (n : Int) : List Block × Int :=
  if n < 0 ∨ 100 < n then ([], 2) else if (happly a l).2 = 0 then (blocksF a n 0 (groupsL n l), 0) else ([], (happly a l).2)

/-! ### Places -/

/-- The lines with one of two signs, without these. -/
def chosen1 (g : UInt8) (s : Bytes) : List Bytes := if s.head? = some 32 ∨ s.head? = some g then [s.tail] else []
def chosenL (g : UInt8) (l : List Bytes) : List Bytes := l.flatMap (chosen1 g)

def dist (a b : Int) : Int := if a ≤ b then b - a else a - b

def fitsB (a old : List Bytes) (p : Nat) : Bool := decide (p + old.length ≤ a.length) && decide (seg a p (p + old.length) = old)

def betterB (best : Option Nat) (p : Nat) (want : Int) : Bool := match best with
  | none => true
  | some b => decide (dist p want < dist b want)

def near1 (a old : List Bytes) (want reach : Int) (best : Option Nat) (p : Nat) : Option Nat :=
  if fitsB a old p = true ∧ dist p want ≤ reach ∧ betterB best p want = true then some p else best

def nearF (a old : List Bytes) (want reach : Int) : Option Nat → Nat → Nat → Option Nat
  | best, _, 0 => best
  | best, p, k + 1 => nearF a old want reach (near1 a old want reach best p) (p + 1) k

def near (a old : List Bytes) (fr : Nat) (want reach : Int) : Option Nat := nearF a old want reach none fr (a.length + 1 - old.length - fr)

def applyF (a : List Bytes) (reach : Int) : Nat → Int → List Block → Option (List Bytes × List Int)
  | fr, _, [] => some (a.drop fr, [])
  | fr, shift, b :: l => match near a (chosenL 45 b.lines) fr (b.oldAt + shift) reach with
    | none => none
    | some p => match applyF a reach (p + b.oldLen.toNat) (p - b.oldAt) l with
      | none => none
      | some (m, ps) => some (seg a fr p ++ chosenL 43 b.lines ++ m, (p : Int) :: ps)

def resA : Option (List Bytes × List Int) → List Bytes × List Int × Int
  | none => ([], [], 7)
  | some (m, ps) => (m, ps, 0)

def uapply (a : List Bytes) (l : List Block) (reach : Int) : List Bytes × List Int × Int :=
  if (checkL l).2 = 0 then (if inR reach = true then resA (applyF a reach 0 0 l) else ([], [], 2)) else ([], [], (checkL l).2)

end Qv
end

section
/- Plain laws of what the functions of the Unified seat compute: the nearest place, hunks that fit, blocks of hunks. No condition. -/
set_option linter.unusedVariables false
set_option linter.unusedSimpArgs false
namespace Qv

/-! ### The nearest place -/

def NearG (a old : List Bytes) (fr : Nat) (P : Nat → Prop) (want reach : Int) : Option Nat → Prop
  | none => ∀ q, fr ≤ q → P q → fitsB a old q = true → reach < dist q want
  | some b => fr ≤ b ∧ P b ∧ fitsB a old b = true ∧ dist b want ≤ reach ∧ ∀ q, fr ≤ q → P q → fitsB a old q = true → dist b want ≤ dist q want ∧ (dist q want = dist b want → b ≤ q)

theorem near1_good {a old : List Bytes} {fr p : Nat} {want reach : Int} {best : Option Nat} (hp : fr ≤ p) (h : NearG a old fr (· < p) want reach best) :
    NearG a old fr (· < p + 1) want reach (near1 a old want reach best p) := by
  unfold near1
  split
  · rename_i hc
    obtain ⟨h1, h2, h3⟩ := hc
    refine ⟨hp, Nat.lt_succ_self p, h1, h2, fun q hq hq' hf => ?_⟩
    by_cases hqp : q = p
    · subst hqp; exact ⟨Int.le_refl _, fun _ => Nat.le_refl _⟩
    · have hlt : q < p := by omega
      cases best with
      | none =>
        have := h q hq hlt hf
        constructor
        · omega
        · omega
      | some b =>
        obtain ⟨g1, g2, g3, g4, g5⟩ := h
        have := (g5 q hq hlt hf).1
        have h3' : dist p want < dist b want := of_decide_eq_true h3
        constructor <;> omega
  · rename_i hc
    cases best with
    | none =>
      intro q hq hq' hf
      by_cases hqp : q = p
      · subst hqp
        have : ¬ dist q want ≤ reach := fun h2 => hc ⟨hf, h2, rfl⟩
        omega
      · exact h q hq (by omega) hf
    | some b =>
      obtain ⟨g1, g2, g3, g4, g5⟩ := h
      refine ⟨g1, by omega, g3, g4, fun q hq hq' hf => ?_⟩
      by_cases hqp : q = p
      · subst hqp
        by_cases hd : dist q want ≤ reach
        · have : ¬ dist q want < dist b want := fun h3 => hc ⟨hf, hd, decide_eq_true h3⟩
          exact ⟨by omega, fun _ => by omega⟩
        · exact ⟨by omega, fun _ => by omega⟩
      · exact g5 q hq (by omega) hf

theorem nearF_good {a old : List Bytes} {fr : Nat} {want reach : Int} : ∀ (k p : Nat) (best : Option Nat), fr ≤ p → NearG a old fr (· < p) want reach best →
    NearG a old fr (· < p + k) want reach (nearF a old want reach best p k)
  | 0, p, best, hp, h => h
  | k + 1, p, best, hp, h => by
    have := nearF_good k (p + 1) _ (by omega) (near1_good hp h)
    rw [show p + (k + 1) = p + 1 + k by omega]
    exact this

theorem fitsB_le {a old : List Bytes} {p : Nat} (h : fitsB a old p = true) : p + old.length ≤ a.length ∧ seg a p (p + old.length) = old := by
  simpa [fitsB] using h

theorem near_good (a old : List Bytes) (fr : Nat) (want reach : Int) : NearG a old fr (fun _ => True) want reach (near a old fr want reach) := by
  have h := nearF_good (a := a) (old := old) (fr := fr) (want := want) (reach := reach) (a.length + 1 - old.length - fr) fr none (Nat.le_refl _) (fun q h1 h2 _ => by simp at h2; omega)
  have key : ∀ q, fr ≤ q → fitsB a old q = true → q < fr + (a.length + 1 - old.length - fr) := fun q h1 h2 => by
    have := (fitsB_le h2).1; omega
  unfold near
  cases hr : nearF a old want reach none fr (a.length + 1 - old.length - fr) with
  | none => rw [hr] at h; exact fun q h1 _ h3 => h q h1 (key q h1 h3) h3
  | some b =>
    rw [hr] at h
    obtain ⟨g1, g2, g3, g4, g5⟩ := h
    exact ⟨g1, trivial, g3, g4, fun q h1 _ h3 => g5 q h1 (key q h1 h3) h3⟩

theorem dist_abs (a b : Int) : dist a b = max (a - b) (b - a) := by
  unfold dist; split <;> omega

/-! ### Hunks that fit -/

def Fit (a : List Bytes) (lo : Int) : List Hunk → Prop
  | [] => True
  | h :: l => 0 ≤ h.at_ ∧ lo < h.at_ ∧ h.at_ + h.old.length ≤ a.length ∧ seg a h.at_.toNat (h.at_.toNat + h.old.length) = h.old ∧ 0 < h.old.length + h.new.length ∧ Fit a (h.at_ + h.old.length) l

def res (a : List Bytes) (at_ : Nat) : List Hunk → List Bytes
  | [] => a.drop at_
  | h :: l => seg a at_ h.at_.toNat ++ h.new ++ res a (h.at_.toNat + h.old.length) l

theorem happlyF_inl {a : List Bytes} : ∀ {l : List Hunk} {k : Nat} {e : Int}, happlyF a k l = .inl e → e = 2 ∨ e = 15
  | [], k, e, h => by simp [happlyF] at h
  | x :: l, k, e, h => by
    simp only [happlyF] at h
    split at h
    · injection h with h; exact .inl h.symm
    · split at h
      · cases hr : happlyF a (x.at_.toNat + x.old.length) l with
        | inl e' =>
          rw [hr] at h
          injection h with h; subst h
          exact happlyF_inl hr
        | inr m => rw [hr] at h; cases h
      · injection h with h; exact .inr h.symm

theorem happlyF_fit {a : List Bytes} : ∀ {l : List Hunk} {k : Nat} {lo : Int} {m : List Bytes}, hcheckF lo l = 0 → happlyF a k l = .inr m → Fit a lo l ∧ m = res a k l
  | [], k, lo, m, h0, h => by
    simp only [happlyF] at h
    injection h with h
    exact ⟨trivial, h.symm⟩
  | x :: l, k, lo, m, h0, h => by
    simp only [hcheckF] at h0
    split at h0
    · cases h0
    · rename_i h1
      split at h0
      · cases h0
      · rename_i h2
        split at h0
        · cases h0
        · rename_i h3
          simp only [happlyF] at h
          split at h
          · cases h
          · rename_i h4
            split at h
            · rename_i h5
              cases hr : happlyF a (x.at_.toNat + x.old.length) l with
              | inl e => rw [hr] at h; cases h
              | inr m' =>
                rw [hr] at h
                injection h with h
                obtain ⟨g1, g2⟩ := happlyF_fit h0 hr
                have hx : 0 ≤ x.at_ := by simp [inR] at h1; omega
                refine ⟨⟨hx, by omega, by omega, h5, by omega, g1⟩, ?_⟩
                rw [← h, g2]; rfl
            · cases h

theorem happly_fit {a : List Bytes} {l : List Hunk} (h : (happly a l).2 = 0) : Fit a (-1) l ∧ (happly a l).1 = res a 0 l := by
  unfold happly at h ⊢
  by_cases h0 : hcheckL l = 0
  · rw [if_pos h0] at h ⊢
    cases hr : happlyF a 0 l with
    | inl e =>
      rw [hr] at h
      have h' : e = 0 := h
      rcases happlyF_inl hr with h1 | h1 <;> omega
    | inr m =>
      exact happlyF_fit h0 hr
  · rw [if_neg h0] at h
    exact absurd h h0

/-! ### The lines of a block -/

theorem chosenL_app (g : UInt8) (l l' : List Bytes) : chosenL g (l ++ l') = chosenL g l ++ chosenL g l' := by
  simp [chosenL]

theorem chosenL_marked (g c : UInt8) (l : List Bytes) : chosenL g (marked c l) = if c = 32 ∨ c = g then l else [] := by
  induction l with
  | nil => simp [chosenL, marked]
  | cons s l ih =>
    unfold chosenL marked at ih ⊢
    simp only [List.map_cons, List.flatMap_cons, ih]
    by_cases h : c = 32 ∨ c = g
    · simp [chosen1, h]
    · simp [chosen1, h]

def newSeg (a : List Bytes) (e : Nat) (at_ : Nat) : List Hunk → List Bytes
  | [] => seg a at_ e
  | h :: r => seg a at_ h.at_.toNat ++ (h.new ++ newSeg a e (h.at_.toNat + h.old.length) r)

def oldSeg (a : List Bytes) (e : Nat) (at_ : Nat) : List Hunk → List Bytes
  | [] => seg a at_ e
  | h :: r => seg a at_ h.at_.toNat ++ (h.old ++ oldSeg a e (h.at_.toNat + h.old.length) r)

theorem chosen_new (a : List Bytes) (e : Nat) : ∀ (g : List Hunk) (k : Nat), chosenL 43 (blockLines a e k g) = newSeg a e k g
  | [], k => by simp [blockLines, newSeg, chosenL_marked]
  | h :: r, k => by
    simp [blockLines, newSeg, chosenL_app, chosenL_marked, chosen_new a e r]

theorem chosen_old' (a : List Bytes) (e : Nat) : ∀ (g : List Hunk) (k : Nat), chosenL 45 (blockLines a e k g) = oldSeg a e k g
  | [], k => by simp [blockLines, oldSeg, chosenL_marked]
  | h :: r, k => by
    simp [blockLines, oldSeg, chosenL_app, chosenL_marked, chosen_old' a e r]

/-- The hunks lie in a stretch of a list, one behind the other, and fit. -/
def Chain (a : List Bytes) (e : Nat) : Nat → List Hunk → Prop
  | k, [] => k ≤ e
  | k, h :: r => ∃ p : Nat, h.at_ = p ∧ k ≤ p ∧ seg a p (p + h.old.length) = h.old ∧ Chain a e (p + h.old.length) r

theorem fit_gend {a : List Bytes} : ∀ {g : List Hunk} {lo : Int}, Fit a lo g → g ≠ [] → gbeg g ≤ gend g ∧ gend g ≤ a.length ∧ 0 ≤ gbeg g ∧ lo < gbeg g
  | [], lo, h, hne => absurd rfl hne
  | [x], lo, h, hne => by
    obtain ⟨f1, f2, f3, f4, f5, f6⟩ := h
    simp only [gbeg, gend]
    omega
  | x :: y :: r, lo, h, hne => by
    obtain ⟨f1, f2, f3, f4, f5, f6⟩ := h
    obtain ⟨h1, h2, h3, h4⟩ := fit_gend f6 (by simp)
    simp only [gbeg, gend] at *
    omega

theorem fit_chain {a : List Bytes} {e : Nat} : ∀ {g : List Hunk} {lo : Int} {k : Nat}, Fit a lo g → g ≠ [] → (k : Int) ≤ gbeg g → gend g ≤ e → Chain a e k g
  | [], lo, k, h, hne, h1, h2 => absurd rfl hne
  | [x], lo, k, h, hne, h1, h2 => by
    obtain ⟨f1, f2, f3, f4, f5, f6⟩ := h
    simp only [gbeg, gend] at h1 h2
    exact ⟨x.at_.toNat, by omega, by omega, f4, by show x.at_.toNat + x.old.length ≤ e; omega⟩
  | x :: y :: r, lo, k, h, hne, h1, h2 => by
    obtain ⟨f1, f2, f3, f4, f5, f6⟩ := h
    simp only [gbeg] at h1
    have hl := (fit_gend f6 (by simp)).2.2.2
    exact ⟨x.at_.toNat, by omega, by omega, f4, fit_chain f6 (by simp) (by omega) h2⟩

theorem oldSeg_eq {a : List Bytes} {e : Nat} : ∀ {g : List Hunk} {k : Nat}, Chain a e k g → oldSeg a e k g = seg a k e ∧ k ≤ e
  | [], k, h => ⟨rfl, h⟩
  | x :: r, k, h => by
    obtain ⟨p, h1, h2, h3, h4⟩ := h
    obtain ⟨h5, h6⟩ := oldSeg_eq h4
    have h7 : x.at_.toNat = p := by omega
    refine ⟨?_, by omega⟩
    rw [oldSeg, h7, h5]
    conv => lhs; rw [show x.old ++ seg a (p + x.old.length) e = seg a p (p + x.old.length) ++ seg a (p + x.old.length) e by rw [h3]]
    rw [seg_seg a (by omega) h6, seg_seg a h2 (by omega)]

def oldTotal (g : List Hunk) : Nat := (g.map (·.old.length)).sum
def newTotal (g : List Hunk) : Nat := (g.map (·.new.length)).sum

theorem newSeg_len {a : List Bytes} {e : Nat} (he : e ≤ a.length) : ∀ {g : List Hunk} {k : Nat}, Chain a e k g → (newSeg a e k g).length + oldTotal g + k = e + newTotal g ∧ oldTotal g + k ≤ e
  | [], k, h => by
    have h' : k ≤ e := h
    simp only [newSeg, seg_length a k e he, oldTotal, newTotal, List.map_nil, List.sum_nil]
    omega
  | x :: r, k, h => by
    obtain ⟨p, h1, h2, h3, h4⟩ := h
    obtain ⟨h5, h6⟩ := newSeg_len he h4
    have h7 : x.at_.toNat = p := by omega
    have h8 : p ≤ e := by omega
    simp only [newSeg, h7, List.length_append, seg_length a k p (by omega), oldTotal, newTotal, List.map_cons, List.sum_cons] at *
    omega

theorem count_old (l : List Bytes) : nK l + nR l = (chosenL 45 l).length := by
  induction l with
  | nil => rfl
  | cons s l ih =>
    unfold nK nR chosenL at *
    simp only [List.countP_cons, List.flatMap_cons, List.length_append, chosen1, ← ih]
    cases s with
    | nil => simp [sgn]
    | cons c s =>
      simp only [sgn, List.headD_cons, List.head?_cons, Option.some.injEq, beq_iff_eq]
      by_cases h1 : c = 32
      · subst h1; simp; omega
      · by_cases h2 : c = 45
        · subst h2; simp; omega
        · simp [h1, h2]

theorem count_new (l : List Bytes) : nK l + nA l = (chosenL 43 l).length := by
  induction l with
  | nil => rfl
  | cons s l ih =>
    unfold nK nA chosenL at *
    simp only [List.countP_cons, List.flatMap_cons, List.length_append, chosen1, ← ih]
    cases s with
    | nil => simp [sgn]
    | cons c s =>
      simp only [sgn, List.headD_cons, List.head?_cons, Option.some.injEq, beq_iff_eq]
      by_cases h1 : c = 32
      · subst h1; simp; omega
      · by_cases h2 : c = 43
        · subst h2; simp; omega
        · simp [h1, h2]

/-! ### Groups of hunks -/

theorem fit_lo {a : List Bytes} {g : List Hunk} {lo lo' : Int} (h : Fit a lo g) (h' : lo' < gbeg g ∨ g = []) : Fit a lo' g := by
  cases g with
  | nil => trivial
  | cons x r =>
    obtain ⟨f1, f2, f3⟩ := h
    refine ⟨f1, ?_, f3⟩
    rcases h' with h' | h'
    · exact h'
    · cases h'

def GFit (a : List Bytes) (n : Int) (pe : Int) : List (List Hunk) → Prop
  | [] => True
  | g :: gs => g ≠ [] ∧ (∃ lo, Fit a lo g) ∧ pe < max 0 (gbeg g - n) ∧ GFit a n (min a.length (gend g + n)) gs

theorem groups_cons (n : Int) (h h' : Hunk) (r : List Hunk) (g : List Hunk) (gs : List (List Hunk)) (hg : groupsL n (h' :: r) = g :: gs) :
    groupsL n (h :: h' :: r) = if joined n h h' = true then (h :: g) :: gs else [h] :: g :: gs := by
  have e : groupsL n (h :: h' :: r) = (match h' :: r, groupsL n (h' :: r) with
    | h' :: _, g :: gs => if joined n h h' = true then (h :: g) :: gs else [h] :: g :: gs
    | _, _ => [[h]]) := rfl
  rw [e, hg]

theorem groups_ne (n : Int) : ∀ (l : List Hunk), l ≠ [] → ∃ g gs, groupsL n l = g :: gs ∧ g ≠ [] ∧ gbeg g = gbeg l
  | [], h => absurd rfl h
  | [x], h => ⟨[x], [], rfl, by simp, rfl⟩
  | x :: y :: r, h => by
    obtain ⟨g, gs, h1, h2, h3⟩ := groups_ne n (y :: r) (by simp)
    rw [groups_cons n x y r g gs h1]
    split
    · exact ⟨_, _, rfl, by simp, rfl⟩
    · exact ⟨_, _, rfl, by simp, rfl⟩

theorem groups_flat (n : Int) : ∀ (l : List Hunk), (groupsL n l).flatten = l
  | [] => rfl
  | [x] => rfl
  | x :: y :: r => by
    obtain ⟨g, gs, h1, h2, h3⟩ := groups_ne n (y :: r) (by simp)
    have ih := groups_flat n (y :: r)
    rw [groups_cons n x y r g gs h1]
    rw [h1] at ih
    simp only [List.flatten_cons] at ih
    split
    · simp [ih]
    · simp [ih]

theorem groups_fit {a : List Bytes} {n : Int} (hn : 0 ≤ n) : ∀ (l : List Hunk) (lo pe : Int), Fit a lo l → (pe < max 0 (gbeg l - n) ∨ l = []) → GFit a n pe (groupsL n l)
  | [], lo, pe, h, hp => trivial
  | [x], lo, pe, h, hp => by
    refine ⟨by simp, ⟨lo, h⟩, ?_, trivial⟩
    rcases hp with hp | hp
    · exact hp
    · cases hp
  | x :: y :: r, lo, pe, h, hp => by
    obtain ⟨g, gs, h1, h2, h3⟩ := groups_ne n (y :: r) (by simp)
    have hp' : pe < max 0 (gbeg (x :: y :: r) - n) := by
      rcases hp with hp | hp
      · exact hp
      · cases hp
    obtain ⟨f1, f2, f3, f4, f5, f6⟩ := h
    rw [groups_cons n x y r g gs h1]
    have hxy : x.at_ + x.old.length < gbeg (y :: r) := (fit_gend f6 (by simp)).2.2.2
    split
    · have ih := groups_fit hn (y :: r) _ (-1) f6 (.inl (by omega))
      rw [h1] at ih
      obtain ⟨-, ⟨lo', i1⟩, -, i2⟩ := ih
      refine ⟨by simp, ⟨lo, f1, f2, f3, f4, f5, fit_lo i1 (.inl (by rw [h3]; exact hxy))⟩, hp', ?_⟩
      have : gend (x :: g) = gend g := by
        cases g with
        | nil => exact absurd rfl h2
        | cons z g => rfl
      rw [this]
      exact i2
    · rename_i hj
      have hj' : ¬ (y.at_ - (x.at_ + x.old.length) ≤ 2 * n) := by simpa [joined] using hj
      have ih := groups_fit hn (y :: r) _ (min a.length (gend [x] + n)) f6 (.inl (by simp only [gend, gbeg]; omega))
      rw [h1] at ih
      exact ⟨by simp, ⟨lo, f1, f2, f3, f4, f5, trivial⟩, hp', ih⟩

/-- What is known of the block of a group. -/
theorem block_facts {a : List Bytes} {n pe shift : Int} (hn : 0 ≤ n) {g : List Hunk} (hne : g ≠ []) {lo : Int} (hf : Fit a lo g) :
    ∃ p e : Nat, (blockOf a n shift g).oldAt = p ∧ (p : Int) = max 0 (gbeg g - n) ∧ (e : Int) = min (a.length : Int) (gend g + n) ∧ (blockOf a n shift g).oldLen = (e - p : Nat) ∧ p ≤ e ∧ e ≤ a.length ∧ Chain a e p g ∧
      chosenL 45 (blockOf a n shift g).lines = seg a p e ∧ chosenL 43 (blockOf a n shift g).lines = newSeg a e p g ∧ (blockOf a n shift g).newLen = (newSeg a e p g).length ∧
      (blockOf a n shift g).newAt = p + shift ∧ (blockOf a n shift g).lines = blockLines a e p g := by
  obtain ⟨h1, h2, h3, h4⟩ := fit_gend hf hne
  obtain ⟨p, hp⟩ : ∃ p : Nat, (p : Int) = max 0 (gbeg g - n) := ⟨(max 0 (gbeg g - n)).toNat, by omega⟩
  obtain ⟨e, he⟩ : ∃ e : Nat, (e : Int) = min (a.length : Int) (gend g + n) := ⟨(min (a.length : Int) (gend g + n)).toNat, by omega⟩
  have hc : Chain a e p g := fit_chain hf hne (by omega) (by omega)
  obtain ⟨h5, h6⟩ := oldSeg_eq hc
  have hel : e ≤ a.length := by omega
  have hL : (blockOf a n shift g).lines = blockLines a e p g := by
    simp only [blockOf]
    rw [← hp, ← he]
    rfl
  have ho : chosenL 45 (blockOf a n shift g).lines = seg a p e := by rw [hL, chosen_old', h5]
  have hw : chosenL 43 (blockOf a n shift g).lines = newSeg a e p g := by rw [hL, chosen_new]
  refine ⟨p, e, hp.symm, hp, he, ?_, h6, hel, hc, ho, hw, ?_, ?_, hL⟩
  · show ((nK (blockOf a n shift g).lines + nR (blockOf a n shift g).lines : Nat) : Int) = _
    rw [count_old, ho, seg_length a p e hel]
  · show ((nK (blockOf a n shift g).lines + nA (blockOf a n shift g).lines : Nat) : Int) = _
    rw [count_new, hw]
  · show max 0 (gbeg g - n) + shift = _
    rw [hp]

/-! ### Blocks of hunks are applied where they were made -/

theorem res_app {a : List Bytes} {e : Nat} : ∀ {g : List Hunk} {k fr : Nat} {l : List Hunk}, Chain a e k g → fr ≤ k → (l = [] ∨ ∃ x r, l = x :: r ∧ (e : Int) ≤ x.at_) →
    res a fr (g ++ l) = seg a fr k ++ (newSeg a e k g ++ res a e l)
  | [], k, fr, l, h, hk, hl => by
    have h' : k ≤ e := h
    simp only [List.nil_append, newSeg]
    rw [← List.append_assoc, seg_seg a hk h']
    rcases hl with rfl | ⟨x, r, rfl, hx⟩
    · simp only [res]; rw [seg_drop a (by omega)]
    · simp only [res, List.append_assoc]
      rw [← List.append_assoc, ← List.append_assoc, seg_seg a (i := fr) (j := e) (by omega) (by omega), List.append_assoc]
  | y :: g, k, fr, l, h, hk, hl => by
    obtain ⟨p, h1, h2, h3, h4⟩ := h
    have h7 : y.at_.toNat = p := by omega
    have ih := res_app (fr := p + y.old.length) h4 (Nat.le_refl _) hl
    simp only [List.cons_append, res, newSeg, h7, ih, seg_self, List.nil_append]
    rw [← seg_seg a hk h2]
    simp only [List.append_assoc]

theorem seg_fits {a : List Bytes} {p e : Nat} (h1 : p ≤ e) (h2 : e ≤ a.length) : fitsB a (seg a p e) p = true := by
  simp only [fitsB, seg_length a p e h2, Bool.and_eq_true, decide_eq_true_eq]
  rw [show p + (e - p) = e by omega]
  exact ⟨h2, rfl⟩

theorem near_here {a old : List Bytes} {fr p : Nat} {reach : Int} (h : fitsB a old p = true) (hfr : fr ≤ p) (hr : 0 ≤ reach) : near a old fr p reach = some p := by
  have hg := near_good a old fr p reach
  have hd : dist p p = 0 := by unfold dist; split <;> omega
  cases hn : near a old fr p reach with
  | none =>
    rw [hn] at hg
    have := hg p hfr trivial h
    omega
  | some b =>
    rw [hn] at hg
    obtain ⟨h1, -, h2, h3, h4⟩ := hg
    have := (h4 p hfr trivial h).1
    have h5 := dist_abs b p
    congr 1
    omega

theorem gfit_next {a : List Bytes} {n pe : Int} (hn : 0 ≤ n) {gs : List (List Hunk)} (h : GFit a n pe gs) : gs.flatten = [] ∨ ∃ x r, gs.flatten = x :: r ∧ pe < max 0 (x.at_ - n) := by
  cases gs with
  | nil => exact .inl rfl
  | cons g gs =>
    obtain ⟨h1, -, h3, -⟩ := h
    cases g with
    | nil => exact absurd rfl h1
    | cons x r => exact .inr ⟨x, r ++ gs.flatten, by simp, h3⟩

theorem applies_ok {a : List Bytes} {n : Int} (hn : 0 ≤ n) {reach : Int} (hr : 0 ≤ reach) : ∀ (gs : List (List Hunk)) (pe shift : Int) (fr : Nat), GFit a n pe gs → (fr : Int) ≤ max 0 pe →
    applyF a reach fr 0 (blocksF a n shift gs) = some (res a fr gs.flatten, (blocksF a n shift gs).map (·.oldAt))
  | [], pe, shift, fr, h, hfr => rfl
  | g :: gs, pe, shift, fr, h, hfr => by
    obtain ⟨h1, ⟨lo, h2⟩, h3, h4⟩ := h
    obtain ⟨p, e, b1, b2, b3, b4, b5, b6, b7, b8, b9, b10, b11, b12⟩ := block_facts (shift := shift) (pe := pe) hn h1 h2
    rw [blocksF]
    generalize blockOf a n shift g = b at *
    simp only [applyF, b8, b1, Int.add_zero]
    rw [near_here (seg_fits b5 b6) (by omega) hr]
    simp only
    rw [show p + b.oldLen.toNat = e by omega, show (p : Int) - p = 0 by omega]
    rw [applies_ok hn hr gs _ _ e h4 (by omega)]
    simp only [List.map_cons, b1, List.flatten_cons, b9]
    rw [res_app (e := e) (k := p) b7 (by omega), List.append_assoc]
    rcases gfit_next hn h4 with q | ⟨x, r, q1, q2⟩
    · exact .inl q
    · exact .inr ⟨x, r, q1, by omega⟩

theorem blocks_flat {a : List Bytes} {l : List Hunk} {n : Int} (hn : 0 ≤ n) (h : (happly a l).2 = 0) : GFit a n (-1) (groupsL n l) := by
  refine groups_fit hn l _ (-1) (happly_fit h).1 (.inl (by omega))

theorem applies_law {a : List Bytes} {l : List Hunk} {n reach : Int} (hn : 0 ≤ n) (hr : 0 ≤ reach) (h : (happly a l).2 = 0) :
    applyF a reach 0 0 (blocksF a n 0 (groupsL n l)) = some ((happly a l).1, (blocksF a n 0 (groupsL n l)).map (·.oldAt)) := by
  rw [applies_ok hn hr _ (-1) 0 0 (blocks_flat hn h) (by omega), groups_flat, (happly_fit h).2]

/-! ### Blocks of hunks are valid -/

theorem marked_all {c : UInt8} (hc : c = 32 ∨ c = 45 ∨ c = 43) (l : List Bytes) : (marked c l).all isSgn = true := by
  simp only [marked, List.all_map, List.all_eq_true, Function.comp]
  intro s _
  rcases hc with rfl | rfl | rfl <;> simp [isSgn, sgn]

theorem blockLines_all (a : List Bytes) (e : Nat) : ∀ (g : List Hunk) (k : Nat), (blockLines a e k g).all isSgn = true
  | [], k => marked_all (.inl rfl) _
  | h :: r, k => by
    simp only [blockLines, List.all_append, marked_all (.inl rfl), marked_all (.inr (.inl rfl)), marked_all (.inr (.inr rfl)), blockLines_all a e r, Bool.and_self]

theorem count_marked (c d : UInt8) (l : List Bytes) : (marked c l).countP (fun s => sgn s == d) = if c = d then l.length else 0 := by
  induction l with
  | nil => simp [marked]
  | cons s l ih =>
    by_cases hc : c = d
    · subst hc
      simp only [marked, List.map_cons, List.countP_cons, if_true] at ih ⊢
      rw [ih]
      simp [sgn]
    · simp only [marked, List.map_cons, List.countP_cons] at ih ⊢
      simp [ih, hc, sgn]

theorem blockLines_changes (a : List Bytes) (e k : Nat) (g : List Hunk) (hne : g ≠ []) {lo : Int} (hf : Fit a lo g) : 0 < nR (blockLines a e k g) + nA (blockLines a e k g) := by
  cases g with
  | nil => exact absurd rfl hne
  | cons h r =>
    have := hf.2.2.2.2.1
    unfold nR nA
    simp only [blockLines, List.countP_append, count_marked]
    simp
    omega

theorem check_blocks {a : List Bytes} {n : Int} (hn : 0 ≤ n) (ha : a.length ≤ 2 ^ 40) : ∀ (gs : List (List Hunk)) (prev : Option Block) (i pe shift : Int), GFit a n pe gs → (∀ x, prev = some x → x.oldAt + x.oldLen ≤ pe) → -shift ≤ max 0 pe →
    a.length + shift + newTotal gs.flatten ≤ 2 ^ 40 → checkF prev i shift (blocksF a n shift gs) = (0, 0)
  | [], prev, i, pe, shift, h, hp, hs, hb => rfl
  | g :: gs, prev, i, pe, shift, h, hp, hs, hb => by
    obtain ⟨h1, ⟨lo, h2⟩, h3, h4⟩ := h
    obtain ⟨p, e, b1, b2, b3, b4, b5, b6, b7, b8, b9, b10, b11, b12⟩ := block_facts (shift := shift) (pe := pe) hn h1 h2
    have hlen := newSeg_len b6 b7
    have hall := blockLines_all a e g p
    have hch := blockLines_changes a e p g h1 h2
    have hk1 := count_old (blockOf a n shift g).lines
    have hk2 := count_new (blockOf a n shift g).lines
    rw [b8, seg_length a p e b6] at hk1
    rw [b9] at hk2
    have hnt : newTotal (g :: gs).flatten = newTotal g + newTotal gs.flatten := by simp [newTotal]
    rw [hnt] at hb
    rw [← b12] at hall hch
    rw [blocksF]
    generalize blockOf a n shift g = b at *
    have hc : checkB prev b shift = 0 := by
      unfold checkB
      have i1 : inR b.oldAt = true := by simp only [inR, Bool.and_eq_true, decide_eq_true_eq]; omega
      have i2 : inR b.newAt = true := by simp only [inR, Bool.and_eq_true, decide_eq_true_eq]; omega
      have i3 : inR (b.oldAt + b.oldLen) = true := by simp only [inR, Bool.and_eq_true, decide_eq_true_eq]; omega
      have i4 : inR (b.newAt + b.newLen) = true := by simp only [inR, Bool.and_eq_true, decide_eq_true_eq]; omega
      rw [i1, i2, i3, i4, hall]
      simp only [Bool.and_self, Bool.true_eq_false, if_false]
      rw [if_neg (by omega), if_neg (by omega)]
      cases prev with
      | none => rfl
      | some x =>
        have := hp x rfl
        have ht : touchingB x b = false := by
          unfold touchingB
          rw [decide_eq_false (by omega)]
          rfl
        simp only [ht]
        rw [if_neg (by simp; omega)]
    rw [checkF, if_pos hc]
    exact check_blocks hn ha gs (some b) _ _ _ h4 (fun x hx => by obtain rfl := Option.some.inj hx; omega) (by omega) (by omega)

theorem blocks_check {a : List Bytes} {l : List Hunk} {n : Int} (hn : 0 ≤ n) (h : (happly a l).2 = 0) (hb : a.length + newTotal l ≤ 2 ^ 40) : checkL (blocksF a n 0 (groupsL n l)) = (0, 0) :=
  check_blocks hn (by omega) _ none 0 (-1) 0 (blocks_flat hn h) (by simp) (by omega) (by rw [groups_flat]; omega)

/-! ### Lines put in front -/

theorem seg_front (f a : List Bytes) (i j : Nat) : seg (f ++ a) (f.length + i) (f.length + j) = seg a i j := by
  unfold seg
  rw [List.take_append, List.take_of_length_le (by omega), List.drop_append, List.drop_of_length_le (by omega)]
  simp only [List.nil_append]
  rw [show f.length + j - f.length = j by omega, show f.length + i - f.length = i by omega]

theorem fits_front {f a : List Bytes} {p e : Nat} (h1 : p ≤ e) (h2 : e ≤ a.length) : fitsB (f ++ a) (seg a p e) (f.length + p) = true := by
  simp only [fitsB, seg_length a p e h2, Bool.and_eq_true, decide_eq_true_eq, List.length_append]
  rw [show f.length + p + (e - p) = f.length + e by omega]
  exact ⟨by omega, seg_front f a p e⟩

theorem moved_ok {f a : List Bytes} {n : Int} (hn : 0 ≤ n) : ∀ (gs : List (List Hunk)) (pe shift moved : Int) (fr : Nat), GFit a n pe gs → (fr : Int) ≤ f.length + max 0 pe → moved ≤ f.length → -(max 0 pe) ≤ moved → pe ≤ a.length →
    ∃ m ps, applyF (f ++ a) ((f ++ a).length : Nat) fr moved (blocksF a n shift gs) = some (m, ps) ∧ ps.length = (blocksF a n shift gs).length ∧ m.length + fr + oldTotal gs.flatten = f.length + a.length + newTotal gs.flatten
  | [], pe, shift, moved, fr, h, h1, h2, h3, h4 => by
    refine ⟨_, _, rfl, rfl, ?_⟩
    simp only [List.length_drop, List.length_append, oldTotal, newTotal, List.flatten_nil, List.map_nil, List.sum_nil]
    omega
  | g :: gs, pe, shift, moved, fr, h, q1, q2, q3, q4 => by
    obtain ⟨h1, ⟨lo, h2⟩, h3, h4⟩ := h
    obtain ⟨p, e, b1, b2, b3, b4, b5, b6, b7, b8, b9, b10, b11, b12⟩ := block_facts (shift := shift) (pe := pe) hn h1 h2
    have hlen := newSeg_len b6 b7
    have hot : oldTotal (g :: gs).flatten = oldTotal g + oldTotal gs.flatten := by simp [oldTotal]
    have hnt : newTotal (g :: gs).flatten = newTotal g + newTotal gs.flatten := by simp [newTotal]
    rw [blocksF]
    generalize blockOf a n shift g = b at *
    have hg := near_good (f ++ a) (seg a p e) fr (p + moved) ((f ++ a).length : Nat)
    have hq : dist (f.length + p : Nat) (p + moved) = f.length - moved := by
      rw [dist_abs]; omega
    have hfit := fits_front (f := f) b5 b6
    simp only [applyF, b8, b1]
    cases hr : near (f ++ a) (seg a p e) fr (p + moved) ((f ++ a).length : Nat) with
    | none =>
      rw [hr] at hg
      have := hg (f.length + p) (by omega) trivial hfit
      rw [hq] at this
      simp only [List.length_append] at this
      omega
    | some c =>
      rw [hr] at hg
      obtain ⟨g1, -, g2, g3, g4⟩ := hg
      have g5 := (g4 (f.length + p) (by omega) trivial hfit).1
      rw [hq, dist_abs] at g5
      have g6 := (fitsB_le g2).1
      simp only [seg_length a p e b6, List.length_append] at g6
      have hob : c + b.oldLen.toNat = c + (e - p) := by omega
      obtain ⟨m, ps, i1, i2, i3⟩ := moved_ok (f := f) hn gs _ (shift + b.newLen - b.oldLen) (c - p) (c + (e - p)) h4 (by omega) (by omega) (by omega) (by omega)
      simp only [hob, i1]
      refine ⟨_, _, rfl, by simp [i2], ?_⟩
      rw [hot, hnt, b9]
      simp only [List.length_append, seg_length (f ++ a) fr c (by simp only [List.length_append]; omega)]
      omega

theorem moved_law {f a : List Bytes} {l : List Hunk} {n : Int} (hn : 0 ≤ n) (h : (happly a l).2 = 0) :
    ∃ m ps, applyF (f ++ a) ((f ++ a).length : Nat) 0 0 (blocksF a n 0 (groupsL n l)) = some (m, ps) ∧ ps.length = (blocksF a n 0 (groupsL n l)).length ∧ m.length + oldTotal l = f.length + a.length + newTotal l := by
  obtain ⟨m, ps, h1, h2, h3⟩ := moved_ok (f := f) hn _ (-1) 0 0 0 (blocks_flat hn h) (by omega) (by omega) (by omega) (by omega)
  rw [groups_flat] at h3
  exact ⟨m, ps, h1, h2, h3⟩

/-! ### Places -/

/-- What a check that succeeds says of each block by itself. -/
structure BOK (b : Block) : Prop where
  at_ : 0 ≤ b.oldAt ∧ b.oldAt ≤ 1099511627776
  at' : 0 ≤ b.newAt ∧ b.newAt ≤ 1099511627776
  signs : b.lines.all isSgn = true
  some_ : nR b.lines + nA b.lines ≠ 0
  old : b.oldLen = (chosenL 45 b.lines).length
  new : b.newLen = (chosenL 43 b.lines).length
  end_ : b.oldAt + b.oldLen ≤ 1099511627776
  end' : b.newAt + b.newLen ≤ 1099511627776

theorem checkB_ok {prev : Option Block} {b : Block} {shift : Int} (h : checkB prev b shift = 0) : BOK b ∧ b.newAt = b.oldAt + shift ∧ ∀ x, prev = some x → x.oldAt + x.oldLen ≤ b.oldAt ∧ touchingB x b = false := by
  unfold checkB at h
  split at h
  · cases h
  · rename_i h1
    split at h
    · cases h
    · rename_i h2
      split at h
      · cases h
      · rename_i h3
        split at h
        · cases h
        · rename_i h4
          split at h
          · cases h
          · rename_i h5
            have h4' : b.oldLen = nK b.lines + nR b.lines ∧ b.newLen = nK b.lines + nA b.lines ∧ b.newAt = b.oldAt + shift := Decidable.not_not.1 h4
            have c1 := count_old b.lines
            have c2 := count_new b.lines
            simp only [inR, Bool.not_eq_false, Bool.and_eq_true, decide_eq_true_eq] at h1 h2 h5
            refine ⟨⟨h1.1, h1.2, h2, h3, by omega, by omega, h5.1.2, h5.2.2⟩, h4'.2.2, fun x hx => ?_⟩
            subst hx
            simp only at h
            split at h
            · cases h
            · rename_i h6
              simp only [not_or, Bool.not_eq_true] at h6
              exact ⟨by omega, h6.2⟩

theorem checkF_ok : ∀ {l : List Block} {prev : Option Block} {i shift : Int}, (checkF prev i shift l).2 = 0 → ∀ b, b ∈ l → BOK b
  | [], prev, i, shift, h, b, hb => by cases hb
  | x :: l, prev, i, shift, h, b, hb => by
    rw [checkF] at h
    split at h
    · rename_i hc
      rcases List.mem_cons.1 hb with rfl | hb
      · exact (checkB_ok hc).1
      · exact checkF_ok h b hb
    · rename_i hc
      exact absurd h hc

def PlOK (a : List Bytes) (reach : Int) : Nat → Int → List Block → List Int → Prop
  | _, _, [], [] => True
  | fr, sh, b :: l, p :: ps => ∃ k : Nat, p = k ∧ NearG a (chosenL 45 b.lines) fr (fun _ => True) (b.oldAt + sh) reach (some k) ∧ PlOK a reach (k + b.oldLen.toNat) (k - b.oldAt) l ps
  | _, _, _, _ => False

def growth (l : List Block) : Int := (l.map fun b => b.newLen - b.oldLen).sum

theorem applyF_places {a : List Bytes} {reach : Int} : ∀ {l : List Block} {fr : Nat} {sh : Int} {m : List Bytes} {ps : List Int}, applyF a reach fr sh l = some (m, ps) → (∀ b, b ∈ l → BOK b) → fr ≤ a.length →
    PlOK a reach fr sh l ps ∧ ps.length = l.length ∧ (m.length : Int) + fr = a.length + growth l
  | [], fr, sh, m, ps, h, hv, hfr => by
    simp only [applyF, Option.some.injEq, Prod.mk.injEq] at h
    obtain ⟨rfl, rfl⟩ := h
    refine ⟨trivial, rfl, ?_⟩
    simp only [List.length_drop, growth, List.map_nil, List.sum_nil]
    omega
  | b :: l, fr, sh, m, ps, h, hv, hfr => by
    have hg := near_good a (chosenL 45 b.lines) fr (b.oldAt + sh) reach
    have hb := hv b (List.mem_cons_self ..)
    simp only [applyF] at h
    cases hr : near a (chosenL 45 b.lines) fr (b.oldAt + sh) reach with
    | none => rw [hr] at h; cases h
    | some p =>
      rw [hr] at h hg
      simp only at h
      cases hr2 : applyF a reach (p + b.oldLen.toNat) (p - b.oldAt) l with
      | none => rw [hr2] at h; cases h
      | some q =>
        rw [hr2] at h
        obtain ⟨m', ps'⟩ := q
        simp only [Option.some.injEq, Prod.mk.injEq] at h
        obtain ⟨rfl, rfl⟩ := h
        have h5 := (fitsB_le hg.2.2.1).1
        have h6 := hg.1
        have ho := hb.old
        have hw := hb.new
        obtain ⟨i1, i2, i3⟩ := applyF_places hr2 (fun x hx => hv x (List.mem_cons_of_mem _ hx)) (by omega)
        refine ⟨⟨p, rfl, hg, i1⟩, by simp [i2], ?_⟩
        simp only [List.length_append, seg_length a fr p (by omega), growth, List.map_cons, List.sum_cons] at i3 ⊢
        omega

end Qv
end

section
/- The context of the Unified seat: the table of its types. No condition. -/
set_option linter.unusedVariables false
open Go Go.Proofs Go.RowKit
namespace Qv

/-- The variable that the library's number texts lean on. -/
def tabJ (w : World) : Prop := Lib.TabIs Tryz.prog w "internal/strconv.uint64pow10" .u64 Lib.pow10Tab

theorem glob_pow10 : Tryz.prog.globalNamed "internal/strconv.uint64pow10" = some 1 := by kernel_rfl

theorem tabJ_stable (w w' : World) (h : ∀ k, k < 6 → w'.heap[k]? = w.heap[k]?) (hJ : tabJ w) : tabJ w' := by
  unfold tabJ Lib.TabIs at *
  rw [← hJ]
  simp only [World.var?, glob_pow10, Option.bind_some, h 1 (by decide)]

/-- The table of the types. -/
def tab : List (TypeId × TInfo) := [
  (2, ⟨1, 8, .int .i64, [.int .i64 0]⟩),
  (3, ⟨1, 8, .int .i64, [.int .i64 0]⟩),
  (4, ⟨1, 1, .bool, [.bool false]⟩),
  (5, ⟨1, 1, .int .u8, [.int .u8 0]⟩),
  (9, ⟨1, 16, .str, [.string ⟨#[]⟩]⟩),
  (29, ⟨1, 24, .slice 9, [.slice none 0 0]⟩),
  (34, ⟨1, 24, .slice 33, [.slice none 0 0]⟩),
  (22, ⟨1, 8, .func, [.nilFunc]⟩),
  (23, ⟨1, 24, .slice 48, [.slice none 0 0]⟩),
  (24, ⟨1, 8, .int .i64, [.int .i64 0]⟩),
  (37, ⟨1, 24, .slice 3, [.slice none 0 0]⟩),
  (48, ⟨5, 56, .struct [(0, 3), (1, 3), (2, 3), (3, 3), (4, 29)], [.int .i64 0, .int .i64 0, .int .i64 0, .int .i64 0, .slice none 0 0]⟩),
  (33, ⟨3, 56, .struct [(0, 3), (1, 29), (2, 29)], [.int .i64 0, .slice none 0 0, .slice none 0 0]⟩),
  (67, ⟨1, 8, .ptr 70, [.pointer none]⟩),
  (70, ⟨2, 32, .struct [(0, 67), (1, 68)], [.pointer none, .slice none 0 0]⟩),
  (72, ⟨1, 16, .iface, [.nilIface]⟩),
  (46, ⟨2, 24, .struct [(0, 9), (1, 4)], [.string ⟨#[]⟩, .bool false]⟩),
  (94, ⟨1, 24, .slice 29, [.slice none 0 0]⟩),
  (101, ⟨2, 16, .struct [(0, 22), (1, 24)], [.nilFunc, .int .i64 0]⟩),
  (103, ⟨1, 24, .slice 101, [.slice none 0 0]⟩)]

theorem tab_ok : ∀ t i, (t, i) ∈ tab → TabOK Tryz.prog t i := by
  intro t i h
  simp only [tab, List.mem_cons, Prod.mk.injEq, List.not_mem_nil, or_false] at h
  rcases h with ⟨rfl, rfl⟩ | ⟨rfl, rfl⟩ | ⟨rfl, rfl⟩ | ⟨rfl, rfl⟩ | ⟨rfl, rfl⟩ | ⟨rfl, rfl⟩ | ⟨rfl, rfl⟩ | ⟨rfl, rfl⟩ | ⟨rfl, rfl⟩ | ⟨rfl, rfl⟩ | ⟨rfl, rfl⟩ | ⟨rfl, rfl⟩ | ⟨rfl, rfl⟩ | ⟨rfl, rfl⟩ | ⟨rfl, rfl⟩ | ⟨rfl, rfl⟩ | ⟨rfl, rfl⟩ | ⟨rfl, rfl⟩ | ⟨rfl, rfl⟩ | ⟨rfl, rfl⟩
  all_goals exact ⟨by kernel_rfl, by kernel_rfl, rfl⟩

noncomputable def C : Ctx := ⟨Tryz.prog, tab, tab_ok, tabJ, 6, rfl, 70, 5, tabJ_stable, [], ⟨[], [], false, []⟩⟩

end Qv
end

section
/- The contracts of the library that are used, laid at this program by the kit's own tool. No condition. -/
namespace Go.Proofs
open Go.Shelf
def Tryz.lays169_ren : Go.Shelf.Ren := ⟨fun | 169 => 28 | n => n, fun | 70 => 67 | 9 => 9 | 0 => 0 | 72 => 70 | 37 => 68 | 127 => 98 | 3 => 3 | 5 => 5 | n => n, fun | n => n⟩
theorem Tryz.lays169 : Go.Proofs.Lays.n169 Tryz.prog Tryz.lays169_ren := {
  mixed := by kernel_rfl
  f169 := Tryz.func28.trans (congrArg some (by kernel_rfl))
  t0 := Tryz.underlying0
  a0 := Tryz.isAgg0
  z0 := Tryz.sizeOf0
  v0 := Tryz.zeroValue0
  t3 := Tryz.underlying3
  a3 := Tryz.isAgg3
  z3 := Tryz.sizeOf3
  v3 := Tryz.zeroValue3
  t9 := Tryz.underlying9
  a9 := Tryz.isAgg9
  z9 := Tryz.sizeOf9
  v9 := Tryz.zeroValue9
  t37 := Tryz.underlying68
  a37 := Tryz.isAgg68
  z37 := Tryz.sizeOf68
  v37 := Tryz.zeroValue68
  t70 := Tryz.underlying67
  a70 := Tryz.isAgg67
  z70 := Tryz.sizeOf67
  v70 := Tryz.zeroValue67
  t72 := Tryz.underlying70
  a72 := Tryz.isAgg70
  z72 := Tryz.sizeOf70
  v72 := Tryz.zeroValue70
  t127 := Tryz.underlying98
  a127 := Tryz.isAgg98
  z127 := Tryz.sizeOf98
  v127 := Tryz.zeroValue98 }
theorem Tryz.Builder_Extra_169 : Builder.Extra Tryz.prog Tryz.lays169_ren := {
  sizeBuilder := by kernel_rfl
  liesBuilder := by kernel_rfl
  t5 := Tryz.underlying5
  a5 := Tryz.isAgg5
  z5 := Tryz.sizeOf5
  v5 := Tryz.zeroValue5
  infoByte := by kernel_rfl
  cellsByte := by kernel_rfl
  sizeByte := by kernel_rfl
  neB5 := by decide }
def Tryz.lays103_ren : Go.Shelf.Ren := ⟨fun | 103 => 34 | 210 => 53 | 206 => 56 | n => n, fun | 9 => 9 | 4 => 4 | 24 => 84 | 3 => 3 | n => n, fun | n => n⟩
theorem Tryz.lays103 : Go.Proofs.Lays.n103 Tryz.prog Tryz.lays103_ren := {
  mixed := by kernel_rfl
  f103 := Tryz.func34.trans (congrArg some (by kernel_rfl))
  f206 := Tryz.func56.trans (congrArg some (by kernel_rfl))
  f210 := Tryz.func53.trans (congrArg some (by kernel_rfl))
  t3 := Tryz.underlying3
  a3 := Tryz.isAgg3
  z3 := Tryz.sizeOf3
  v3 := Tryz.zeroValue3
  t4 := Tryz.underlying4
  a4 := Tryz.isAgg4
  z4 := Tryz.sizeOf4
  v4 := Tryz.zeroValue4
  t9 := Tryz.underlying9
  a9 := Tryz.isAgg9
  z9 := Tryz.sizeOf9
  v9 := Tryz.zeroValue9
  t24 := Tryz.underlying84
  a24 := Tryz.isAgg84
  z24 := Tryz.sizeOf84
  v24 := Tryz.zeroValue84 }
open Go.RowKit in
theorem Tryz.strings_CutPrefix (s p : ByteArray) (w : World) :
    Calls Tryz.prog 34 #[.string s, .string p] w fun e w' => e = .returned (.tuple #[.string ⟨(Lib.trimPrefix s.data.toList p.data.toList).toArray⟩, .bool (Lib.hasPrefix s.data.toList p.data.toList)]) ∧ w' = w := Any.strings_CutPrefix Tryz.lays103 s p w
def Tryz.lays104_ren : Go.Shelf.Ren := ⟨fun | 104 => 35 | 211 => 54 | 207 => 68 | n => n, fun | 9 => 9 | 4 => 4 | 24 => 84 | 3 => 3 | n => n, fun | n => n⟩
theorem Tryz.lays104 : Go.Proofs.Lays.n104 Tryz.prog Tryz.lays104_ren := {
  mixed := by kernel_rfl
  f104 := Tryz.func35.trans (congrArg some (by kernel_rfl))
  f207 := Tryz.func68.trans (congrArg some (by kernel_rfl))
  f211 := Tryz.func54.trans (congrArg some (by kernel_rfl))
  t3 := Tryz.underlying3
  a3 := Tryz.isAgg3
  z3 := Tryz.sizeOf3
  v3 := Tryz.zeroValue3
  t4 := Tryz.underlying4
  a4 := Tryz.isAgg4
  z4 := Tryz.sizeOf4
  v4 := Tryz.zeroValue4
  t9 := Tryz.underlying9
  a9 := Tryz.isAgg9
  z9 := Tryz.sizeOf9
  v9 := Tryz.zeroValue9
  t24 := Tryz.underlying84
  a24 := Tryz.isAgg84
  z24 := Tryz.sizeOf84
  v24 := Tryz.zeroValue84 }
open Go.RowKit in
theorem Tryz.strings_CutSuffix (s p : ByteArray) (w : World) (hs : s.size ≤ 9223372036854775807) :
    Calls Tryz.prog 35 #[.string s, .string p] w fun e w' => e = .returned (.tuple #[.string ⟨(Lib.trimSuffix s.data.toList p.data.toList).toArray⟩, .bool (Lib.hasSuffix s.data.toList p.data.toList)]) ∧ w' = w := Any.strings_CutSuffix Tryz.lays104 s p w hs
def Tryz.laysM171_ren : Go.Shelf.Ren := ⟨fun | 171 => 49 | 243 => 66 | 246 => 70 | 283 => 77 | 284 => 78 | 285 => 79 | 286 => 80 | 129 => 89 | 317 => 88 | 318 => 90 | 319 => 91 | 320 => 92 | 337 => 96 | 338 => 97 | n => n, fun | 3 => 3 | 9 => 9 | 2 => 2 | 4 => 4 | 171 => 113 | 0 => 0 | 53 => 114 | 37 => 68 | 5 => 5 | 173 => 117 | 212 => 129 | 51 => 119 | 20 => 20 | 213 => 130 | 46 => 111 | 232 => 143 | 233 => 144 | n => n, fun | 17 => 1 | 18 => 4 | 19 => 5 | n => n⟩
theorem Tryz.laysM171 : Go.Proofs.LaysM.n171 Tryz.prog Tryz.laysM171_ren := {
  mixed := by kernel_rfl
  f129 := Tryz.func89.trans (congrArg some (by kernel_rfl))
  f171 := Tryz.func49.trans (congrArg some (by kernel_rfl))
  f243 := Tryz.func66.trans (congrArg some (by kernel_rfl))
  f246 := Tryz.func70.trans (congrArg some (by kernel_rfl))
  f283 := Tryz.func77.trans (congrArg some (by kernel_rfl))
  f284 := Tryz.func78.trans (congrArg some (by kernel_rfl))
  f285 := Tryz.func79.trans (congrArg some (by kernel_rfl))
  f286 := Tryz.func80.trans (congrArg some (by kernel_rfl))
  f317 := Tryz.func88.trans (congrArg some (by kernel_rfl))
  f318 := Tryz.func90.trans (congrArg some (by kernel_rfl))
  f319 := Tryz.func91.trans (congrArg some (by kernel_rfl))
  f320 := Tryz.func92.trans (congrArg some (by kernel_rfl))
  f337 := Tryz.func96.trans (congrArg some (by kernel_rfl))
  f338 := Tryz.func97.trans (congrArg some (by kernel_rfl))
  t0 := Tryz.underlying0
  a0 := Tryz.isAgg0
  z0 := Tryz.sizeOf0
  v0 := Tryz.zeroValue0
  t2 := Tryz.underlying2
  a2 := Tryz.isAgg2
  z2 := Tryz.sizeOf2
  v2 := Tryz.zeroValue2
  t3 := Tryz.underlying3
  a3 := Tryz.isAgg3
  z3 := Tryz.sizeOf3
  v3 := Tryz.zeroValue3
  t4 := Tryz.underlying4
  a4 := Tryz.isAgg4
  z4 := Tryz.sizeOf4
  v4 := Tryz.zeroValue4
  t5 := Tryz.underlying5
  a5 := Tryz.isAgg5
  z5 := Tryz.sizeOf5
  v5 := Tryz.zeroValue5
  t9 := Tryz.underlying9
  a9 := Tryz.isAgg9
  z9 := Tryz.sizeOf9
  v9 := Tryz.zeroValue9
  t20 := Tryz.underlying20
  a20 := Tryz.isAgg20
  z20 := Tryz.sizeOf20
  v20 := Tryz.zeroValue20
  t37 := Tryz.underlying68
  a37 := Tryz.isAgg68
  z37 := Tryz.sizeOf68
  v37 := Tryz.zeroValue68
  t46 := Tryz.underlying111
  a46 := Tryz.isAgg111
  z46 := Tryz.sizeOf111
  v46 := Tryz.zeroValue111
  t51 := Tryz.underlying119
  a51 := Tryz.isAgg119
  z51 := Tryz.sizeOf119
  v51 := Tryz.zeroValue119
  t53 := Tryz.underlying114
  a53 := Tryz.isAgg114
  z53 := Tryz.sizeOf114
  v53 := Tryz.zeroValue114
  t171 := Tryz.underlying113
  a171 := Tryz.isAgg113
  z171 := Tryz.sizeOf113
  v171 := Tryz.zeroValue113
  t173 := Tryz.underlying117
  a173 := Tryz.isAgg117
  z173 := Tryz.sizeOf117
  v173 := Tryz.zeroValue117
  t212 := Tryz.underlying129
  a212 := Tryz.isAgg129
  z212 := Tryz.sizeOf129
  v212 := Tryz.zeroValue129
  t213 := Tryz.underlying130
  a213 := Tryz.isAgg130
  z213 := Tryz.sizeOf130
  t232 := Tryz.underlying143
  a232 := Tryz.isAgg143
  z232 := Tryz.sizeOf143
  v232 := Tryz.zeroValue143
  t233 := Tryz.underlying144
  a233 := Tryz.isAgg144
  z233 := Tryz.sizeOf144
  v233 := Tryz.zeroValue144
  g17 := by kernel_rfl
  g18 := by kernel_rfl
  g19 := by kernel_rfl
  i0 := by kernel_rfl
  i2 := by kernel_rfl
  i3 := by kernel_rfl
  i4 := by kernel_rfl
  i5 := by kernel_rfl
  i9 := by kernel_rfl
  i20 := by kernel_rfl
  i37 := by kernel_rfl
  i46 := by kernel_rfl
  i51 := by kernel_rfl
  i53 := by kernel_rfl
  i171 := by kernel_rfl
  i173 := by kernel_rfl
  i212 := by kernel_rfl
  i232 := by kernel_rfl
  i233 := by kernel_rfl
  m17 := by kernel_rfl
  m18 := by kernel_rfl
  m19 := by kernel_rfl }
open Go.RowKit Go.Sort Go.Lib in
theorem Tryz.strconv_Itoa (n : Int) (h0 : -9223372036854775808 ≤ n) (h1 : n ≤ 9223372036854775807) (w : World) (htab : Lib.TabIs Tryz.prog w "internal/strconv.uint64pow10" .u64 Lib.pow10Tab) :
    Calls Tryz.prog 49 #[.int .i64 n] w fun e w' => e = .returned (.string ⟨(Lib.itoa n).toArray⟩) ∧ ∃ k os, w' = grow (w.drewN k) os := Any.strconv_Itoa Tryz.laysM171 n h0 h1 w htab
def Tryz.laysC172_ren : Go.Shelf.Ren := ⟨fun | 172 => 69 | 244 => 75 | 245 => 76 | 247 => 83 | 279 => 84 | 280 => 85 | 281 => 86 | 282 => 87 | 287 => 93 | 316 => 94 | 171 => 49 | 205 => 95 | 321 => 98 | 322 => 99 | 243 => 66 | 246 => 70 | 283 => 77 | 284 => 78 | 285 => 79 | 286 => 80 | 129 => 89 | 317 => 88 | 318 => 90 | 319 => 91 | 320 => 92 | 337 => 96 | 338 => 97 | n => n, fun | 9 => 9 | 3 => 3 | 75 => 72 | 76 => 73 | 4 => 4 | 5 => 5 | 167 => 122 | 37 => 68 | 0 => 0 | 85 => 123 | 2 => 2 | 168 => 125 | 53 => 114 | 175 => 132 | 46 => 111 | 210 => 136 | 127 => 98 | 145 => 142 | 143 => 140 | 21 => 21 | 171 => 113 | 173 => 117 | 212 => 129 | 51 => 119 | 20 => 20 | 213 => 130 | 232 => 143 | 233 => 144 | 80 => 77 | n => n, fun | 15 => 2 | 16 => 3 | 17 => 1 | 18 => 4 | 19 => 5 | n => n⟩
theorem Tryz.laysC172 : Go.Proofs.LaysC.n172 Tryz.prog Tryz.laysC172_ren := {
  mixed := by kernel_rfl
  f129 := Tryz.func89.trans (congrArg some (by kernel_rfl))
  f171 := Tryz.func49.trans (congrArg some (by kernel_rfl))
  f172 := Tryz.func69.trans (congrArg some (by kernel_rfl))
  f205 := Tryz.func95.trans (congrArg some (by kernel_rfl))
  f243 := Tryz.func66.trans (congrArg some (by kernel_rfl))
  f244 := Tryz.func75.trans (congrArg some (by kernel_rfl))
  f245 := Tryz.func76.trans (congrArg some (by kernel_rfl))
  f246 := Tryz.func70.trans (congrArg some (by kernel_rfl))
  f247 := Tryz.func83.trans (congrArg some (by kernel_rfl))
  f279 := Tryz.func84.trans (congrArg some (by kernel_rfl))
  f280 := Tryz.func85.trans (congrArg some (by kernel_rfl))
  f281 := Tryz.func86.trans (congrArg some (by kernel_rfl))
  f282 := Tryz.func87.trans (congrArg some (by kernel_rfl))
  f283 := Tryz.func77.trans (congrArg some (by kernel_rfl))
  f284 := Tryz.func78.trans (congrArg some (by kernel_rfl))
  f285 := Tryz.func79.trans (congrArg some (by kernel_rfl))
  f286 := Tryz.func80.trans (congrArg some (by kernel_rfl))
  f287 := Tryz.func93.trans (congrArg some (by kernel_rfl))
  f316 := Tryz.func94.trans (congrArg some (by kernel_rfl))
  f317 := Tryz.func88.trans (congrArg some (by kernel_rfl))
  f318 := Tryz.func90.trans (congrArg some (by kernel_rfl))
  f319 := Tryz.func91.trans (congrArg some (by kernel_rfl))
  f320 := Tryz.func92.trans (congrArg some (by kernel_rfl))
  f321 := Tryz.func98.trans (congrArg some (by kernel_rfl))
  f322 := Tryz.func99.trans (congrArg some (by kernel_rfl))
  f337 := Tryz.func96.trans (congrArg some (by kernel_rfl))
  f338 := Tryz.func97.trans (congrArg some (by kernel_rfl))
  t0 := Tryz.underlying0
  a0 := Tryz.isAgg0
  z0 := Tryz.sizeOf0
  v0 := Tryz.zeroValue0
  t2 := Tryz.underlying2
  a2 := Tryz.isAgg2
  z2 := Tryz.sizeOf2
  v2 := Tryz.zeroValue2
  t3 := Tryz.underlying3
  a3 := Tryz.isAgg3
  z3 := Tryz.sizeOf3
  v3 := Tryz.zeroValue3
  t4 := Tryz.underlying4
  a4 := Tryz.isAgg4
  z4 := Tryz.sizeOf4
  v4 := Tryz.zeroValue4
  t5 := Tryz.underlying5
  a5 := Tryz.isAgg5
  z5 := Tryz.sizeOf5
  v5 := Tryz.zeroValue5
  t9 := Tryz.underlying9
  a9 := Tryz.isAgg9
  z9 := Tryz.sizeOf9
  v9 := Tryz.zeroValue9
  t20 := Tryz.underlying20
  a20 := Tryz.isAgg20
  z20 := Tryz.sizeOf20
  v20 := Tryz.zeroValue20
  t21 := Tryz.underlying21
  a21 := Tryz.isAgg21
  z21 := Tryz.sizeOf21
  v21 := Tryz.zeroValue21
  t37 := Tryz.underlying68
  a37 := Tryz.isAgg68
  z37 := Tryz.sizeOf68
  v37 := Tryz.zeroValue68
  t46 := Tryz.underlying111
  a46 := Tryz.isAgg111
  z46 := Tryz.sizeOf111
  v46 := Tryz.zeroValue111
  t51 := Tryz.underlying119
  a51 := Tryz.isAgg119
  z51 := Tryz.sizeOf119
  v51 := Tryz.zeroValue119
  t53 := Tryz.underlying114
  a53 := Tryz.isAgg114
  z53 := Tryz.sizeOf114
  v53 := Tryz.zeroValue114
  t75 := Tryz.underlying72
  a75 := Tryz.isAgg72
  z75 := Tryz.sizeOf72
  v75 := Tryz.zeroValue72
  t76 := Tryz.underlying73
  a76 := Tryz.isAgg73
  z76 := Tryz.sizeOf73
  v76 := Tryz.zeroValue73
  t85 := Tryz.underlying123
  a85 := Tryz.isAgg123
  z85 := Tryz.sizeOf123
  v85 := Tryz.zeroValue123
  t127 := Tryz.underlying98
  a127 := Tryz.isAgg98
  z127 := Tryz.sizeOf98
  v127 := Tryz.zeroValue98
  t143 := Tryz.underlying140
  a143 := Tryz.isAgg140
  z143 := Tryz.sizeOf140
  v143 := Tryz.zeroValue140
  t145 := Tryz.underlying142
  a145 := Tryz.isAgg142
  z145 := Tryz.sizeOf142
  v145 := Tryz.zeroValue142
  t167 := Tryz.underlying122
  a167 := Tryz.isAgg122
  z167 := Tryz.sizeOf122
  v167 := Tryz.zeroValue122
  t168 := Tryz.underlying125
  a168 := Tryz.isAgg125
  z168 := Tryz.sizeOf125
  v168 := Tryz.zeroValue125
  t171 := Tryz.underlying113
  a171 := Tryz.isAgg113
  z171 := Tryz.sizeOf113
  v171 := Tryz.zeroValue113
  t173 := Tryz.underlying117
  a173 := Tryz.isAgg117
  z173 := Tryz.sizeOf117
  v173 := Tryz.zeroValue117
  t175 := Tryz.underlying132
  a175 := Tryz.isAgg132
  z175 := Tryz.sizeOf132
  v175 := Tryz.zeroValue132
  t210 := Tryz.underlying136
  a210 := Tryz.isAgg136
  z210 := Tryz.sizeOf136
  v210 := Tryz.zeroValue136
  t212 := Tryz.underlying129
  a212 := Tryz.isAgg129
  z212 := Tryz.sizeOf129
  v212 := Tryz.zeroValue129
  t213 := Tryz.underlying130
  a213 := Tryz.isAgg130
  z213 := Tryz.sizeOf130
  t232 := Tryz.underlying143
  a232 := Tryz.isAgg143
  z232 := Tryz.sizeOf143
  v232 := Tryz.zeroValue143
  t233 := Tryz.underlying144
  a233 := Tryz.isAgg144
  z233 := Tryz.sizeOf144
  v233 := Tryz.zeroValue144
  g15 := by kernel_rfl
  g16 := by kernel_rfl
  g17 := by kernel_rfl
  g18 := by kernel_rfl
  g19 := by kernel_rfl
  t80 := Tryz.underlying77
  a80 := Tryz.isAgg77
  z80 := Tryz.sizeOf77
  v80 := Tryz.zeroValue77
  i0 := by kernel_rfl
  i2 := by kernel_rfl
  i3 := by kernel_rfl
  i4 := by kernel_rfl
  i5 := by kernel_rfl
  i9 := by kernel_rfl
  i20 := by kernel_rfl
  i21 := by kernel_rfl
  i37 := by kernel_rfl
  i46 := by kernel_rfl
  i51 := by kernel_rfl
  i53 := by kernel_rfl
  i75 := by kernel_rfl
  i76 := by kernel_rfl
  i80 := by kernel_rfl
  i85 := by kernel_rfl
  i127 := by kernel_rfl
  i143 := by kernel_rfl
  i145 := by kernel_rfl
  i167 := by kernel_rfl
  i168 := by kernel_rfl
  i171 := by kernel_rfl
  i173 := by kernel_rfl
  i175 := by kernel_rfl
  i210 := by kernel_rfl
  i212 := by kernel_rfl
  i232 := by kernel_rfl
  i233 := by kernel_rfl
  m15 := by kernel_rfl
  m16 := by kernel_rfl
  m17 := by kernel_rfl
  m18 := by kernel_rfl
  m19 := by kernel_rfl
  c0 := by kernel_rfl
  c2 := by kernel_rfl
  c3 := by kernel_rfl
  c4 := by kernel_rfl
  c5 := by kernel_rfl
  c9 := by kernel_rfl
  c20 := by kernel_rfl
  c21 := by kernel_rfl
  c37 := by kernel_rfl
  c46 := by kernel_rfl
  c51 := by kernel_rfl
  c53 := by kernel_rfl
  c75 := by kernel_rfl
  c76 := by kernel_rfl
  c80 := by kernel_rfl
  c85 := by kernel_rfl
  c127 := by kernel_rfl
  c143 := by kernel_rfl
  c145 := by kernel_rfl
  c167 := by kernel_rfl
  c168 := by kernel_rfl
  c171 := by kernel_rfl
  c173 := by kernel_rfl
  c175 := by kernel_rfl
  c210 := by kernel_rfl
  c212 := by kernel_rfl
  c213 := by kernel_rfl
  c232 := by kernel_rfl
  c233 := by kernel_rfl }
open Go.RowKit in
theorem Tryz.strconv_Atoi_ok (s : ByteArray) (hmax : s.size ≤ 9223372036854775806) (v : Int) (h : Lib.atoiAll s.data.toList = .ok v) (w : World) :
    Calls Tryz.prog 69 #[.string s] w fun e w' => e = .returned (.tuple #[.int .i64 v, .nilIface]) ∧ (w' = w ∨ ∃ t, w' = Lib.bytesWorld w 5 t) := Any.strconv_Atoi_ok Tryz.laysC172 s hmax v h w
open Go.RowKit in
theorem Tryz.strconv_Atoi_range_var (s : ByteArray) (hlim : s.size ≤ 281474976710656) (h : Lib.atoiAll s.data.toList = .range) (tp : TypeId) (p : Value) (w : World) (hvar : w.var? Tryz.prog "strconv.ErrRange" = some #[.iface tp p]) :
    Calls Tryz.prog 69 #[.string s] w fun e w' => ∃ N, e = .returned (.tuple #[.int .i64 (Lib.atoiSat s.data.toList), .iface 125 (.pointer (some ⟨N, 0, none⟩))]) ∧ w.heap.size ≤ N ∧ w'.heap[N]? = some (.cells #[.string ⟨#[65, 116, 111, 105]⟩, .string s, .iface tp p] 136 (0, 0)) ∧ Below w.heap.size w w' := Any.strconv_Atoi_range_var Tryz.laysC172 s hlim h tp p w hvar
def Tryz.lays144_ren : Go.Shelf.Ren := ⟨fun | 144 => 27 | 143 => 50 | 219 => 67 | 217 => 71 | 225 => 72 | 224 => 73 | 267 => 74 | 266 => 81 | 314 => 82 | n => n, fun | 9 => 9 | 4 => 4 | 3 => 3 | 5 => 5 | 46 => 111 | 146 => 120 | 51 => 119 | n => n, fun | 1 => 0 | n => n⟩
theorem Tryz.lays144 : Go.Proofs.Lays.n144 Tryz.prog Tryz.lays144_ren := {
  mixed := by kernel_rfl
  f143 := Tryz.func50.trans (congrArg some (by kernel_rfl))
  f144 := Tryz.func27.trans (congrArg some (by kernel_rfl))
  f217 := Tryz.func71.trans (congrArg some (by kernel_rfl))
  f219 := Tryz.func67.trans (congrArg some (by kernel_rfl))
  f224 := Tryz.func73.trans (congrArg some (by kernel_rfl))
  f225 := Tryz.func72.trans (congrArg some (by kernel_rfl))
  f266 := Tryz.func81.trans (congrArg some (by kernel_rfl))
  f267 := Tryz.func74.trans (congrArg some (by kernel_rfl))
  f314 := Tryz.func82.trans (congrArg some (by kernel_rfl))
  t3 := Tryz.underlying3
  a3 := Tryz.isAgg3
  z3 := Tryz.sizeOf3
  v3 := Tryz.zeroValue3
  t4 := Tryz.underlying4
  a4 := Tryz.isAgg4
  z4 := Tryz.sizeOf4
  v4 := Tryz.zeroValue4
  t5 := Tryz.underlying5
  a5 := Tryz.isAgg5
  z5 := Tryz.sizeOf5
  v5 := Tryz.zeroValue5
  t9 := Tryz.underlying9
  a9 := Tryz.isAgg9
  z9 := Tryz.sizeOf9
  v9 := Tryz.zeroValue9
  t46 := Tryz.underlying111
  a46 := Tryz.isAgg111
  z46 := Tryz.sizeOf111
  v46 := Tryz.zeroValue111
  t51 := Tryz.underlying119
  a51 := Tryz.isAgg119
  z51 := Tryz.sizeOf119
  v51 := Tryz.zeroValue119
  t146 := Tryz.underlying120
  a146 := Tryz.isAgg120
  z146 := Tryz.sizeOf120
  v146 := Tryz.zeroValue120
  g1 := by kernel_rfl }
open Go.RowKit Go.Lib in
theorem Tryz.strings_Contains_one (s : ByteArray) (c : UInt8) (w : World) :
    Calls Tryz.prog 27 #[.string s, .string ⟨#[c]⟩] w fun e w' => e = .returned (.bool (decide (0 ≤ Lib.indexByte s.data.toList c))) ∧ w' = w := Any.strings_Contains_one Tryz.lays144 s c w
def Tryz.lays145_ren : Go.Shelf.Ren := ⟨fun | 145 => 33 | 220 => 52 | 219 => 67 | 217 => 71 | 225 => 72 | 224 => 73 | 267 => 74 | 266 => 81 | 314 => 82 | n => n, fun | 9 => 9 | 4 => 4 | 59 => 56 | 3 => 3 | 5 => 5 | 46 => 111 | 146 => 120 | 51 => 119 | n => n, fun | 1 => 0 | n => n⟩
theorem Tryz.lays145 : Go.Proofs.Lays.n145 Tryz.prog Tryz.lays145_ren := {
  mixed := by kernel_rfl
  f145 := Tryz.func33.trans (congrArg some (by kernel_rfl))
  f217 := Tryz.func71.trans (congrArg some (by kernel_rfl))
  f219 := Tryz.func67.trans (congrArg some (by kernel_rfl))
  f220 := Tryz.func52.trans (congrArg some (by kernel_rfl))
  f224 := Tryz.func73.trans (congrArg some (by kernel_rfl))
  f225 := Tryz.func72.trans (congrArg some (by kernel_rfl))
  f266 := Tryz.func81.trans (congrArg some (by kernel_rfl))
  f267 := Tryz.func74.trans (congrArg some (by kernel_rfl))
  f314 := Tryz.func82.trans (congrArg some (by kernel_rfl))
  t3 := Tryz.underlying3
  a3 := Tryz.isAgg3
  z3 := Tryz.sizeOf3
  v3 := Tryz.zeroValue3
  t4 := Tryz.underlying4
  a4 := Tryz.isAgg4
  z4 := Tryz.sizeOf4
  v4 := Tryz.zeroValue4
  t5 := Tryz.underlying5
  a5 := Tryz.isAgg5
  z5 := Tryz.sizeOf5
  v5 := Tryz.zeroValue5
  t9 := Tryz.underlying9
  a9 := Tryz.isAgg9
  z9 := Tryz.sizeOf9
  v9 := Tryz.zeroValue9
  t46 := Tryz.underlying111
  a46 := Tryz.isAgg111
  z46 := Tryz.sizeOf111
  v46 := Tryz.zeroValue111
  t51 := Tryz.underlying119
  a51 := Tryz.isAgg119
  z51 := Tryz.sizeOf119
  v51 := Tryz.zeroValue119
  t59 := Tryz.underlying56
  a59 := Tryz.isAgg56
  z59 := Tryz.sizeOf56
  v59 := Tryz.zeroValue56
  t146 := Tryz.underlying120
  a146 := Tryz.isAgg120
  z146 := Tryz.sizeOf120
  v146 := Tryz.zeroValue120
  g1 := by kernel_rfl }
open Go.RowKit Go.Lib in
theorem Tryz.strings_Cut (s sep : ByteArray) (m : Int) (w : World) (hs : s.size < 4294967281) (hm : w.cell? ⟨0, 0, none⟩ = some (.int .i64 m)) :
    Calls Tryz.prog 33 #[.string s, .string sep] w fun e w' => e = .returned (.tuple #[.string ⟨(Lib.cut s.data.toList sep.data.toList).1.toArray⟩, .string ⟨(Lib.cut s.data.toList sep.data.toList).2.1.toArray⟩, .bool (Lib.cut s.data.toList sep.data.toList).2.2]) ∧ ∃ n, w' = w.drewN n := Any.strings_Cut Tryz.lays145 s sep m w hs hm
def Tryz.lays99_ren : Go.Shelf.Ren := ⟨fun | 99 => 37 | 206 => 56 | n => n, fun | 9 => 9 | 4 => 4 | 3 => 3 | n => n, fun | n => n⟩
theorem Tryz.lays99 : Go.Proofs.Lays.n99 Tryz.prog Tryz.lays99_ren := {
  mixed := by kernel_rfl
  f99 := Tryz.func37.trans (congrArg some (by kernel_rfl))
  f206 := Tryz.func56.trans (congrArg some (by kernel_rfl))
  t3 := Tryz.underlying3
  a3 := Tryz.isAgg3
  z3 := Tryz.sizeOf3
  v3 := Tryz.zeroValue3
  t4 := Tryz.underlying4
  a4 := Tryz.isAgg4
  z4 := Tryz.sizeOf4
  v4 := Tryz.zeroValue4
  t9 := Tryz.underlying9
  a9 := Tryz.isAgg9
  z9 := Tryz.sizeOf9
  v9 := Tryz.zeroValue9 }
open Go.RowKit Go.Lib in
theorem Tryz.strings_HasPrefix (s p : ByteArray) (w : World) :
    Calls Tryz.prog 37 #[.string s, .string p] w fun e w' => e = .returned (.bool (Lib.hasPrefix s.data.toList p.data.toList)) ∧ w' = w := Any.strings_HasPrefix Tryz.lays99 s p w
end Go.Proofs
end

section
namespace Go.Proofs
open Go.Shelf
def Tryz.lays166_ren : Go.Shelf.Ren := ⟨fun | 166 => 25 | 240 => 48 | 276 => 65 | n => n, fun | 0 => 0 | 3 => 3 | 4 => 4 | 5 => 5 | 9 => 9 | 20 => 20 | 37 => 68 | 70 => 67 | 72 => 70 | 75 => 72 | 76 => 73 | 80 => 77 | 164 => 106 | n => n, fun | n => n⟩
theorem Tryz.lays166 : Go.Proofs.Lays.n166 Tryz.prog Tryz.lays166_ren := {
  mixed := by kernel_rfl
  f166 := Tryz.func25.trans (congrArg some (by kernel_rfl))
  f240 := Tryz.func48.trans (congrArg some (by kernel_rfl))
  f276 := Tryz.func65.trans (congrArg some (by kernel_rfl))
  t0 := Tryz.underlying0
  a0 := Tryz.isAgg0
  z0 := Tryz.sizeOf0
  v0 := Tryz.zeroValue0
  t3 := Tryz.underlying3
  a3 := Tryz.isAgg3
  z3 := Tryz.sizeOf3
  v3 := Tryz.zeroValue3
  t4 := Tryz.underlying4
  a4 := Tryz.isAgg4
  z4 := Tryz.sizeOf4
  v4 := Tryz.zeroValue4
  t9 := Tryz.underlying9
  a9 := Tryz.isAgg9
  z9 := Tryz.sizeOf9
  v9 := Tryz.zeroValue9
  t20 := Tryz.underlying20
  a20 := Tryz.isAgg20
  z20 := Tryz.sizeOf20
  v20 := Tryz.zeroValue20
  t37 := Tryz.underlying68
  a37 := Tryz.isAgg68
  z37 := Tryz.sizeOf68
  v37 := Tryz.zeroValue68
  t70 := Tryz.underlying67
  a70 := Tryz.isAgg67
  z70 := Tryz.sizeOf67
  v70 := Tryz.zeroValue67
  t72 := Tryz.underlying70
  a72 := Tryz.isAgg70
  z72 := Tryz.sizeOf70
  v72 := Tryz.zeroValue70
  t75 := Tryz.underlying72
  a75 := Tryz.isAgg72
  z75 := Tryz.sizeOf72
  v75 := Tryz.zeroValue72
  t164 := Tryz.underlying106
  a164 := Tryz.isAgg106
  z164 := Tryz.sizeOf106
  v164 := Tryz.zeroValue106 }
theorem Tryz.Builder_Extra_166 : Builder.Extra Tryz.prog Tryz.lays166_ren := {
  sizeBuilder := by kernel_rfl
  liesBuilder := by kernel_rfl
  t5 := Tryz.underlying5
  a5 := Tryz.isAgg5
  z5 := Tryz.sizeOf5
  v5 := Tryz.zeroValue5
  infoByte := by kernel_rfl
  cellsByte := by kernel_rfl
  sizeByte := by kernel_rfl
  neB5 := by decide }
end Go.Proofs
end

section
/- The library's functions of the Unified seat, as contracts. No condition. -/
set_option linter.unusedVariables false
open Go Go.Proofs Go.RowKit Go.Sort
namespace Qv

theorem below_grown' (w : World) (k : Nat) (os : Array Obj) : Below w.heap.size w (grow (w.drewN k) os) :=
  ⟨rfl, rfl, rfl, by simp [grow], fun i hi => by
    show (w.heap ++ os)[i]? = w.heap[i]?
    rw [Array.getElem?_append_left hi]⟩

theorem itoa_ok (n : Int) (h0 : -9223372036854775808 ≤ n) (h1 : n ≤ 9223372036854775807) : CallsTo C 49 [.int .i64 n] (fun r => r = .val (.str (Lib.itoa n))) := by
  refine ⟨⟨_, Tryz.func49, rfl, rfl⟩, fun imm w vs hJ hn hi hl hr => ?_⟩
  match vs, hl with
  | [v0], _ =>
  have h := hr 0 v0 _ rfl rfl
  obtain rfl : v0 = .int .i64 n := by cases h; rfl
  refine (Tryz.strconv_Itoa n h0 h1 w hJ).mono ?_
  rintro e w' ⟨rfl, k, os, rfl⟩
  exact ⟨_, _, rfl, rfl, .str _, below_grown' w k os⟩

theorem contains1_ok (s : Bytes) (c : UInt8) : CallsTo C 27 [.str s, .str [c]] (fun r => r = .val (.bool (decide (0 ≤ Lib.indexByte s c)))) := by
  refine ⟨⟨_, Tryz.func27, rfl, rfl⟩, fun imm w vs hJ hn hi hl hr => ?_⟩
  match vs, hl with
  | [v0, v1], _ =>
  have h := hr 0 v0 _ rfl rfl
  have h' := hr 1 v1 _ rfl rfl
  obtain rfl : v0 = .string ⟨s.toArray⟩ := by cases h; rfl
  obtain rfl : v1 = .string ⟨#[c]⟩ := by cases h'; rfl
  refine (Tryz.strings_Contains_one ⟨s.toArray⟩ c w).mono ?_
  rintro e w' ⟨rfl, rfl⟩
  exact ⟨_, _, rfl, rfl, .bool _, Below.refl _ _⟩

theorem write_ok {bs s : Bytes} (hlen : bs.length + s.length ≤ 140737488355328) : BldTo C 25 [.str s] bs (some (bs ++ s)) (.tup [.int .i64 s.length, .nili]) :=
  bldTo_write Tryz.lays166 Tryz.Builder_Extra_166 rfl rfl rfl Tryz.func25 rfl rfl hlen

theorem string_ok {bs : Bytes} : BldTo C 28 [] bs none (.str bs) :=
  bldTo_string Tryz.lays169 Tryz.Builder_Extra_169 rfl rfl rfl Tryz.func28 rfl rfl

end Qv
end
