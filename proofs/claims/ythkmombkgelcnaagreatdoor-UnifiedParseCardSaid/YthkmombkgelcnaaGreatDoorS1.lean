/- Several texts in one: Contracts: equality and size of lists, Contracts: sizes and equality of hunks and blocks, Contracts: checks of hunks, and hunks applied, in the program and in the reference, Contracts: hunks applied, in the program and in the reference, Contracts: hunks applied, in the reference, What the arguments of the Unified laws read as, Contracts: signs of lines counted, in the program and in the reference, Contracts: the check of a block in the program, Contracts: the checks of blocks in the program, Contracts: the checks of blocks in the reference, Contracts: lines with signs; the block of a group in the reference, Contracts: the block of a group in the reference, Contracts: the blocks of hunks in the reference, slices.Grow at a slice of strings without elements and without room, walked. Condition: n strings take at most 2^47 byte, Contracts: slices.Grow and slices.Concat. No condition. -/
import Derived.Test.YthkmombkgelcnaaGreatDoorS0
import Derived.Test.YthkmombkgelcnaaGreatDoorSv3
import Derived.Test.YthkmombkgelcnaaGreatDoorProg
import Derived.WalkKit
import Derived.Lib.Walk
import Derived.Lib.SliceRun
import Derived.Lib.AppendZerosOnto
import Derived.KernelRfl

section
/- Contracts: equality and size of lists. No condition. -/
set_option linter.unusedVariables false
open Go Go.Proofs
namespace Qv

def encBlock (b : Block) : List AV := [.int .i64 b.oldAt, .int .i64 b.oldLen, .int .i64 b.newAt, .int .i64 b.newLen, encS b.lines]
def encBs (l : List Block) : AV := .sl (l.map encBlock)
def encHunk (h : Hunk) : List AV := [.int .i64 h.at_, encS h.old, encS h.new]
def encHs (l : List Hunk) : AV := .sl (l.map encHunk)
def encI (n : Int) : List AV := [.int .i64 n]
def encIs (l : List Int) : AV := .sl (l.map encI)

theorem same_step {α : Type} {a b : List α} {k : Nat} (hl : a.length = b.length) (hk : k < a.length) (he : a.take k = b.take k) (h : a[k] = b[k]) : a.take (k + 1) = b.take (k + 1) := by
  rw [← List.take_append_getElem hk, ← List.take_append_getElem (show k < b.length by omega), he, h]

theorem same_all {α : Type} {a b : List α} {k : Nat} (hl : a.length = b.length) (hk : ¬ k < a.length) (he : a.take k = b.take k) : a = b := by
  rw [List.take_of_length_le (by omega), List.take_of_length_le (by omega)] at he
  exact he

theorem same_ok (a b : List Bytes) (ha : a.length ≤ 2 ^ 40) (hb : b.length ≤ 2 ^ 40) : CallsTo C 11 [encS a, encS b] (fun r => r = .val (.bool (decide (a = b)))) := by
  refine callsTo_of_ev' Tryz.func11 rfl rfl rfl ?_
  refine al_ne (fun h => ?_) (fun h => ?_)
  · have : a ≠ b := fun e => h (by rw [e])
    show Ret.val (.bool false) = _
    simp [this]
  · have hl : a.length = b.length := by
      simp only [List.length_map] at h; omega
    refine loopR 26 (fun k : Nat => [(0, .p (encS a)), (1, .p (encS b)), (5, .p (.int .i64 k))]) (fun _ => []) (fun k => k ≤ a.length ∧ a.take k = b.take k) (fun k => a.length - k) 0 ⟨Nat.zero_le _, rfl⟩ rfl ⟨Weak.refl _, Weak.refl _, Weak.refl _, trivial⟩ trivial ?_
    rintro k ⟨hk, he⟩
    refine al_lt (fun hlt => ?_) (fun hge => ?_)
    · have hlb : k < b.length := by omega
      refine ⟨.lex 8, by kernel_rfl, _, rfl, _, rfl, _, ⟨by omega, _, idx_map rfl hlt, rfl, rfl⟩, _, rfl, _, rfl, _, rfl, _, ⟨by omega, _, idx_map rfl hlb, rfl, rfl⟩, _, rfl, ?_⟩
      refine al_nes (fun h => ?_) (fun h => ?_)
      · have : a ≠ b := fun e => by subst e; exact h rfl
        show Ret.val (.bool false) = _
        simp [this]
      · exact ⟨k + 1, wrap64 (by first | omega | (simp only [List.length_map, List.length_append, List.length_cons, List.length_nil] at *; omega)) (by first | omega | (simp only [List.length_map, List.length_append, List.length_cons, List.length_nil] at *; omega)), roundR (k + 1) ⟨hlt, same_step hl hlt he h⟩ (by omega) rfl ⟨Weak.refl _, Weak.refl _, Weak.refl _, trivial⟩ trivial⟩
    · have : a = b := same_all hl hge he
      show Ret.val (.bool true) = _
      simp [this]

theorem sameInts_ok (a b : List Int) (ha : a.length ≤ 2 ^ 40) (hb : b.length ≤ 2 ^ 40) : CallsTo C 12 [encIs a, encIs b] (fun r => r = .val (.bool (decide (a = b)))) := by
  refine callsTo_of_ev' Tryz.func12 rfl rfl rfl ?_
  refine al_ne (fun h => ?_) (fun h => ?_)
  · have : a ≠ b := fun e => h (by rw [e])
    show Ret.val (.bool false) = _
    simp [this]
  · have hl : a.length = b.length := by
      simp only [List.length_map] at h; omega
    refine loopR 26 (fun k : Nat => [(0, .p (encIs a)), (1, .p (encIs b)), (5, .p (.int .i64 k))]) (fun _ => []) (fun k => k ≤ a.length ∧ a.take k = b.take k) (fun k => a.length - k) 0 ⟨Nat.zero_le _, rfl⟩ rfl ⟨Weak.refl _, Weak.refl _, Weak.refl _, trivial⟩ trivial ?_
    rintro k ⟨hk, he⟩
    refine al_lt (fun hlt => ?_) (fun hge => ?_)
    · have hlb : k < b.length := by omega
      refine ⟨.lex 8, by kernel_rfl, _, rfl, _, rfl, _, ⟨by omega, _, idx_map rfl hlt, rfl, rfl⟩, _, rfl, _, rfl, _, rfl, _, ⟨by omega, _, idx_map rfl hlb, rfl, rfl⟩, _, rfl, ?_⟩
      refine al_ne (fun h => ?_) (fun h => ?_)
      · have : a ≠ b := fun e => by subst e; exact h rfl
        show Ret.val (.bool false) = _
        simp [this]
      · exact ⟨k + 1, wrap64 (by first | omega | (simp only [List.length_map, List.length_append, List.length_cons, List.length_nil] at *; omega)) (by first | omega | (simp only [List.length_map, List.length_append, List.length_cons, List.length_nil] at *; omega)), roundR (k + 1) ⟨hlt, same_step hl hlt he h⟩ (by omega) rfl ⟨Weak.refl _, Weak.refl _, Weak.refl _, trivial⟩ trivial⟩
    · have : a = b := same_all hl hge he
      show Ret.val (.bool true) = _
      simp [this]

/-! ### Sizes -/

def sumLen (l : List Bytes) : Nat := (l.map List.length).sum

theorem sumLen_take (l : List Bytes) (k : Nat) (h : k < l.length) : sumLen (l.take (k + 1)) = sumLen (l.take k) + l[k].length := by
  unfold sumLen
  rw [← List.take_append_getElem h, List.map_append, List.sum_append]
  simp

theorem sum_take_le {α : Type} (f : α → Nat) (l : List α) (k : Nat) : ((l.take k).map f).sum ≤ (l.map f).sum := by
  have := congrArg (fun x => (x.map f).sum) (List.take_append_drop k l)
  simp only [List.map_append, List.sum_append] at this
  omega

def greatS (l : List Bytes) : Bool := decide (40 < l.length) || decide (3000 < sumLen l)

/-- What a row's own reach gives of a list of lines. -/
structure SzS (a : List Bytes) : Prop where
  len : a.length ≤ 2 ^ 47
  each : ∀ s, s ∈ a → s.length ≤ 2 ^ 47

theorem sum_each {α : Type} (f : α → Nat) (m : Nat) : ∀ (l : List α), (∀ x, x ∈ l → f x ≤ m) → (l.map f).sum ≤ l.length * m
  | [], _ => by simp
  | x :: l, h => by
    have h1 := h x (by simp)
    have h2 := sum_each f m l fun y hy => h y (by simp [hy])
    simp only [List.map_cons, List.sum_cons, List.length_cons, Nat.add_mul, Nat.one_mul]
    omega

theorem wrap_add (x y : Int) : IntKind.i64.wrap (IntKind.i64.wrap x + y) = IntKind.i64.wrap (x + y) := by
  simp only [IntKind.wrap, IntKind.bits, IntKind.signed]
  simp
  split <;> split <;> omega

end Qv
end

section
/- Contracts: sizes and equality of hunks and blocks. No condition. -/
set_option linter.unusedVariables false
set_option linter.unusedSimpArgs false
open Go Go.Proofs
namespace Qv

theorem Weak.int {k : IntKind} {a b : Int} (h : a = b) : Weak (.p (.int k a)) (.p (.int k b)) := h ▸ Weak.refl _

theorem CallsTo.bool {C : Ctx} {f : FuncId} {args : List AV} {b : Bool} (h : CallsTo C f args fun r => r = .val (.bool b)) : CallsTo C f args fun r => ∃ t : Bool, t = b ∧ r = .val (.bool t) :=
  h.mono fun r hr => ⟨b, rfl, hr⟩

theorem sum_take {α : Type} (f : α → Nat) (l : List α) (k : Nat) (h : k < l.length) : ((l.take (k + 1)).map f).sum = ((l.take k).map f).sum + f l[k] := by
  rw [← List.take_append_getElem h, List.map_append, List.sum_append]
  simp

theorem any_take {α : Type} (p : α → Bool) (l : List α) (k : Nat) (h : k < l.length) : (l.take (k + 1)).any p = ((l.take k).any p || p l[k]) := by
  rw [← List.take_append_getElem h, List.any_append]
  simp

theorem any_at {α : Type} (p : α → Bool) (l : List α) (k : Nat) (h : k < l.length) (hp : p l[k] = true) : l.any p = true :=
  List.any_eq_true.2 ⟨_, List.getElem_mem h, hp⟩

/-! ### Hunks -/

def hLen (h : Hunk) : Nat := h.old.length + h.new.length
def hSum (l : List Hunk) : Nat := (l.map hLen).sum
def greatH1 (h : Hunk) : Bool := greatS h.old || greatS h.new
def greatHs (l : List Hunk) : Bool := l.any greatH1 || (decide (12 < l.length) || decide (40 < hSum l))

/-- Small enough for sums. -/
structure TinyS (a : List Bytes) : Prop where
  len : a.length ≤ 2 ^ 40
  sum : sumLen a ≤ 2 ^ 40
structure TinyH (l : List Hunk) : Prop where
  len : l.length ≤ 2 ^ 40
  sum : hSum l ≤ 2 ^ 40
  each : ∀ h, h ∈ l → TinyS h.old ∧ TinyS h.new

/-- What a row's own reach gives of hunks. -/
structure SzH (l : List Hunk) : Prop where
  len : l.length ≤ 2 ^ 47
  each : ∀ h, h ∈ l → SzS h.old ∧ SzS h.new

theorem hSum_small {l : List Hunk} (h : l.any greatH1 = false) : hSum l ≤ l.length * 80 := by
  refine sum_each hLen 80 l fun x hx => ?_
  have := List.any_eq_false.1 h x hx
  simp only [greatH1, greatS, Bool.or_eq_true, decide_eq_true_eq, not_or] at this
  unfold hLen
  omega

theorem greatS_no {a : List Bytes} (h : greatS a = false) : TinyS a := by
  simp only [greatS, Bool.or_eq_false_iff, decide_eq_false_iff_not] at h
  exact ⟨by omega, by omega⟩

theorem great_tiny {a : List Bytes} {l : List Hunk} (h : (greatS a || greatHs l) = false) : TinyS a ∧ TinyH l := by
  obtain ⟨h1, h2⟩ := Bool.or_eq_false_iff.1 h
  refine ⟨greatS_no h1, ?_⟩
  simp only [greatHs, Bool.or_eq_false_iff, decide_eq_false_iff_not] at h2
  refine ⟨by omega, by omega, fun x hx => ?_⟩
  have := List.any_eq_false.1 h2.1 x hx
  simp only [greatH1, Bool.or_eq_true, not_or, Bool.not_eq_true] at this
  exact ⟨greatS_no this.1, greatS_no this.2⟩

/-! ### Checks of hunks -/

theorem end_ok (h : Hunk) (h1 : 0 ≤ h.at_) (h2 : h.at_ ≤ 2 ^ 41) (h3 : h.old.length ≤ 2 ^ 40) : CallsTo C 44 [.agg (encHunk h)] (fun r => r = .val (.int .i64 (h.at_ + h.old.length))) := by
  refine callsTo_of_ev' Tryz.func44 rfl rfl rfl ?_
  refine ⟨h.at_ + h.old.length, ?_, rfl⟩
  simp only [List.length_map]
  exact wrap64 (by omega) (by omega)

/-- The end of the hunk before. -/
def hEnd (l : List Hunk) (k : Nat) : Int := match l[k - 1]? with
  | none => -1
  | some h => if k = 0 then -1 else h.at_ + h.old.length

theorem hEnd_zero (l : List Hunk) : hEnd l 0 = -1 := by
  unfold hEnd; split <;> simp

theorem hEnd_succ (l : List Hunk) (k : Nat) (h : k < l.length) : hEnd l (k + 1) = l[k].at_ + l[k].old.length := by
  unfold hEnd
  simp [h]

theorem hcheck_step (l : List Hunk) (k : Nat) (h : k < l.length) : hcheckF (hEnd l k) (l.drop k) = if inR l[k].at_ = false then 2 else if l[k].old.length + l[k].new.length = 0 then 1 else if l[k].at_ ≤ hEnd l k then 9 else hcheckF (hEnd l (k + 1)) (l.drop (k + 1)) := by
  rw [List.drop_eq_getElem_cons h, hcheckF, hEnd_succ l k h]

theorem inR_true {n : Int} (h1 : 0 ≤ n) (h2 : n ≤ 1099511627776) : inR n = true := by simp [inR, h1, h2]
theorem inR_iff {n : Int} : inR n = true ↔ 0 ≤ n ∧ n ≤ 1099511627776 := by simp [inR]
theorem inR_lo {n : Int} (h1 : n < 0) : inR n = false := by simp [inR]; omega
theorem inR_hi {n : Int} (h1 : 1099511627776 < n) : inR n = false := by simp [inR]; omega

end Qv
end

section
/- Contracts: checks of hunks, and hunks applied, in the program and in the reference. No condition. -/
set_option linter.unusedVariables false
set_option linter.unusedSimpArgs false
open Go Go.Proofs
namespace Qv

theorem equal_ok (a b : List Bytes) (ha : a.length ≤ 2 ^ 40) (hb : b.length ≤ 2 ^ 40) : CallsTo C 45 [encS a, encS b] (fun r => r = .val (.bool (decide (a = b)))) := by
  refine callsTo_of_ev' Tryz.func45 rfl rfl rfl ?_
  refine al_ne (fun h => ?_) (fun h => ?_)
  · have : a ≠ b := fun e => h (by rw [e])
    show Ret.val (.bool false) = _
    simp [this]
  · have hl : a.length = b.length := by
      simp only [List.length_map] at h; omega
    refine loopR 26 (fun k : Nat => [(0, .p (encS a)), (1, .p (encS b)), (12, .p (.int .i64 (a.map enc1).length)), (13, .p (.int .i64 k))]) (fun _ => []) (fun k => k ≤ a.length ∧ a.take k = b.take k) (fun k => a.length - k) 0 ⟨Nat.zero_le _, rfl⟩ rfl ⟨Weak.refl _, Weak.refl _, Weak.refl _, Weak.refl _, trivial⟩ trivial ?_
    rintro k ⟨hk, he⟩
    refine al_lt (fun hlt => ?_) (fun hge => ?_)
    · have hlb : k < b.length := by omega
      refine ⟨.lex 8, by kernel_rfl, _, rfl, _, rfl, _, ⟨by omega, _, idx_map rfl hlt, rfl, rfl⟩, _, rfl, _, rfl, _, rfl, _, ⟨by omega, _, idx_map rfl hlb, rfl, rfl⟩, _, rfl, al_nes (fun h => ?_) (fun h => ?_)⟩
      · have : a ≠ b := fun e => by subst e; exact h rfl
        show Ret.val (.bool false) = _
        simp [this]
      · exact ⟨k + 1, wrap64 (by first | omega | (simp only [List.length_map, List.length_append, List.length_cons, List.length_nil] at *; omega)) (by first | omega | (simp only [List.length_map, List.length_append, List.length_cons, List.length_nil] at *; omega)), roundR (k + 1) ⟨hlt, same_step hl hlt he h⟩ (by omega) rfl ⟨Weak.refl _, Weak.refl _, Weak.refl _, Weak.refl _, trivial⟩ trivial⟩
    · have : a = b := same_all hl hge he
      show Ret.val (.bool true) = _
      simp [this]

theorem hCheck_ok (l : List Hunk) (ht : TinyH l) : CallsTo C 43 [encHs l] (fun r => r = .val (.int .i64 (hcheckL l))) := by
  have hlen := ht.len
  refine callsTo_of_ev' Tryz.func43 rfl rfl rfl ?_
  refine loopR 45 (fun k : Nat => [(0, .p (encHs l)), (5, .p (encHs l)), (6, .p (.int .i64 (l.map encHunk).length)), (7, .p (.int .i64 k))]) (fun _ => []) (fun k => k ≤ l.length ∧ hcheckF (hEnd l k) (l.drop k) = hcheckL l ∧ ∀ j (h : j < l.length), j < k → inR l[j].at_ = true) (fun k => l.length - k) 0 ⟨Nat.zero_le _, by rw [hEnd_zero]; rfl, fun j h h' => absurd h' (by omega)⟩ rfl ⟨Weak.refl _, Weak.refl _, Weak.refl _, Weak.refl _, trivial⟩ trivial ?_
  rintro k ⟨hk, he, hr⟩
  refine al_lt (fun hlt => ?_) (fun hge => ?_)
  · obtain ⟨t1, t2⟩ := ht.each _ (List.getElem_mem hlt)
    have q1 := t1.len
    have q2 := t2.len
    rw [hcheck_step l k hlt] at he
    refine ⟨by omega, _, idx_map rfl hlt, rfl, none, al_dec (fun h => ?_) (fun h => al_dec (fun h' => ?_) (fun h' => ?_))⟩
    · show Ret.val (.int .i64 2) = _
      rw [← he, if_pos (inR_lo h)]
    · show Ret.val (.int .i64 2) = _
      rw [← he, if_pos (inR_hi h')]
    · have hin : inR l[k].at_ = true := inR_true (by omega) (by omega)
      rw [if_neg (by rw [hin]; simp)] at he
      refine ⟨_, wrap64 (by first | omega | (simp only [List.length_map, List.length_append, List.length_cons, List.length_nil] at *; omega)) (by first | omega | (simp only [List.length_map, List.length_append, List.length_cons, List.length_nil] at *; omega)), al_eq (fun h2 => ?_) (fun h2 => ?_)⟩
      · have : l[k].old.length + l[k].new.length = 0 := by simp only [List.length_map] at h2; omega
        show Ret.val (.int .i64 1) = _
        rw [← he, if_pos this]
      · have : ¬ l[k].old.length + l[k].new.length = 0 := by simp only [List.length_map] at h2; omega
        rw [if_neg this] at he
        have hr' : ∀ j (h : j < l.length), j < k + 1 → inR l[j].at_ = true := fun j hj hjk => by
          by_cases hjk' : j < k
          · exact hr j hj hjk'
          · obtain rfl : j = k := by omega
            exact hin
        by_cases hz : k = 0
        · subst hz
          have h3 : ¬ l[0].at_ ≤ hEnd l 0 := by rw [hEnd_zero]; omega
          rw [if_neg h3] at he
          exact ⟨.lex 11, by kernel_rfl, _, rfl, .p (.bool false), ⟨fun t ht => by rw [ht]; rfl⟩, _, rfl, 1, wrap64 (by first | omega | (simp only [List.length_map, List.length_append, List.length_cons, List.length_nil] at *; omega)) (by first | omega | (simp only [List.length_map, List.length_append, List.length_cons, List.length_nil] at *; omega)), roundR 1 ⟨hlt, he, hr'⟩ (by omega) rfl ⟨Weak.refl _, Weak.refl _, Weak.refl _, Weak.refl _, trivial⟩ trivial⟩
        · have hk1 : k - 1 < l.length := by omega
          have hpos : (k : Int) > 0 := by omega
          obtain ⟨p1, p2⟩ := inR_iff.1 (hr (k - 1) hk1 (by omega))
          have hend : hEnd l k = l[k - 1].at_ + l[k - 1].old.length := by
            have := hEnd_succ l (k - 1) hk1
            rw [show k - 1 + 1 = k by omega] at this
            exact this
          have q3 := (ht.each _ (List.getElem_mem hk1)).1.len
          refine ⟨.lex 11, by kernel_rfl, _, rfl, .p (.bool true), ⟨fun t ht => by rw [ht, decide_eq_true hpos]⟩, _, rfl, _, rfl, _, rfl, _, rfl, _, rfl, _, ⟨((k - 1 : Nat) : Int), by rw [wrap64 (by omega) (by omega)]; omega, rfl⟩, _, ⟨by omega, _, idx_map rfl hk1, rfl, rfl⟩, _, rfl, .p (.int .i64 (l[k - 1].at_ + l[k - 1].old.length)), ⟨_, end_ok _ p1 (by omega) q3, fun r hr => by subst hr; rfl⟩, ⟨dc (fun h3 => ?_) (fun h3 => ?_)⟩⟩
          · rw [← hend] at h3
            show Ret.val (.int .i64 9) = _
            rw [← he, if_pos h3]
          · rw [← hend] at h3
            rw [if_neg h3] at he
            exact ⟨k + 1, wrap64 (by first | omega | (simp only [List.length_map, List.length_append, List.length_cons, List.length_nil] at *; omega)) (by first | omega | (simp only [List.length_map, List.length_append, List.length_cons, List.length_nil] at *; omega)), roundR (k + 1) ⟨hlt, he, hr'⟩ (by omega) rfl ⟨Weak.refl _, Weak.refl _, Weak.refl _, Weak.refl _, trivial⟩ trivial⟩
  · obtain rfl : k = l.length := by omega
    rw [List.drop_length] at he
    show Ret.val (.int .i64 0) = _
    rw [← he]; rfl

end Qv
end

section
/- Contracts: hunks applied, in the program and in the reference. No condition. -/
set_option linter.unusedVariables false
set_option linter.unusedSimpArgs false
open Go Go.Proofs
namespace Qv

theorem seg_map {α β : Type} (f : α → β) (l : List α) (i j : Nat) : ((l.map f).take j).drop i = (seg l i j).map f := by
  simp [seg, List.map_drop, List.map_take]

theorem drop_map {α β : Type} (f : α → β) (l : List α) (i : Nat) : ((l.map f).take (l.map f).length).drop i = (l.drop i).map f := by
  rw [List.take_of_length_le (Nat.le_refl _), List.map_drop]

/-- What is done already ahead of what is to come. -/
def preS (o : List Bytes) : Sum Int (List Bytes) → Sum Int (List Bytes)
  | .inl e => .inl e
  | .inr m => .inr (o ++ m)

theorem happly_step (a : List Bytes) (l : List Hunk) (k pos : Nat) (h : k < l.length) : happlyF a pos (l.drop k) =
    if a.length < l[k].at_.toNat + l[k].old.length then .inl 2
    else if seg a l[k].at_.toNat (l[k].at_.toNat + l[k].old.length) = l[k].old then preS (seg a pos l[k].at_.toNat ++ l[k].new) (happlyF a (l[k].at_.toNat + l[k].old.length) (l.drop (k + 1)))
    else .inl 15 := by
  rw [List.drop_eq_getElem_cons h, happlyF]
  split
  · rfl
  · split
    · cases happlyF a (l[k].at_.toNat + l[k].old.length) (l.drop (k + 1)) <;> rfl
    · rfl

theorem preS_preS (o o' : List Bytes) (r : Sum Int (List Bytes)) : preS o (preS o' r) = preS (o ++ o') r := by
  cases r <;> simp [preS]

theorem newSum_take (l : List Hunk) (k : Nat) (h : k < l.length) : hSum (l.take (k + 1)) = hSum (l.take k) + (l[k].old.length + l[k].new.length) := sum_take hLen l k h

/-- The state of the loop: how many hunks are done, what has come out, where the lines stand. -/
structure HInv (a : List Bytes) (l : List Hunk) (k : Nat) (o : List Bytes) (pos : Nat) : Prop where
  le : k ≤ l.length
  eq : preS o (happlyF a pos (l.drop k)) = happlyF a 0 l
  chk : hcheckF (hEnd l k) (l.drop k) = 0
  pos_ : pos = (hEnd l k).toNat
  posle : pos ≤ a.length
  len : o.length ≤ pos + hSum (l.take k)

theorem HInv.zero {a : List Bytes} {l : List Hunk} (h : hcheckL l = 0) : HInv a l 0 [] 0 :=
  ⟨Nat.zero_le _, by cases hq : happlyF a 0 l <;> simp [preS, hq], by rw [hEnd_zero]; exact h, by rw [hEnd_zero]; rfl, Nat.zero_le _, Nat.zero_le _⟩

theorem HInv.facts {a : List Bytes} {l : List Hunk} {k : Nat} {o : List Bytes} {pos : Nat} (h : HInv a l k o pos) (hk : k < l.length) : (∃ p : Nat, l[k].at_ = p ∧ pos ≤ p ∧ p ≤ 1099511627776) ∧ hcheckF (hEnd l (k + 1)) (l.drop (k + 1)) = 0 := by
  have hc := h.chk
  rw [hcheck_step l k hk] at hc
  split at hc
  · cases hc
  · rename_i h1
    split at hc
    · cases hc
    · split at hc
      · cases hc
      · rename_i h3
        have h4 := inR_iff.1 (by simpa using h1)
        exact ⟨⟨l[k].at_.toNat, by omega, by have := h.pos_; omega, by omega⟩, hc⟩

theorem HInv.next {a : List Bytes} {l : List Hunk} {k : Nat} {o : List Bytes} {pos p : Nat} (h : HInv a l k o pos) (hk : k < l.length) (hp : l[k].at_ = p) (hpos : pos ≤ p) (h1 : p + l[k].old.length ≤ a.length) (h2 : seg a p (p + l[k].old.length) = l[k].old) (hc : hcheckF (hEnd l (k + 1)) (l.drop (k + 1)) = 0) :
    HInv a l (k + 1) (o ++ seg a pos p ++ l[k].new) (p + l[k].old.length) := by
  have hpp : l[k].at_.toNat = p := by omega
  have he := h.eq
  rw [happly_step a l k pos hk, hpp, if_neg (by omega), if_pos h2, preS_preS, ← List.append_assoc] at he
  refine ⟨hk, he, hc, by rw [hEnd_succ l k hk]; omega, h1, ?_⟩
  have := h.len
  rw [newSum_take l k hk]
  simp only [List.length_append, seg_length a pos p (by omega)]
  omega

theorem HInv.bad2 {a : List Bytes} {l : List Hunk} {k : Nat} {o : List Bytes} {pos : Nat} (h : HInv a l k o pos) (hk : k < l.length) (h1 : a.length < l[k].at_.toNat + l[k].old.length) : happlyF a 0 l = .inl 2 := by
  have he := h.eq
  rw [happly_step a l k pos hk, if_pos h1] at he
  exact he.symm

theorem HInv.bad15 {a : List Bytes} {l : List Hunk} {k : Nat} {o : List Bytes} {pos : Nat} (h : HInv a l k o pos) (hk : k < l.length) (h1 : ¬ a.length < l[k].at_.toNat + l[k].old.length) (h2 : ¬ seg a l[k].at_.toNat (l[k].at_.toNat + l[k].old.length) = l[k].old) : happlyF a 0 l = .inl 15 := by
  have he := h.eq
  rw [happly_step a l k pos hk, if_neg h1, if_neg h2] at he
  exact he.symm

theorem HInv.done {a : List Bytes} {l : List Hunk} {k : Nat} {o : List Bytes} {pos : Nat} (h : HInv a l k o pos) (hk : ¬ k < l.length) : happlyF a 0 l = .inr (o ++ a.drop pos) := by
  have he := h.eq
  rw [List.drop_of_length_le (by omega)] at he
  exact he.symm

theorem happly_inl {a : List Bytes} {l : List Hunk} {e : Int} (h : hcheckL l = 0) (h' : happlyF a 0 l = .inl e) : happly a l = ([], e) := by
  unfold happly; rw [if_pos h, h']; rfl
theorem happly_inr {a : List Bytes} {l : List Hunk} {m : List Bytes} (h : hcheckL l = 0) (h' : happlyF a 0 l = .inr m) : happly a l = (m, 0) := by
  unfold happly; rw [if_pos h, h']; rfl
theorem happly_bad {a : List Bytes} {l : List Hunk} (h : ¬ hcheckL l = 0) : happly a l = ([], hcheckL l) := by
  unfold happly; rw [if_neg h]

theorem apply_ok (a : List Bytes) (l : List Hunk) (hs : TinyS a) (ht : TinyH l) : CallsTo C 21 [encS a, encHs l] (fun r => r = .val (.tup [encS (happly a l).1, .int .i64 (happly a l).2])) := by
  have hla := hs.len
  have hlen := ht.len
  have hsum := ht.sum
  refine callsTo_of_ev' Tryz.func21 rfl rfl rfl ?_
  refine ⟨_, hCheck_ok l ht, ?_⟩
  rintro r rfl
  refine ⟨nec (fun h => ?_) (fun h => ?_)⟩
  · rw [happly_bad h]
    exact rfl
  · refine loopR 55 (fun x : Nat × List Bytes × Nat => [(0, .p (encS a)), (7, .tip 43 9 1 (x.2.1.map enc1)), (8, .p (.int .i64 x.2.2)), (16, .p (encHs l)), (17, .p (.int .i64 (l.map encHunk).length)), (18, .p (.int .i64 x.1))]) (fun _ => []) (fun x => HInv a l x.1 x.2.1 x.2.2) (fun x => l.length - x.1) (0, [], 0) (HInv.zero h) rfl ⟨Weak.refl _, Weak.full_tip _ _ _, Weak.refl _, Weak.refl _, Weak.refl _, Weak.refl _, trivial⟩ trivial ?_
    rintro ⟨k, o, pos⟩ hI
    simp only at hI
    refine ⟨ltc (fun hlt => ?_) (fun hge => ?_)⟩
    · obtain ⟨⟨p, hp, hpos, hp2⟩, hc⟩ := hI.facts hlt
      obtain ⟨t1, t2⟩ := ht.each _ (List.getElem_mem hlt)
      have q1 := t1.len
      have q2 := t2.len
      have q3 := hI.len
      have q4 := sum_take_le hLen l (k + 1)
      have q5 := newSum_take l k hlt
      have q6 := hI.posle
      have hend := end_ok l[k] (by omega) (by omega) q1
      refine ⟨by omega, _, idx_map rfl hlt, rfl, _, hend, ?_⟩
      rintro r rfl
      refine ⟨dc (fun h1 => ?_) (fun h1 => ?_)⟩
      · simp only [List.length_map] at h1
        rw [happly_inl h (hI.bad2 hlt (by omega))]
        exact rfl
      · simp only [List.length_map] at h1
        refine ⟨.lex 8, by kernel_rfl, _, rfl, _, rfl, _, rfl, _, rfl, .p (.int .i64 (l[k].at_ + l[k].old.length)), ⟨_, hend, fun r hr => by subst hr; rfl⟩, .p (encS (seg a p (p + l[k].old.length))), ⟨p + l[k].old.length, by omega, p, hp, by omega, by rw [List.length_map]; omega, all_enc1 _, _, seg_map enc1 a _ _, rfl⟩, _, rfl, _, rfl, _, (equal_ok (seg a p (p + l[k].old.length)) l[k].old (by rw [seg_length a _ _ (by omega)]; omega) q1).bool, ?_⟩
        rintro r ⟨b, hb, rfl⟩
        refine ⟨fun t htt => ?_⟩
        subst htt
        cases b with
        | false =>
          have h2 : ¬ seg a p (p + l[k].old.length) = l[k].old := of_decide_eq_false hb.symm
          rw [happly_inl h (hI.bad15 hlt (by omega) (by rw [show l[k].at_.toNat = p by omega]; exact h2))]
          exact rfl
        | true =>
          have h2 : seg a p (p + l[k].old.length) = l[k].old := of_decide_eq_true hb.symm
          have hN := hI.next hlt hp hpos (by omega) h2 hc
          unfold hSum at hsum q3 q5
          refine ⟨.plan ⟨[7, 8], [6, 9], [], [10]⟩ (.one 0 (.one 1 (.one 2 (.one 3 (.one 4 (.one 5 (.one 7 (.one 8 (.alt 6 (.alt 9 (.one 10 (.fin)) (.stop)) (.stop)))))))))) none, by kernel_rfl, _, rfl, _, rfl, _, rfl, _, rfl, _, rfl, .p (encS (seg a pos p)), ⟨p, hp, pos, rfl, hpos, by rw [List.length_map]; omega, all_enc1 _, _, seg_map enc1 a _ _, rfl⟩, _, rfl, rfl, _, rfl, rfl, rfl, all_enc1 _, all_enc1 _, ?_, (o ++ seg a pos p).map enc1, ?_, rfl, all_enc1 _, all_enc1 _, ?_, (o ++ seg a pos p ++ l[k].new).map enc1, ?_, _, rfl, _, hend, ?_⟩
          · simp only [List.length_map, seg_length a pos p (by omega)]; omega
          · simp
          · simp only [List.length_map, List.length_append, seg_length a pos p (by omega)]; omega
          · simp
          · rintro r rfl
            refine ⟨k + 1, wrap64 (by first | omega | (simp only [List.length_map, List.length_append, List.length_cons, List.length_nil] at *; omega)) (by first | omega | (simp only [List.length_map, List.length_append, List.length_cons, List.length_nil] at *; omega)), roundR (k + 1, o ++ seg a pos p ++ l[k].new, p + l[k].old.length) hN (by simp only; omega) rfl ⟨Weak.refl _, Weak.refl _, Weak.int (by simp only; omega), Weak.refl _, Weak.refl _, Weak.refl _, trivial⟩ trivial⟩
    · have hd := hI.done hge
      have q3 := hI.len
      have q4 := sum_take_le hLen l k
      unfold hSum at hsum q3
      rw [happly_inr h hd]
      refine ⟨pos, rfl, by rw [List.length_map]; exact hI.posle, Nat.le_refl _, all_enc1 _, _, drop_map enc1 a pos, all_enc1 _, all_enc1 _, ?_, (o ++ a.drop pos).map enc1, by simp, ?_⟩
      · simp only [List.length_map, List.length_drop]; have := hI.posle; omega
      · exact rfl

end Qv
end

section
/- Contracts: hunks applied, in the reference. No condition. -/
set_option linter.unusedVariables false
set_option linter.unusedSimpArgs false
open Go Go.Proofs
namespace Qv

end Qv
end

section
/- What the arguments of the Unified laws read as. No condition. -/
set_option linter.unusedVariables false
open Go Go.Proofs
namespace Qv

theorem laid_out : laidOutB Tryz.prog = true := by kernel_rfl
def uTypes : List TypeId := [3, 4, 5, 9, 29, 34, 23, 48, 33]
theorem u_fine : fineTs Tryz.prog uTypes = true := by kernel_rfl
theorem bytes_fine : bytesFine Tryz.prog uTypes = true := by kernel_rfl

section
variable {H : Type} {d : DataW H} {xs : List AV}

theorem inv_str (h : DRep Tryz.prog 9 d xs) : ∃ s, xs = enc1 s := DRep.str_inv Tryz.underlying9 h
theorem inv_S (h : DRep Tryz.prog 29 d xs) : ∃ a, xs = [encS a] := DRep.slice_inv Tryz.underlying29 (fun _ _ h => inv_str h) h
theorem inv_int (h : DRep Tryz.prog 3 d xs) : ∃ n, xs = [.int .i64 n] ∧ (Lit.int .i64 n).wf = true := DRep.int_inv Tryz.underlying3 h


theorem inv_hunk (h : DRep Tryz.prog 33 d xs) : ∃ y, xs = encHunk y := by
  obtain ⟨ds, ps, rfl, rfl, h1, h2, h3⟩ := DRep.struct_inv Tryz.underlying33 h
  match ds, ps, h1, h2 with
  | [d0, d1, d2], [p0, p1, p2], _, _ =>
    obtain ⟨n, rfl, _⟩ := inv_int (h3 0 _ _ _ rfl rfl rfl)
    obtain ⟨a, rfl⟩ := inv_S (h3 1 _ _ _ rfl rfl rfl)
    obtain ⟨b, rfl⟩ := inv_S (h3 2 _ _ _ rfl rfl rfl)
    exact ⟨⟨n, a, b⟩, rfl⟩
theorem inv_Hs (h : DRep Tryz.prog 34 d xs) : ∃ a, xs = [encHs a] := DRep.slice_inv Tryz.underlying34 (fun _ _ h => inv_hunk h) h
end

/-! ### Sizes -/

theorem sz_S {a : List Bytes} (h : AV.Small (2 ^ 47) (encS a)) : SzS a := by
  obtain ⟨h1, h2⟩ := h.sl_inv
  refine ⟨by simpa using h1, fun s hs => ?_⟩
  exact (h2 (enc1 s) (List.mem_map_of_mem hs) (.str s) (by simp [enc1])).str_inv

theorem sz_H {l : List Hunk} (h : AV.Small (2 ^ 47) (encHs l)) : SzH l := by
  obtain ⟨h1, h2⟩ := h.sl_inv
  refine ⟨by simpa using h1, fun x hx => ?_⟩
  have := h2 (encHunk x) (List.mem_map_of_mem hx)
  exact ⟨sz_S (this (encS x.old) (by simp [encHunk])), sz_S (this (encS x.new) (by simp [encHunk]))⟩

/-- An argument of one cell, by its reading and its weight. -/
theorem arg_one {H : Type} {t : TypeId} {d : DataW H} {x : AV} (hm : t ∈ uTypes) (h : DArg Tryz.prog t d x) (hw : ∀ n, n ∈ d.weights Tryz.prog t → n ≤ reachBytes) :
    ∃ ys, DRep Tryz.prog t d ys ∧ x = avOf Tryz.prog t ys ∧ ∀ y, y ∈ ys → AV.Small (2 ^ 47) y := by
  obtain ⟨ys, h1, h2⟩ := h
  exact ⟨ys, h1, h2, h1.small u_fine bytes_fine hm fun n hn => by have := hw n hn; unfold reachBytes at this; omega⟩

theorem arg_S {H : Type} {d : DataW H} {x : AV} (h : DArg Tryz.prog 29 d x) (hw : ∀ n, n ∈ d.weights Tryz.prog 29 → n ≤ reachBytes) : ∃ a, x = encS a ∧ SzS a := by
  obtain ⟨ys, h1, h2, h3⟩ := arg_one (by decide) h hw
  obtain ⟨a, rfl⟩ := inv_S h1
  exact ⟨a, h2.trans (avOf_one Tryz.underlying29 (fun _ h => by cases h)), sz_S (h3 _ (by simp))⟩

theorem arg_H {H : Type} {d : DataW H} {x : AV} (h : DArg Tryz.prog 34 d x) (hw : ∀ n, n ∈ d.weights Tryz.prog 34 → n ≤ reachBytes) : ∃ a, x = encHs a ∧ SzH a := by
  obtain ⟨ys, h1, h2, h3⟩ := arg_one (by decide) h hw
  obtain ⟨a, rfl⟩ := inv_Hs h1
  exact ⟨a, h2.trans (avOf_one Tryz.underlying34 (fun _ h => by cases h)), sz_H (h3 _ (by simp))⟩

theorem arg_int {H : Type} {d : DataW H} {x : AV} (h : DArg Tryz.prog 3 d x) : ∃ n, x = .int .i64 n ∧ -9223372036854775808 ≤ n ∧ n ≤ 9223372036854775807 := by
  obtain ⟨ys, h1, h2⟩ := h
  obtain ⟨n, rfl, hn⟩ := inv_int h1
  exact ⟨n, h2.trans (avOf_one Tryz.underlying3 (fun _ h => by cases h)), bounds_i64 hn⟩

theorem arg_u8 {H : Type} {d : DataW H} {x : AV} (h : DArg Tryz.prog 5 d x) : ∃ n : Nat, x = .int .u8 n ∧ n < 256 := by
  obtain ⟨ys, h1, h2⟩ := h
  obtain ⟨n, rfl, hn⟩ := DRep.int_inv Tryz.underlying5 h1
  have := bounds_u8 hn
  exact ⟨n.toNat, h2.trans ((avOf_one Tryz.underlying5 (fun _ h => by cases h)).trans (by rw [Int.toNat_of_nonneg this.1])), by omega⟩

end Qv
end

section
/- Contracts: signs of lines counted, in the program and in the reference. No condition. -/
set_option linter.unusedVariables false
set_option linter.unusedSimpArgs false
open Go Go.Proofs Go.RowKit
namespace Qv

theorem prefix_ok (s : Bytes) (c : UInt8) : CallsTo C 37 [.str s, .str [c]] (fun r => ∃ t : Bool, t = decide (s.head? = some c) ∧ r = .val (.bool t)) := by
  refine ⟨⟨_, Tryz.func37, rfl, rfl⟩, fun imm w vs hJ hn hi hl hr => ?_⟩
  match vs, hl with
  | [v0, v1], _ =>
  have h := hr 0 v0 _ rfl rfl
  have h' := hr 1 v1 _ rfl rfl
  obtain rfl : v0 = .string ⟨s.toArray⟩ := by cases h; rfl
  obtain rfl : v1 = .string ⟨#[c]⟩ := by cases h'; rfl
  refine (Tryz.strings_HasPrefix ⟨s.toArray⟩ ⟨#[c]⟩ w).mono ?_
  rintro e w' ⟨rfl, rfl⟩
  refine ⟨_, _, rfl, ⟨_, ?_, rfl⟩, .bool _, Below.refl _ _⟩
  simp only [Lib.hasPrefix]
  cases s with
  | nil => rfl
  | cons d s =>
    simp only [List.head?_cons, Option.some.injEq, List.isPrefixOf, Bool.and_true]
    by_cases hdc : d = c
    · subst hdc; simp
    · have : ¬ c = d := fun e => hdc e.symm
      simp [hdc, this]

theorem sgn_head {s : Bytes} {c : UInt8} (hc : c ≠ 0) : s.head? = some c ↔ sgn s = c := by
  cases s with
  | nil => simp [sgn, Ne.symm hc]
  | cons d s => simp [sgn]

theorem nK_take (l : List Bytes) (k : Nat) (h : k < l.length) : nK (l.take (k + 1)) = nK (l.take k) + if sgn l[k] = 32 then 1 else 0 := by
  unfold nK
  rw [← List.take_append_getElem h, List.countP_append]
  simp [List.countP_cons]
theorem nR_take (l : List Bytes) (k : Nat) (h : k < l.length) : nR (l.take (k + 1)) = nR (l.take k) + if sgn l[k] = 45 then 1 else 0 := by
  unfold nR
  rw [← List.take_append_getElem h, List.countP_append]
  simp [List.countP_cons]
theorem nA_take (l : List Bytes) (k : Nat) (h : k < l.length) : nA (l.take (k + 1)) = nA (l.take k) + if sgn l[k] = 43 then 1 else 0 := by
  unfold nA
  rw [← List.take_append_getElem h, List.countP_append]
  simp [List.countP_cons]
theorem all_take (l : List Bytes) (k : Nat) (h : k < l.length) : (l.take (k + 1)).all isSgn = ((l.take k).all isSgn && isSgn l[k]) := by
  rw [← List.take_append_getElem h, List.all_append]
  simp
theorem all_not (l : List Bytes) (k : Nat) (h : k < l.length) (hs : isSgn l[k] = false) : l.all isSgn = false := by
  rw [Bool.eq_false_iff]
  intro ha
  rw [List.all_eq_true.1 ha _ (List.getElem_mem h)] at hs
  cases hs
theorem nK_le (l : List Bytes) : nK l ≤ l.length := List.countP_le_length
theorem nR_le (l : List Bytes) : nR l ≤ l.length := List.countP_le_length
theorem nA_le (l : List Bytes) : nA l ≤ l.length := List.countP_le_length
theorem take_le {α : Type} (l : List α) (k : Nat) : (l.take k).length ≤ l.length := by simp; omega

def countsP (l : List Bytes) : AV := match l.all isSgn with
  | true => .tup [.int .i64 (nK l), .int .i64 (nR l), .int .i64 (nA l), .bool true]
  | false => .tup [.int .i64 0, .int .i64 0, .int .i64 0, .bool false]

theorem counts_ok (l : List Bytes) (hl : l.length ≤ 2 ^ 40) : CallsTo C 15 [encS l] (fun r => r = .val (countsP l)) := by
  refine callsTo_of_ev' Tryz.func15 rfl rfl rfl ?_
  refine loopR 36 (fun k : Nat => [(6, .p (.int .i64 (nK (l.take k)))), (7, .p (.int .i64 (nR (l.take k)))), (8, .p (.int .i64 (nA (l.take k)))), (11, .p (encS l)), (12, .p (.int .i64 (l.map enc1).length)), (13, .p (.int .i64 k))]) (fun _ => []) (fun k => k ≤ l.length ∧ (l.take k).all isSgn = true) (fun k => l.length - k) 0 ⟨Nat.zero_le _, rfl⟩ rfl ⟨Weak.refl _, Weak.refl _, Weak.refl _, Weak.refl _, Weak.refl _, Weak.refl _, trivial⟩ trivial ?_
  rintro k ⟨hk, ha⟩
  refine ⟨ltc (fun hlt => ?_) (fun hge => ?_)⟩
  · have b1 := nK_le (l.take k)
    have b2 := nR_le (l.take k)
    have b3 := nA_le (l.take k)
    have b4 := take_le l k
    have s1 := nK_take l k hlt
    have s2 := nR_take l k hlt
    have s3 := nA_take l k hlt
    have s4 := all_take l k hlt
    refine ⟨by omega, _, idx_map rfl hlt, rfl, _, prefix_ok _ 32, ?_⟩
    rintro r ⟨b, hb, rfl⟩
    cases b with
    | true =>
      have hs := (sgn_head (by decide)).1 (of_decide_eq_true hb.symm)
      rw [hs] at s1 s2 s3
      simp only [if_true] at s1
      rw [if_neg (by decide)] at s2 s3
      exact ⟨_, wrap64 (by omega) (by omega), k + 1, wrap64 (by first | omega | (simp only [List.length_map, List.length_append, List.length_cons, List.length_nil] at *; omega)) (by first | omega | (simp only [List.length_map, List.length_append, List.length_cons, List.length_nil] at *; omega)), roundR (k + 1) ⟨hlt, by rw [s4, ha]; simp [isSgn, hs]⟩ (by omega) rfl ⟨Weak.int (by rw [s1]; rfl), Weak.int (by rw [s2]; rfl), Weak.int (by rw [s3]; rfl), Weak.refl _, Weak.refl _, Weak.refl _, trivial⟩ trivial⟩
    | false =>
      have n1 : ¬ sgn l[k] = 32 := fun e => of_decide_eq_false hb.symm ((sgn_head (by decide)).2 e)
      refine ⟨_, prefix_ok _ 45, ?_⟩
      rintro r ⟨b, hb, rfl⟩
      cases b with
      | true =>
        have hs := (sgn_head (by decide)).1 (of_decide_eq_true hb.symm)
        rw [hs] at s1 s2 s3
        simp only [if_true] at s2
        rw [if_neg (by decide)] at s1 s3
        exact ⟨_, wrap64 (by omega) (by omega), k + 1, wrap64 (by first | omega | (simp only [List.length_map, List.length_append, List.length_cons, List.length_nil] at *; omega)) (by first | omega | (simp only [List.length_map, List.length_append, List.length_cons, List.length_nil] at *; omega)), roundR (k + 1) ⟨hlt, by rw [s4, ha]; simp [isSgn, hs]⟩ (by omega) rfl ⟨Weak.int (by rw [s1]; rfl), Weak.int (by rw [s2]; rfl), Weak.int (by rw [s3]; rfl), Weak.refl _, Weak.refl _, Weak.refl _, trivial⟩ trivial⟩
      | false =>
        have n2 : ¬ sgn l[k] = 45 := fun e => of_decide_eq_false hb.symm ((sgn_head (by decide)).2 e)
        refine ⟨_, prefix_ok _ 43, ?_⟩
        rintro r ⟨b, hb, rfl⟩
        cases b with
        | true =>
          have hs := (sgn_head (by decide)).1 (of_decide_eq_true hb.symm)
          rw [hs] at s1 s2 s3
          simp only [if_true] at s3
          rw [if_neg (by decide)] at s1 s2
          exact ⟨_, wrap64 (by omega) (by omega), k + 1, wrap64 (by first | omega | (simp only [List.length_map, List.length_append, List.length_cons, List.length_nil] at *; omega)) (by first | omega | (simp only [List.length_map, List.length_append, List.length_cons, List.length_nil] at *; omega)), roundR (k + 1) ⟨hlt, by rw [s4, ha]; simp [isSgn, hs]⟩ (by omega) rfl ⟨Weak.int (by rw [s1]; rfl), Weak.int (by rw [s2]; rfl), Weak.int (by rw [s3]; rfl), Weak.refl _, Weak.refl _, Weak.refl _, trivial⟩ trivial⟩
        | false =>
          have n3 : ¬ sgn l[k] = 43 := fun e => of_decide_eq_false hb.symm ((sgn_head (by decide)).2 e)
          have hn : l.all isSgn = false := all_not l k hlt (by simp [isSgn, n1, n2, n3])
          unfold countsP
          rw [hn]
          exact rfl
  · obtain rfl : k = l.length := by omega
    rw [List.take_length] at ha ⊢
    unfold countsP
    rw [ha]
    exact rfl

def countsR (l : List Bytes) : AV := match l.all isSgn with
  | true => .tup [.int .i64 (nK l + nR l : Nat), .int .i64 (nK l + nA l : Nat), .bool true]
  | false => .tup [.int .i64 0, .int .i64 0, .bool false]

theorem counts_sum (l : List Bytes) : nK l + nR l ≤ l.length ∧ nK l + nA l ≤ l.length := by
  rw [count_old, count_new]
  have h : ∀ g, (chosenL g l).length ≤ l.length := fun g => by
    induction l with
    | nil => simp [chosenL]
    | cons s l ih =>
      unfold chosenL at *
      rw [List.flatMap_cons, List.length_append, List.length_cons]
      have : (chosen1 g s).length ≤ 1 := by unfold chosen1; split <;> simp
      omega
  exact ⟨h 45, h 43⟩

theorem countsR_ok (l : List Bytes) (hl : l.length ≤ 2 ^ 40) : CallsTo C 19 [encS l] (fun r => r = .val (countsR l)) := by
  refine callsTo_of_ev' Tryz.func19 rfl rfl rfl ?_
  refine loopR 62 (fun k : Nat => [(0, .p (encS l)), (5, .p (.int .i64 (nK (l.take k) + nR (l.take k) : Nat))), (6, .p (.int .i64 (nK (l.take k) + nA (l.take k) : Nat))), (7, .p (.int .i64 k))]) (fun _ => []) (fun k => k ≤ l.length ∧ (l.take k).all isSgn = true) (fun k => l.length - k) 0 ⟨Nat.zero_le _, rfl⟩ rfl ⟨Weak.refl _, Weak.refl _, Weak.refl _, Weak.refl _, trivial⟩ trivial ?_
  rintro k ⟨hk, ha⟩
  refine ⟨ltc (fun hlt => ?_) (fun hge => ?_)⟩
  · obtain ⟨b1, b2⟩ := counts_sum (l.take k)
    have b4 := take_le l k
    have s1 := nK_take l k hlt
    have s2 := nR_take l k hlt
    have s3 := nA_take l k hlt
    have s4 := all_take l k hlt
    refine ⟨none, by omega, _, idx_map rfl hlt, rfl, ⟨eqc (fun h0 => ?_) (fun h0 => ?_)⟩⟩
    · have he : l[k] = [] := List.length_eq_zero_iff.1 (by omega)
      have hn : l.all isSgn = false := all_not l k hlt (by rw [he]; rfl)
      unfold countsR
      rw [hn]
      exact rfl
    · obtain ⟨c, s, hs⟩ : ∃ c s, l[k] = c :: s := List.exists_cons_of_ne_nil (show l[k] ≠ [] from fun e => h0 (by rw [e]; rfl))
      have hsg : sgn l[k] = c := by rw [hs]; rfl
      have h1 : l[k][(0 : Int).toNat]? = some c := by rw [hs]; rfl
      rw [hsg] at s1 s2 s3
      refine ⟨by omega, _, idx_map rfl hlt, rfl, Int.le_refl 0, c, h1, ⟨nec (fun h2 => ?_) (fun h2 => ?_)⟩⟩
      · have n1 : ¬ c = 32 := fun e => h2 (by rw [e]; rfl)
        refine ⟨by omega, _, idx_map rfl hlt, rfl, Int.le_refl 0, c, h1, ⟨nec (fun h3 => ?_) (fun h3 => ?_)⟩⟩
        · have n2 : ¬ c = 45 := fun e => h3 (by rw [e]; rfl)
          refine ⟨by omega, _, idx_map rfl hlt, rfl, Int.le_refl 0, c, h1, ⟨nec (fun h4 => ?_) (fun h4 => ?_)⟩⟩
          · have n3 : ¬ c = 43 := fun e => h4 (by rw [e]; rfl)
            have hn : l.all isSgn = false := all_not l k hlt (by simp [isSgn, hsg, n1, n2, n3])
            unfold countsR
            rw [hn]
            exact rfl
          · have hc : c = 43 := u8_eq h4
            subst hc
            rw [if_neg (by decide)] at s1 s2
            simp only [if_true] at s3
            refine ⟨by omega, _, idx_map rfl hlt, rfl, Int.le_refl 0, 43, h1, ⟨nec (fun h5 => absurd rfl h5) (fun h5 => ⟨by omega, _, idx_map rfl hlt, rfl, Int.le_refl 0, 43, h1, ⟨nec (fun h6 => ?_) (fun h6 => absurd (u8_eq (c := 43) (d := 45) h6) (by decide))⟩⟩)⟩⟩
            exact ⟨_, wrap64 (by omega) (by omega), k + 1, wrap64 (by first | omega | (simp only [List.length_map, List.length_append, List.length_cons, List.length_nil] at *; omega)) (by first | omega | (simp only [List.length_map, List.length_append, List.length_cons, List.length_nil] at *; omega)), roundR (k + 1) ⟨hlt, by rw [s4, ha]; simp [isSgn, hsg]⟩ (by omega) rfl ⟨Weak.refl _, Weak.int (by omega), Weak.int (by omega), Weak.refl _, trivial⟩ trivial⟩
        · have hc : c = 45 := u8_eq h3
          subst hc
          rw [if_neg (by decide)] at s1 s3
          simp only [if_true] at s2
          refine ⟨by omega, _, idx_map rfl hlt, rfl, Int.le_refl 0, 45, h1, ⟨nec (fun h5 => ?_) (fun h5 => absurd (u8_eq (c := 45) (d := 43) h5) (by decide))⟩⟩
          refine ⟨_, wrap64 (by omega) (by omega), by omega, _, idx_map rfl hlt, rfl, Int.le_refl 0, 45, h1, ⟨nec (fun h6 => absurd rfl h6) (fun h6 => ?_)⟩⟩
          exact ⟨k + 1, wrap64 (by first | omega | (simp only [List.length_map, List.length_append, List.length_cons, List.length_nil] at *; omega)) (by first | omega | (simp only [List.length_map, List.length_append, List.length_cons, List.length_nil] at *; omega)), roundR (k + 1) ⟨hlt, by rw [s4, ha]; simp [isSgn, hsg]⟩ (by omega) rfl ⟨Weak.refl _, Weak.int (by omega), Weak.int (by omega), Weak.refl _, trivial⟩ trivial⟩
      · have hc : c = 32 := u8_eq h2
        subst hc
        rw [if_neg (by decide)] at s2 s3
        simp only [if_true] at s1
        refine ⟨by omega, _, idx_map rfl hlt, rfl, Int.le_refl 0, 32, h1, ⟨nec (fun h5 => ?_) (fun h5 => absurd (u8_eq (c := 32) (d := 43) h5) (by decide))⟩⟩
        refine ⟨_, wrap64 (by omega) (by omega), by omega, _, idx_map rfl hlt, rfl, Int.le_refl 0, 32, h1, ⟨nec (fun h6 => ?_) (fun h6 => absurd (u8_eq (c := 32) (d := 45) h6) (by decide))⟩⟩
        exact ⟨_, wrap64 (by omega) (by omega), k + 1, wrap64 (by first | omega | (simp only [List.length_map, List.length_append, List.length_cons, List.length_nil] at *; omega)) (by first | omega | (simp only [List.length_map, List.length_append, List.length_cons, List.length_nil] at *; omega)), roundR (k + 1) ⟨hlt, by rw [s4, ha]; simp [isSgn, hsg]⟩ (by omega) rfl ⟨Weak.refl _, Weak.int (by omega), Weak.int (by omega), Weak.refl _, trivial⟩ trivial⟩
  · obtain rfl : k = l.length := by omega
    rw [List.take_length] at ha ⊢
    unfold countsR
    rw [ha]
    exact rfl

end Qv
end

section
/- Contracts: the check of a block in the program. No condition. -/
set_option linter.unusedVariables false
set_option linter.unusedSimpArgs false
open Go Go.Proofs
namespace Qv

theorem inRange_ok (n : Int) : CallsTo C 29 [.int .i64 n] (fun r => ∃ t : Bool, t = inR n ∧ r = .val (.bool t)) := by
  refine callsTo_of_ev' Tryz.func29 rfl rfl rfl ?_
  refine ⟨none, ⟨dc (fun h => ⟨dc (fun h2 => ?_) (fun h2 => ?_)⟩) (fun h => ?_)⟩⟩
  · exact ⟨true, by simp [inR]; omega, rfl⟩
  · exact ⟨false, by simp [inR]; omega, rfl⟩
  · exact ⟨false, by simp [inR]; omega, rfl⟩

/-- Lines of a block that is valid by itself. -/
structure LOK (l : List Bytes) : Prop where
  ne : l ≠ []
  each : ∀ s, s ∈ l → s ≠ []
  len : l.length ≤ 2 ^ 40

theorem signs_ne {l : List Bytes} (h : l.all isSgn = true) : ∀ s, s ∈ l → s ≠ [] := by
  intro s hs e
  have := List.all_eq_true.1 h s hs
  rw [e] at this
  cases this

theorem lok_of {l : List Bytes} (h : l.all isSgn = true) (h' : nR l + nA l ≠ 0) (hl : l.length ≤ 2 ^ 40) : LOK l :=
  ⟨fun e => h' (by rw [e]; rfl), signs_ne h, hl⟩

theorem first_sgn {l : List Bytes} (h : LOK l) : ∃ c s, l[0]? = some (c :: s) ∧ sgn (l.headD []) = c := by
  obtain ⟨x, r, hx⟩ := List.exists_cons_of_ne_nil h.ne
  obtain ⟨c, s, hs⟩ := List.exists_cons_of_ne_nil (h.each x (by rw [hx]; simp))
  exact ⟨c, s, by rw [hx, hs]; rfl, by rw [hx, hs]; rfl⟩

theorem last_sgn {l : List Bytes} (h : LOK l) : ∃ c s, l[l.length - 1]? = some (c :: s) ∧ sgn (l.getLastD []) = c := by
  have hlt : l.length - 1 < l.length := by have := List.length_pos_iff.2 h.ne; omega
  obtain ⟨c, s, hs⟩ := List.exists_cons_of_ne_nil (h.each _ (List.getElem_mem hlt))
  refine ⟨c, s, by rw [List.getElem?_eq_getElem hlt, hs], ?_⟩
  rw [List.getLastD_eq_getLast?, List.getLast?_eq_getElem?, List.getElem?_eq_getElem hlt, hs]
  rfl

theorem map_get? {α β : Type} {f : α → β} {l : List α} {n : Int} {k : Nat} {x : α} (hn : n = k) (h : l[k]? = some x) : (l.map f)[n.toNat]? = some (f x) := by
  subst hn
  simp [h]

theorem touching_ok (x b : Block) (hx1 : 0 ≤ x.oldAt ∧ x.oldAt ≤ 2 ^ 41) (hx2 : 0 ≤ x.oldLen ∧ x.oldLen ≤ 2 ^ 41) (hx : LOK x.lines) (hb : LOK b.lines) :
    CallsTo C 63 [.agg (encBlock x), .agg (encBlock b)] (fun r => r = .val (.bool (touchingB x b))) := by
  refine callsTo_of_ev' Tryz.func63 rfl rfl rfl ?_
  refine ⟨none, _, wrap64 (by first | omega | (simp only [List.length_map, List.length_append, List.length_cons, List.length_nil] at *; omega)) (by first | omega | (simp only [List.length_map, List.length_append, List.length_cons, List.length_nil] at *; omega)), ⟨eqc (fun h => ?_) (fun h => ?_)⟩⟩
  · obtain ⟨c, s, h1, h2⟩ := last_sgn hx
    obtain ⟨c', s', h3, h4⟩ := first_sgn hb
    have hpos := List.length_pos_iff.2 hx.ne
    have hlen := hx.len
    refine ⟨((x.lines.length - 1 : Nat) : Int), ?_, by omega, _, map_get? rfl h1, rfl, Int.le_refl 0, c, rfl, ⟨nec (fun h5 => ?_) (fun h5 => ?_)⟩⟩
    · simp only [List.length_map]
      rw [wrap64 (by omega) (by omega)]; omega
    · have n1 : ¬ c = 32 := fun e => h5 (by rw [e]; rfl)
      refine ⟨Int.le_refl 0, _, map_get? (k := 0) rfl h3, rfl, Int.le_refl 0, c', rfl, ⟨nec (fun h6 => ?_) (fun h6 => ?_)⟩⟩
      · have n2 : ¬ c' = 32 := fun e => h6 (by rw [e]; rfl)
        show Ret.val (.bool true) = _
        unfold touchingB; rw [h2, h4]; simp [h, n1, n2]
      · have n2 : c' = 32 := u8_eq h6
        show Ret.val (.bool false) = _
        unfold touchingB; rw [h2, h4]; simp [h, n1, n2]
    · have n1 : c = 32 := u8_eq h5
      show Ret.val (.bool false) = _
      unfold touchingB; rw [h2, h4]; simp [h, n1]
  · show Ret.val (.bool false) = _
    simp [touchingB, h]

/-! ### The closures -/

theorem cb1 (b : Block) : CallsTo C 57 [.imp (encBlock b)] (fun r => ∃ t : Bool, t = !(inR b.oldAt && inR b.newAt) ∧ r = .val (.bool t)) := by
  refine callsTo_of_ev' Tryz.func57 rfl rfl rfl ?_
  refine ⟨none, _, inRange_ok b.oldAt, ?_⟩
  rintro r ⟨t, ht, rfl⟩
  refine ⟨fun u hu => ?_⟩
  subst hu
  cases t with
  | false => exact ⟨true, by rw [← ht]; rfl, rfl⟩
  | true =>
    refine ⟨_, inRange_ok b.newAt, ?_⟩
    rintro r ⟨t2, ht2, rfl⟩
    refine ⟨fun u hu => ?_⟩
    subst hu
    exact ⟨!t2, by rw [← ht, ← ht2]; rfl, rfl⟩

theorem cb2 (ok : Bool) : CallsTo C 58 [.imp [.bool ok]] (fun r => ∃ t : Bool, t = !ok ∧ r = .val (.bool t)) := by
  refine callsTo_of_ev' Tryz.func58 rfl rfl rfl ?_
  refine ⟨fun u hu => ?_⟩
  exact ⟨u, hu, rfl⟩

theorem cb3 (m n : Nat) (hm : m ≤ 2 ^ 40) (hn : n ≤ 2 ^ 40) : CallsTo C 59 [.imp [.int .i64 m], .imp [.int .i64 n]] (fun r => ∃ t : Bool, t = decide (m + n = 0) ∧ r = .val (.bool t)) := by
  refine callsTo_of_ev' Tryz.func59 rfl rfl rfl ?_
  refine ⟨_, wrap64 (by first | omega | (simp only [List.length_map, List.length_append, List.length_cons, List.length_nil] at *; omega)) (by first | omega | (simp only [List.length_map, List.length_append, List.length_cons, List.length_nil] at *; omega)), ⟨eqc (fun h => ?_) (fun h => ?_)⟩⟩
  · have h' : m + n = 0 := by omega
    exact ⟨true, by rw [decide_eq_true h'], rfl⟩
  · have h' : ¬ m + n = 0 := by omega
    exact ⟨false, by rw [decide_eq_false h'], rfl⟩

theorem cb4 (b : Block) (k m n : Nat) (shift : Int) (hk : k ≤ 2 ^ 40) (hm : m ≤ 2 ^ 40) (hn : n ≤ 2 ^ 40) (hs : -2 ^ 42 ≤ shift ∧ shift ≤ 2 ^ 42) (hb : 0 ≤ b.oldAt ∧ b.oldAt ≤ 2 ^ 41) :
    CallsTo C 60 [.imp (encBlock b), .imp [.int .i64 k], .imp [.int .i64 m], .imp [.int .i64 n], .imp [.int .i64 shift]] (fun r => ∃ t : Bool, t = decide (¬ (b.oldLen = k + m ∧ b.newLen = k + n ∧ b.newAt = b.oldAt + shift)) ∧ r = .val (.bool t)) := by
  refine callsTo_of_ev' Tryz.func60 rfl rfl rfl ?_
  refine ⟨none, _, wrap64 (by first | omega | (simp only [List.length_map, List.length_append, List.length_cons, List.length_nil] at *; omega)) (by first | omega | (simp only [List.length_map, List.length_append, List.length_cons, List.length_nil] at *; omega)), ⟨nec (fun h => ?_) (fun h => ⟨_, wrap64 (by first | omega | (simp only [List.length_map, List.length_append, List.length_cons, List.length_nil] at *; omega)) (by first | omega | (simp only [List.length_map, List.length_append, List.length_cons, List.length_nil] at *; omega)), ⟨nec (fun h2 => ?_) (fun h2 => ⟨_, wrap64 (by first | omega | (simp only [List.length_map, List.length_append, List.length_cons, List.length_nil] at *; omega)) (by first | omega | (simp only [List.length_map, List.length_append, List.length_cons, List.length_nil] at *; omega)), ⟨nec (fun h3 => ?_) (fun h3 => ?_)⟩⟩)⟩⟩)⟩⟩
  · exact ⟨true, by rw [decide_eq_true]; exact fun q => h q.1, rfl⟩
  · exact ⟨true, by rw [decide_eq_true]; exact fun q => h2 q.2.1, rfl⟩
  · exact ⟨true, by rw [decide_eq_true]; exact fun q => h3 q.2.2, rfl⟩
  · exact ⟨false, by rw [decide_eq_false]; exact fun q => q ⟨h, h2, h3⟩, rfl⟩

theorem cb5 (b : Block) (h1 : 0 ≤ b.oldAt ∧ b.oldAt ≤ 2 ^ 41) (h2 : 0 ≤ b.oldLen ∧ b.oldLen ≤ 2 ^ 42) (h3 : 0 ≤ b.newAt ∧ b.newAt ≤ 2 ^ 41) (h4 : 0 ≤ b.newLen ∧ b.newLen ≤ 2 ^ 42) :
    CallsTo C 61 [.imp (encBlock b)] (fun r => ∃ t : Bool, t = !(inR (b.oldAt + b.oldLen) && inR (b.newAt + b.newLen)) ∧ r = .val (.bool t)) := by
  refine callsTo_of_ev' Tryz.func61 rfl rfl rfl ?_
  refine ⟨none, _, wrap64 (by first | omega | (simp only [List.length_map, List.length_append, List.length_cons, List.length_nil] at *; omega)) (by first | omega | (simp only [List.length_map, List.length_append, List.length_cons, List.length_nil] at *; omega)), _, inRange_ok (b.oldAt + b.oldLen), ?_⟩
  rintro r ⟨t, ht, rfl⟩
  refine ⟨fun u hu => ?_⟩
  subst hu
  cases t with
  | false => exact ⟨true, by rw [← ht]; rfl, rfl⟩
  | true =>
    refine ⟨_, wrap64 (by first | omega | (simp only [List.length_map, List.length_append, List.length_cons, List.length_nil] at *; omega)) (by first | omega | (simp only [List.length_map, List.length_append, List.length_cons, List.length_nil] at *; omega)), _, inRange_ok (b.newAt + b.newLen), ?_⟩
    rintro r ⟨t2, ht2, rfl⟩
    refine ⟨fun u hu => ?_⟩
    subst hu
    exact ⟨!t2, by rw [← ht, ← ht2]; rfl, rfl⟩

def orderB (prev : Option Block) (b : Block) : Bool := match prev with
  | none => false
  | some x => decide (b.oldAt < x.oldAt + x.oldLen) || touchingB x b

/-- What is known of the block before. -/
structure PrevOK (x : Block) : Prop where
  at_ : 0 ≤ x.oldAt ∧ x.oldAt ≤ 2 ^ 41
  len : 0 ≤ x.oldLen ∧ x.oldLen ≤ 2 ^ 41
  lines : LOK x.lines

theorem cb6 (before : List Block) (b : Block) (hl : before.length ≤ 2 ^ 40) (hp : ∀ x, before.getLast? = some x → PrevOK x) (hb : LOK b.lines) :
    CallsTo C 62 [.imp [encBs before], .imp (encBlock b)] (fun r => ∃ t : Bool, t = orderB before.getLast? b ∧ r = .val (.bool t)) := by
  refine callsTo_of_ev' Tryz.func62 rfl rfl rfl ?_
  refine ⟨eqc (fun h => ?_) (fun h => ?_)⟩
  · have he : before = [] := List.length_eq_zero_iff.1 (by simp only [List.length_map] at h; omega)
    subst he
    exact ⟨false, rfl, rfl⟩
  · have hpos : 0 < before.length := by simp only [List.length_map] at h; omega
    have hlt : before.length - 1 < before.length := by omega
    have hlast : before.getLast? = some before[before.length - 1] := by rw [List.getLast?_eq_getElem?, List.getElem?_eq_getElem hlt]
    have hx := hp _ hlast
    have hxa := hx.at_
    have hxl := hx.len
    refine ⟨((before.length - 1 : Nat) : Int), ?_, by omega, _, idx_map rfl hlt, rfl, none, _, wrap64 (by first | omega | (simp only [List.length_map, List.length_append, List.length_cons, List.length_nil] at *; omega)) (by first | omega | (simp only [List.length_map, List.length_append, List.length_cons, List.length_nil] at *; omega)), ⟨dc (fun h2 => ?_) (fun h2 => ?_)⟩⟩
    · simp only [List.length_map]
      rw [wrap64 (by omega) (by omega)]; omega
    · exact ⟨true, by rw [hlast]; simp only [orderB]; rw [decide_eq_true h2]; rfl, rfl⟩
    · refine ⟨_, touching_ok before[before.length - 1] b hx.at_ hx.len hx.lines hb, ?_⟩
      rintro r rfl
      exact ⟨touchingB before[before.length - 1] b, by rw [hlast]; simp only [orderB]; rw [decide_eq_false h2]; rfl, rfl⟩

/-! ### The check -/

/-- The conditions, one by one. -/
def FB (prev : Option Block) (b : Block) (shift : Int) : Nat → Prop
  | 0 => (inR b.oldAt && inR b.newAt) = true
  | 1 => b.lines.all isSgn = true
  | 2 => nR b.lines + nA b.lines ≠ 0
  | 3 => b.oldLen = nK b.lines + nR b.lines ∧ b.newLen = nK b.lines + nA b.lines ∧ b.newAt = b.oldAt + shift
  | 4 => (inR (b.oldAt + b.oldLen) && inR (b.newAt + b.newLen)) = true
  | _ => orderB prev b = false

theorem cB0 {prev : Option Block} {b : Block} {shift : Int} (h : ¬ FB prev b shift 0) : checkB prev b shift = 2 := by
  unfold checkB; rw [if_pos (by simpa [FB] using h)]
theorem cB1 {prev : Option Block} {b : Block} {shift : Int} (h0 : FB prev b shift 0) (h : ¬ FB prev b shift 1) : checkB prev b shift = 3 := by
  unfold checkB; rw [if_neg (by rw [show (inR b.oldAt && inR b.newAt) = true from h0]; simp), if_pos (by simpa [FB] using h)]
theorem cB2 {prev : Option Block} {b : Block} {shift : Int} (h0 : FB prev b shift 0) (h1 : FB prev b shift 1) (h : ¬ FB prev b shift 2) : checkB prev b shift = 1 := by
  unfold checkB; rw [if_neg (by rw [show (inR b.oldAt && inR b.newAt) = true from h0]; simp), if_neg (by rw [show b.lines.all isSgn = true from h1]; simp), if_pos (by simpa only [FB, ne_eq, Decidable.not_not] using h)]
theorem cB3 {prev : Option Block} {b : Block} {shift : Int} (h0 : FB prev b shift 0) (h1 : FB prev b shift 1) (h2 : FB prev b shift 2) (h : ¬ FB prev b shift 3) : checkB prev b shift = 10 := by
  unfold checkB; rw [if_neg (by rw [show (inR b.oldAt && inR b.newAt) = true from h0]; simp), if_neg (by rw [show b.lines.all isSgn = true from h1]; simp), if_neg (show ¬ nR b.lines + nA b.lines = 0 from h2), if_pos (show ¬ (b.oldLen = nK b.lines + nR b.lines ∧ b.newLen = nK b.lines + nA b.lines ∧ b.newAt = b.oldAt + shift) from h)]
theorem cB4 {prev : Option Block} {b : Block} {shift : Int} (h0 : FB prev b shift 0) (h1 : FB prev b shift 1) (h2 : FB prev b shift 2) (h3 : FB prev b shift 3) (h : ¬ FB prev b shift 4) : checkB prev b shift = 2 := by
  unfold checkB; rw [if_neg (by rw [show (inR b.oldAt && inR b.newAt) = true from h0]; simp), if_neg (by rw [show b.lines.all isSgn = true from h1]; simp), if_neg (show ¬ nR b.lines + nA b.lines = 0 from h2), if_neg (show ¬ ¬ (b.oldLen = nK b.lines + nR b.lines ∧ b.newLen = nK b.lines + nA b.lines ∧ b.newAt = b.oldAt + shift) from fun q => q h3), if_pos (by simpa [FB] using h)]
theorem cB5 {prev : Option Block} {b : Block} {shift : Int} (h0 : FB prev b shift 0) (h1 : FB prev b shift 1) (h2 : FB prev b shift 2) (h3 : FB prev b shift 3) (h4 : FB prev b shift 4) : checkB prev b shift = if orderB prev b = true then 9 else 0 := by
  unfold checkB; rw [if_neg (by rw [show (inR b.oldAt && inR b.newAt) = true from h0]; simp), if_neg (by rw [show b.lines.all isSgn = true from h1]; simp), if_neg (show ¬ nR b.lines + nA b.lines = 0 from h2), if_neg (show ¬ ¬ (b.oldLen = nK b.lines + nR b.lines ∧ b.newLen = nK b.lines + nA b.lines ∧ b.newAt = b.oldAt + shift) from fun q => q h3), if_neg (by rw [show (inR (b.oldAt + b.oldLen) && inR (b.newAt + b.newLen)) = true from h4]; simp)]
  cases prev with
  | none => rfl
  | some x => simp only [orderB, Bool.or_eq_true, decide_eq_true_eq]

end Qv
end

section
/- Contracts: the checks of blocks in the program. No condition. -/
set_option linter.unusedVariables false
set_option linter.unusedSimpArgs false
open Go Go.Proofs
namespace Qv

/-- The checks, as the program keeps them. -/
def cbList (before : List Block) (b : Block) (k m n : Int) (ok : Bool) (shift : Int) : List (List AV) := [
  [.fn (.func 57) [] [.imp (encBlock b)], .int .i64 2],
  [.fn (.func 58) [] [.imp [.bool ok]], .int .i64 3],
  [.fn (.func 59) [] [.imp [.int .i64 m], .imp [.int .i64 n]], .int .i64 1],
  [.fn (.func 60) [] [.imp (encBlock b), .imp [.int .i64 k], .imp [.int .i64 m], .imp [.int .i64 n], .imp [.int .i64 shift]], .int .i64 10],
  [.fn (.func 61) [] [.imp (encBlock b)], .int .i64 2],
  [.fn (.func 62) [] [.imp [encBs before], .imp (encBlock b)], .int .i64 9]]

theorem counts_ok' (l : List Bytes) (hl : l.length ≤ 2 ^ 40) : ∃ (k m n : Nat) (ok : Bool), ok = l.all isSgn ∧ (ok = true → k = nK l ∧ m = nR l ∧ n = nA l) ∧ k ≤ 2 ^ 40 ∧ m ≤ 2 ^ 40 ∧ n ≤ 2 ^ 40 ∧
    CallsTo C 15 [encS l] (fun r => r = .val (.tup [.int .i64 k, .int .i64 m, .int .i64 n, .bool ok])) := by
  have h := counts_ok l hl
  have b1 := nK_le l
  have b2 := nR_le l
  have b3 := nA_le l
  unfold countsP at h
  cases ha : l.all isSgn with
  | true => rw [ha] at h; exact ⟨nK l, nR l, nA l, true, rfl, fun _ => ⟨rfl, rfl, rfl⟩, by omega, by omega, by omega, h⟩
  | false => rw [ha] at h; exact ⟨0, 0, 0, false, rfl, fun h => (by cases h), by omega, by omega, by omega, h⟩

set_option maxHeartbeats 1000000 in
theorem checkBlock_ok (before : List Block) (b : Block) (shift : Int) (hl : before.length ≤ 2 ^ 40) (hp : ∀ x, before.getLast? = some x → PrevOK x) (hb : b.lines.length ≤ 2 ^ 40) (hs : -2 ^ 42 ≤ shift ∧ shift ≤ 2 ^ 42) :
    CallsTo C 38 [encBs before, .agg (encBlock b), .int .i64 shift] (fun r => r = .val (.int .i64 (checkB before.getLast? b shift))) := by
  obtain ⟨k, m, n, ok, hok, hkmn, hk, hm, hn, hc⟩ := counts_ok' b.lines hb
  refine callsTo_of_evC [1, 2] Tryz.func38 rfl rfl rfl ?_
  refine cutR 47 [(3, .ptr 3 0), (4, .ptr 4 0), (5, .ptr 5 0)] [(3, [.p (encBs before)]), (4, mapP (encBlock b)), (5, [.p (.int .i64 shift)])] rfl ⟨Weak.refl _, Weak.refl _, Weak.refl _, trivial⟩ ⟨hasO_one rfl, hasO_one rfl, hasO_one rfl, trivial⟩ ?_
  refine ⟨_, hc.cut, ?_⟩
  rintro r rfl
  refine cutR 47 [(3, .ptr 3 0), (4, .ptr 4 0), (5, .ptr 5 0), (7, .ptr 7 0), (8, .ptr 8 0), (9, .ptr 9 0), (10, .ptr 10 0)]
    [(3, [.p (encBs before)]), (4, mapP (encBlock b)), (5, [.p (.int .i64 shift)]), (7, [.p (.int .i64 k)]), (8, [.p (.int .i64 m)]), (9, [.p (.int .i64 n)]), (10, [.p (.bool ok)])] rfl ⟨Weak.refl _, Weak.refl _, Weak.refl _, Weak.refl _, Weak.refl _, Weak.refl _, Weak.refl _, trivial⟩ ⟨hasO_one rfl, hasO_one rfl, hasO_one rfl, hasO_one rfl, hasO_one rfl, hasO_one rfl, hasO_one rfl, trivial⟩ ?_
  refine ⟨[4], [10], [8, 9], [7, 5], [], [3], ?_⟩
  refine loopR 47 (fun i : Nat => [(35, .p (.sl (cbList before b k m n ok shift))), (36, .p (.int .i64 6)), (37, .p (.int .i64 i))]) (fun _ => []) (fun i => i ≤ 6 ∧ ∀ j, j < i → FB before.getLast? b shift j) (fun i => 6 - i) 0 ⟨Nat.zero_le _, fun j hj => absurd hj (by omega)⟩ rfl ⟨Weak.tip_p _ _ _ _, Weak.refl _, Weak.refl _, trivial⟩ trivial ?_
  rintro i ⟨hi, hF⟩
  refine ⟨dc (fun hlt => ?_) (fun hge => ?_)⟩
  · have hlt : i < 6 := by omega
    have hi6 : i = 0 ∨ i = 1 ∨ i = 2 ∨ i = 3 ∨ i = 4 ∨ i = 5 := by omega
    have next : ∀ i : Nat, FB before.getLast? b shift i → (∀ j, j < i → FB before.getLast? b shift j) → ∀ j, j < i + 1 → FB before.getLast? b shift j := fun i h h' j hj => by
      by_cases e : j < i
      · exact h' j e
      · obtain rfl : j = i := by omega
        exact h
    rcases hi6 with rfl | rfl | rfl | rfl | rfl | rfl
    · refine ⟨by omega, _, rfl, rfl, _, (cb1 b).cut, ?_⟩
      rintro r ⟨t, ht, rfl⟩
      cases t with
      | true =>
        show Ret.val (.int .i64 2) = _
        rw [cB0 (by show ¬ _ = true; intro h; rw [h] at ht; cases ht)]
      | false =>
        have hf : FB before.getLast? b shift 0 := by
          show _ = true
          cases hq : (inR b.oldAt && inR b.newAt) with
          | true => rfl
          | false => rw [hq] at ht; cases ht
        exact ⟨1, wrap64 (by omega) (by omega), roundR 1 ⟨hlt, next 0 hf hF⟩ (by omega) rfl ⟨Weak.refl _, Weak.refl _, Weak.refl _, trivial⟩ trivial⟩
    · have f0 := hF 0 (by omega)
      refine ⟨by omega, _, rfl, rfl, _, (cb2 ok).cut, ?_⟩
      rintro r ⟨t, ht, rfl⟩
      cases t with
      | true =>
        show Ret.val (.int .i64 3) = _
        rw [cB1 f0 (by show ¬ _ = true; intro h; rw [hok, h] at ht; cases ht)]
      | false =>
        have hf : FB before.getLast? b shift 1 := by
          show _ = true
          cases hq : b.lines.all isSgn with
          | true => rfl
          | false => rw [hok, hq] at ht; cases ht
        exact ⟨2, wrap64 (by omega) (by omega), roundR 2 ⟨hlt, next 1 hf hF⟩ (by omega) rfl ⟨Weak.refl _, Weak.refl _, Weak.refl _, trivial⟩ trivial⟩
    · have f0 := hF 0 (by omega)
      have f1 := hF 1 (by omega)
      obtain ⟨rfl, rfl, rfl⟩ := hkmn (hok.trans f1)
      refine ⟨by omega, _, rfl, rfl, _, (cb3 _ _ hm hn).cut, ?_⟩
      rintro r ⟨t, ht, rfl⟩
      cases t with
      | true =>
        have := of_decide_eq_true ht.symm
        show Ret.val (.int .i64 1) = _
        rw [cB2 f0 f1 (fun h => h this)]
      | false =>
        have hf : FB before.getLast? b shift 2 := of_decide_eq_false ht.symm
        exact ⟨3, wrap64 (by omega) (by omega), roundR 3 ⟨hlt, next 2 hf hF⟩ (by omega) rfl ⟨Weak.refl _, Weak.refl _, Weak.refl _, trivial⟩ trivial⟩
    · have f0 := hF 0 (by omega)
      have f1 := hF 1 (by omega)
      have f2 := hF 2 (by omega)
      obtain ⟨rfl, rfl, rfl⟩ := hkmn (hok.trans f1)
      have r0 : inR b.oldAt = true ∧ inR b.newAt = true := by simpa [FB] using f0
      have r1 := inR_iff.1 r0.1
      refine ⟨by omega, _, rfl, rfl, _, (cb4 b _ _ _ shift hk hm hn hs (by omega)).cut, ?_⟩
      rintro r ⟨t, ht, rfl⟩
      cases t with
      | true =>
        have hd := of_decide_eq_true ht.symm
        show Ret.val (.int .i64 10) = _
        rw [cB3 f0 f1 f2 hd]
      | false =>
        have hd := of_decide_eq_false ht.symm
        have hd' := Decidable.not_not.1 hd
        have hf : FB before.getLast? b shift 3 := hd'
        exact ⟨4, wrap64 (by omega) (by omega), roundR 4 ⟨hlt, next 3 hf hF⟩ (by omega) rfl ⟨Weak.refl _, Weak.refl _, Weak.refl _, trivial⟩ trivial⟩
    · have f0 := hF 0 (by omega)
      have f1 := hF 1 (by omega)
      have f2 := hF 2 (by omega)
      have f3 := hF 3 (by omega)
      obtain ⟨rfl, rfl, rfl⟩ := hkmn (hok.trans f1)
      have r0 : inR b.oldAt = true ∧ inR b.newAt = true := by simpa [FB] using f0
      have r1 := inR_iff.1 r0.1
      have r2 := inR_iff.1 r0.2
      have f3' : b.oldLen = nK b.lines + nR b.lines ∧ b.newLen = nK b.lines + nA b.lines ∧ b.newAt = b.oldAt + shift := f3
      refine ⟨by omega, _, rfl, rfl, _, (cb5 b (by omega) (by omega) (by omega) (by omega)).cut, ?_⟩
      rintro r ⟨t, ht, rfl⟩
      cases t with
      | true =>
        show Ret.val (.int .i64 2) = _
        rw [cB4 f0 f1 f2 f3 (by show ¬ _ = true; intro h; rw [h] at ht; cases ht)]
      | false =>
        have hf : FB before.getLast? b shift 4 := by
          show _ = true
          cases hq : (inR (b.oldAt + b.oldLen) && inR (b.newAt + b.newLen)) with
          | true => rfl
          | false => rw [hq] at ht; cases ht
        exact ⟨5, wrap64 (by omega) (by omega), roundR 5 ⟨hlt, next 4 hf hF⟩ (by omega) rfl ⟨Weak.refl _, Weak.refl _, Weak.refl _, trivial⟩ trivial⟩
    · have f0 := hF 0 (by omega)
      have f1 := hF 1 (by omega)
      have f2 := hF 2 (by omega)
      have f3 := hF 3 (by omega)
      have f4 := hF 4 (by omega)
      refine ⟨by omega, _, rfl, rfl, _, (cb6 before b hl hp (lok_of f1 f2 hb)).cut, ?_⟩
      rintro r ⟨t, ht, rfl⟩
      cases t with
      | true =>
        show Ret.val (.int .i64 9) = _
        rw [cB5 f0 f1 f2 f3 f4, if_pos ht.symm]
      | false =>
        have hf : FB before.getLast? b shift 5 := ht.symm
        exact ⟨6, wrap64 (by omega) (by omega), roundR 6 ⟨Nat.le_refl _, next 5 hf hF⟩ (by omega) rfl ⟨Weak.refl _, Weak.refl _, Weak.refl _, trivial⟩ trivial⟩
  · obtain rfl : i = 6 := by omega
    have h5 : orderB before.getLast? b = false := hF 5 (by omega)
    show Ret.val (.int .i64 0) = _
    rw [cB5 (hF 0 (by omega)) (hF 1 (by omega)) (hF 2 (by omega)) (hF 3 (by omega)) (hF 4 (by omega)), h5]
    rfl

/-! ### The check of all -/

/-- Small enough for sums of lengths. -/
structure TinyB (l : List Block) : Prop where
  len : l.length ≤ 2 ^ 20
  each : ∀ b, b ∈ l → b.lines.length ≤ 2 ^ 20

theorem bok_len {b : Block} (h : BOK b) (hl : b.lines.length ≤ 2 ^ 20) : 0 ≤ b.oldLen ∧ b.oldLen ≤ 2 ^ 20 ∧ 0 ≤ b.newLen ∧ b.newLen ≤ 2 ^ 20 := by
  have h1 := h.old
  have h2 := h.new
  have h3 := count_old b.lines
  have h4 := count_new b.lines
  obtain ⟨h5, h6⟩ := counts_sum b.lines
  omega

theorem prev_of {b : Block} (h : BOK b) (hl : b.lines.length ≤ 2 ^ 20) : PrevOK b := by
  have h1 := bok_len h hl
  have h2 := h.at_
  exact ⟨by omega, by omega, lok_of h.signs h.some_ (by omega)⟩

/-- The state of the loop of the check: so many are valid. -/
structure CInv (l : List Block) (k : Nat) (shift : Int) : Prop where
  le : k ≤ l.length
  eq : checkF (l.take k).getLast? k shift (l.drop k) = checkL l
  lo : -(k : Int) * 2 ^ 20 ≤ shift
  hi : shift ≤ (k : Int) * 2 ^ 20
  ok : ∀ x, (l.take k).getLast? = some x → BOK x

theorem CInv.zero (l : List Block) : CInv l 0 0 := ⟨Nat.zero_le _, rfl, by simp, by simp, fun x hx => by simp at hx⟩

theorem CInv.step {l : List Block} {k : Nat} {shift : Int} (h : CInv l k shift) (hk : k < l.length) :
    (if checkB (l.take k).getLast? l[k] shift = 0 then checkF (some l[k]) (k + 1) (shift + l[k].newLen - l[k].oldLen) (l.drop (k + 1)) else ((k : Int), checkB (l.take k).getLast? l[k] shift)) = checkL l := by
  have := h.eq
  rw [List.drop_eq_getElem_cons hk, checkF] at this
  exact this

theorem take_last {l : List Block} {k : Nat} (hk : k < l.length) : (l.take (k + 1)).getLast? = some l[k] := by
  have h := (List.take_append_getElem hk).symm
  rw [h]
  exact List.getLast?_concat

theorem CInv.next {l : List Block} (ht : TinyB l) {k : Nat} {shift : Int} (h : CInv l k shift) (hk : k < l.length) (h0 : checkB (l.take k).getLast? l[k] shift = 0) : CInv l (k + 1) (shift + (l[k].newLen - l[k].oldLen)) := by
  have hs := h.step hk
  rw [if_pos h0] at hs
  have hb := (checkB_ok h0).1
  have hl := bok_len hb (ht.each _ (List.getElem_mem hk))
  have h1 := h.lo
  have h2 := h.hi
  refine ⟨hk, ?_, by omega, by omega, fun x hx => ?_⟩
  · rw [take_last hk, show shift + (l[k].newLen - l[k].oldLen) = shift + l[k].newLen - l[k].oldLen by omega]
    exact hs
  · rw [take_last hk] at hx
    obtain rfl := Option.some.inj hx
    exact hb

theorem CInv.bad {l : List Block} {k : Nat} {shift : Int} (h : CInv l k shift) (hk : k < l.length) (h0 : ¬ checkB (l.take k).getLast? l[k] shift = 0) : checkL l = ((k : Int), checkB (l.take k).getLast? l[k] shift) := by
  have hs := h.step hk
  rw [if_neg h0] at hs
  exact hs.symm

theorem CInv.done {l : List Block} {k : Nat} {shift : Int} (h : CInv l k shift) (hk : ¬ k < l.length) : checkL l = (0, 0) := by
  have hs := h.eq
  rw [List.drop_of_length_le (by omega)] at hs
  exact hs.symm

theorem CInv.prev {l : List Block} (ht : TinyB l) {k : Nat} {shift : Int} (h : CInv l k shift) : ∀ x, (l.take k).getLast? = some x → PrevOK x := fun x hx =>
  prev_of (h.ok x hx) (ht.each x (List.mem_of_mem_take (List.mem_of_getLast? hx)))

theorem check_ok (l : List Block) (ht : TinyB l) : CallsTo C 16 [encBs l] (fun r => r = .val (.tup [.int .i64 (checkL l).1, .int .i64 (checkL l).2])) := by
  have hlen := ht.len
  refine callsTo_of_ev' Tryz.func16 rfl rfl rfl ?_
  refine loopR 33 (fun x : Nat × Int => [(0, .p (encBs l)), (4, .p (.int .i64 x.2)), (8, .p (encBs l)), (9, .p (.int .i64 (l.map encBlock).length)), (10, .p (.int .i64 x.1))]) (fun _ => []) (fun x => CInv l x.1 x.2) (fun x => l.length - x.1) (0, 0) (CInv.zero l) rfl ⟨Weak.refl _, Weak.refl _, Weak.refl _, Weak.refl _, Weak.refl _, trivial⟩ trivial ?_
  rintro ⟨k, shift⟩ hI
  simp only at hI
  refine ⟨ltc (fun hlt => ?_) (fun hge => ?_)⟩
  · have hlt : k < l.length := hlt
    have h1 := hI.lo
    have h2 := hI.hi
    have h3 := ht.each _ (List.getElem_mem hlt)
    have hc := checkBlock_ok (l.take k) l[k] shift (by simp only [List.length_take]; omega) (hI.prev ht) (by omega) (by omega)
    refine ⟨by omega, _, idx_map rfl hlt, rfl, .lex 5, by kernel_rfl, _, rfl, _, rfl, .p (encBs (l.take k)), ⟨k, rfl, Nat.zero_le _, by rw [List.length_map]; omega, all_enc (f := encBlock) (n := 5) (fun _ => rfl) l, _, by rw [List.drop_zero, ← List.map_take], rfl⟩, _, rfl, _, rfl, _, hc, ?_⟩
    rintro r rfl
    refine ⟨nec (fun h => ?_) (fun h => ?_)⟩
    · rw [hI.bad hlt h]
      exact rfl
    · have hb := bok_len (checkB_ok h).1 h3
      refine ⟨_, wrap64 (by first | omega | (simp only [List.length_map, List.length_append, List.length_cons, List.length_nil] at *; omega)) (by first | omega | (simp only [List.length_map, List.length_append, List.length_cons, List.length_nil] at *; omega)), _, wrap64 (by first | omega | (simp only [List.length_map, List.length_append, List.length_cons, List.length_nil] at *; omega)) (by first | omega | (simp only [List.length_map, List.length_append, List.length_cons, List.length_nil] at *; omega)), k + 1, wrap64 (by first | omega | (simp only [List.length_map, List.length_append, List.length_cons, List.length_nil] at *; omega)) (by first | omega | (simp only [List.length_map, List.length_append, List.length_cons, List.length_nil] at *; omega)), roundR (k + 1, shift + (l[k].newLen - l[k].oldLen)) (hI.next ht hlt h) (by simp only; omega) rfl ⟨Weak.refl _, Weak.refl _, Weak.refl _, Weak.refl _, Weak.refl _, trivial⟩ trivial⟩
  · rw [hI.done hge]
    exact rfl

end Qv
end

section
/- Contracts: the checks of blocks in the reference. No condition. -/
set_option linter.unusedVariables false
set_option linter.unusedSimpArgs false
open Go Go.Proofs
namespace Qv

theorem context_ok (c : UInt8) (s : Bytes) : CallsTo C 42 [.str (c :: s)] (fun r => ∃ t : Bool, t = decide (c = 32) ∧ r = .val (.bool t)) := by
  refine callsTo_of_ev' Tryz.func42 rfl rfl rfl ?_
  refine ⟨Int.le_refl 0, c, rfl, ⟨eqc (fun h => ?_) (fun h => ?_)⟩⟩
  · exact ⟨true, by rw [decide_eq_true (u8_eq (c := c) (d := 32) h)], rfl⟩
  · exact ⟨false, by rw [decide_eq_false]; intro e; exact h (by rw [e]; rfl), rfl⟩

theorem changes_ok (l : List Bytes) (hs : l.all isSgn = true) (hl : l.length ≤ 2 ^ 40) : CallsTo C 41 [encS l] (fun r => ∃ t : Bool, t = decide (nR l + nA l ≠ 0) ∧ r = .val (.bool t)) := by
  refine callsTo_of_ev' Tryz.func41 rfl rfl rfl ?_
  refine loopR 16 (fun k : Nat => [(0, .p (encS l)), (3, .p (.int .i64 k))]) (fun _ => []) (fun k => k ≤ l.length ∧ nR (l.take k) + nA (l.take k) = 0) (fun k => l.length - k) 0 ⟨Nat.zero_le _, rfl⟩ rfl ⟨Weak.refl _, Weak.refl _, trivial⟩ trivial ?_
  rintro k ⟨hk, h0⟩
  refine ⟨ltc (fun hlt => ?_) (fun hge => ?_)⟩
  · obtain ⟨c, s, hcs⟩ := List.exists_cons_of_ne_nil (signs_ne hs _ (List.getElem_mem hlt))
    have hsg : sgn l[k] = c := by rw [hcs]; rfl
    have s2 := nR_take l k hlt
    have s3 := nA_take l k hlt
    have hk1 := List.all_eq_true.1 hs _ (List.getElem_mem hlt)
    rw [hsg] at s2 s3
    have hctx := context_ok c s
    rw [← hcs] at hctx
    refine ⟨by omega, _, idx_map rfl hlt, rfl, _, hctx, ?_⟩
    rintro r ⟨t, ht, rfl⟩
    refine ⟨fun u hu => ?_⟩
    subst hu
    cases t with
    | true =>
      have hc : c = 32 := of_decide_eq_true ht.symm
      subst hc
      rw [if_neg (by decide)] at s2 s3
      exact ⟨k + 1, wrap64 (by first | omega | (simp only [List.length_map, List.length_append, List.length_cons, List.length_nil] at *; omega)) (by first | omega | (simp only [List.length_map, List.length_append, List.length_cons, List.length_nil] at *; omega)), roundR (k + 1) ⟨hlt, by omega⟩ (by omega) rfl ⟨Weak.refl _, Weak.refl _, trivial⟩ trivial⟩
    | false =>
      have hc : ¬ c = 32 := of_decide_eq_false ht.symm
      have hpos : nR l + nA l ≠ 0 := by
        have h1 : nR (l.take (k + 1)) ≤ nR l := (List.take_sublist _ _).countP_le
        have h2 : nA (l.take (k + 1)) ≤ nA l := (List.take_sublist _ _).countP_le
        have h3 : c = 45 ∨ c = 43 := by
          simp only [isSgn, hsg, Bool.or_eq_true, beq_iff_eq] at hk1
          rcases hk1 with (h | h) | h
          · exact absurd h hc
          · exact .inl h
          · exact .inr h
        rcases h3 with h3 | h3
        · rw [if_pos h3] at s2; omega
        · rw [if_pos h3] at s3; omega
      exact ⟨true, by rw [decide_eq_true hpos], rfl⟩
  · obtain rfl : k = l.length := by omega
    rw [List.take_length] at h0
    exact ⟨false, by rw [decide_eq_false (fun h => h h0)], rfl⟩

theorem countsR_ok' (l : List Bytes) (hl : l.length ≤ 2 ^ 40) : ∃ (m n : Nat) (ok : Bool), ok = l.all isSgn ∧ (ok = true → m = nK l + nR l ∧ n = nK l + nA l) ∧ m ≤ l.length ∧ n ≤ l.length ∧
    CallsTo C 19 [encS l] (fun r => r = .val (.tup [.int .i64 m, .int .i64 n, .bool ok])) := by
  have h := countsR_ok l hl
  obtain ⟨b1, b2⟩ := counts_sum l
  unfold countsR at h
  cases ha : l.all isSgn with
  | true => rw [ha] at h; exact ⟨_, _, true, rfl, fun _ => ⟨rfl, rfl⟩, b1, b2, h⟩
  | false => rw [ha] at h; exact ⟨0, 0, false, rfl, fun h => (by cases h), by omega, by omega, h⟩

theorem take_last' {l : List Block} {k : Nat} (hk : k < l.length) (hz : k ≠ 0) : (l.take k).getLast? = some (l[k - 1]'(by omega)) := by
  have := take_last (l := l) (k := k - 1) (by omega)
  rw [show k - 1 + 1 = k by omega] at this
  exact this

theorem touch_iff {x b : Block} {c c' : UInt8} (h2 : sgn (x.lines.getLastD []) = c) (h4 : sgn (b.lines.headD []) = c') : touchingB x b = (decide (b.oldAt = x.oldAt + x.oldLen) && (c != 32) && (c' != 32)) := by
  unfold touchingB; rw [h2, h4]

set_option maxHeartbeats 1000000 in
theorem checkR_ok (l : List Block) (ht : TinyB l) : CallsTo C 20 [encBs l] (fun r => r = .val (.tup [.int .i64 (checkL l).1, .int .i64 (checkL l).2])) := by
  have hlen := ht.len
  refine callsTo_of_ev' Tryz.func20 rfl rfl rfl ?_
  refine loopR 147 (fun x : Nat × Int => [(0, .p (encBs l)), (4, .p (.int .i64 x.2)), (5, .p (.int .i64 x.1))]) (fun _ => []) (fun x => CInv l x.1 x.2) (fun x => l.length - x.1) (0, 0) (CInv.zero l) rfl ⟨Weak.refl _, Weak.refl _, Weak.refl _, trivial⟩ trivial ?_
  rintro ⟨k, shift⟩ hI
  simp only at hI
  refine ⟨ltc (fun hlt => ?_) (fun hge => ?_)⟩
  · have hlt : k < l.length := hlt
    have h1 := hI.lo
    have h2 := hI.hi
    have h3 := ht.each _ (List.getElem_mem hlt)
    generalize hbb : l[k] = b at h3
    have hbad : ∀ e : Int, checkB (l.take k).getLast? b shift = e → e ≠ 0 → Ret.val (.tup [.int .i64 k, .int .i64 e]) = .val (.tup [.int .i64 (checkL l).1, .int .i64 (checkL l).2]) := fun e he hne => by
      have := hI.bad hlt (by rw [hbb, he]; exact hne)
      rw [this, hbb, he]
    obtain ⟨m, n, ok, hok, hmn, hm, hn, hc⟩ := countsR_ok' b.lines (by omega)
    refine ⟨by omega, encBlock b, by rw [← hbb]; exact idx_map rfl hlt, rfl, ?_⟩
    refine ⟨none, ⟨dc (fun q1 => ?_) (fun q1 => ⟨dc (fun q2 => ?_) (fun q2 => ⟨dc (fun q3 => ?_) (fun q3 => ⟨dc (fun q4 => ?_) (fun q4 => ?_)⟩)⟩)⟩)⟩⟩
    · exact hbad 2 (cB0 (by simp only [FB, inR_lo q1]; simp)) (by decide)
    · exact hbad 2 (cB0 (by simp only [FB, inR_hi q2]; simp)) (by decide)
    · exact hbad 2 (cB0 (by simp only [FB, inR_lo q3]; simp)) (by decide)
    · exact hbad 2 (cB0 (by simp only [FB, inR_hi q4]; simp)) (by decide)
    have f0 : FB (l.take k).getLast? b shift 0 := by simp only [FB, inR_true (show 0 ≤ b.oldAt by omega) (by omega), inR_true (show 0 ≤ b.newAt by omega) (by omega)]; rfl
    refine ⟨_, hc, ?_⟩
    rintro r rfl
    refine ⟨fun u hu => ?_⟩
    subst hu
    cases ok with
    | false => exact hbad 3 (cB1 f0 (by show ¬ _ = true; rw [← hok]; simp)) (by decide)
    | true =>
    have f1 : FB (l.take k).getLast? b shift 1 := hok.symm
    obtain ⟨rfl, rfl⟩ := hmn rfl
    refine ⟨_, changes_ok b.lines hok.symm (by omega), ?_⟩
    rintro r ⟨t, htt, rfl⟩
    refine ⟨fun u hu => ?_⟩
    subst hu
    cases t with
    | false => exact hbad 1 (cB2 f0 f1 (by have hd := of_decide_eq_false htt.symm; exact hd)) (by decide)
    | true =>
    have hd2 := of_decide_eq_true htt.symm
    have f2 : FB (l.take k).getLast? b shift 2 := hd2
    refine ⟨none, ⟨nec (fun q1 => ?_) (fun q1 => ⟨nec (fun q2 => ?_) (fun q2 => ⟨_, wrap64 (by first | omega | (simp only [List.length_map, List.length_append, List.length_cons, List.length_nil] at *; omega)) (by first | omega | (simp only [List.length_map, List.length_append, List.length_cons, List.length_nil] at *; omega)), ⟨nec (fun q3 => ?_) (fun q3 => ?_)⟩⟩)⟩)⟩⟩
    · exact hbad 10 (cB3 f0 f1 f2 (fun q => q1 (by have := q.1; omega))) (by decide)
    · exact hbad 10 (cB3 f0 f1 f2 (fun q => q2 (by have := q.2.1; omega))) (by decide)
    · exact hbad 10 (cB3 f0 f1 f2 (fun q => q3 q.2.2)) (by decide)
    have f3 : FB (l.take k).getLast? b shift 3 := by
      show b.oldLen = nK b.lines + nR b.lines ∧ b.newLen = nK b.lines + nA b.lines ∧ b.newAt = b.oldAt + shift
      omega
    refine ⟨none, _, wrap64 (by first | omega | (simp only [List.length_map, List.length_append, List.length_cons, List.length_nil] at *; omega)) (by first | omega | (simp only [List.length_map, List.length_append, List.length_cons, List.length_nil] at *; omega)), ⟨dc (fun q4 => ?_) (fun q4 => ⟨_, wrap64 (by first | omega | (simp only [List.length_map, List.length_append, List.length_cons, List.length_nil] at *; omega)) (by first | omega | (simp only [List.length_map, List.length_append, List.length_cons, List.length_nil] at *; omega)), ⟨dc (fun q5 => ?_) (fun q5 => ?_)⟩⟩)⟩⟩
    · exact hbad 2 (cB4 f0 f1 f2 f3 (by show ¬ _ = true; rw [q1, inR_hi q4]; simp)) (by decide)
    · exact hbad 2 (cB4 f0 f1 f2 f3 (by show ¬ _ = true; rw [q2, inR_hi q5]; simp)) (by decide)
    have f4 : FB (l.take k).getLast? b shift 4 := by
      show _ = true
      rw [inR_true (by omega) (by omega), inR_true (by omega) (by omega)]; rfl
    have hcb := cB5 f0 f1 f2 f3 f4
    refine ⟨_, wrap64 (by first | omega | (simp only [List.length_map, List.length_append, List.length_cons, List.length_nil] at *; omega)) (by first | omega | (simp only [List.length_map, List.length_append, List.length_cons, List.length_nil] at *; omega)), _, wrap64 (by first | omega | (simp only [List.length_map, List.length_append, List.length_cons, List.length_nil] at *; omega)) (by first | omega | (simp only [List.length_map, List.length_append, List.length_cons, List.length_nil] at *; omega)), ⟨eqc (fun q6 => ?_) (fun q6 => ?_)⟩⟩
    · have hz : k = 0 := by omega
      subst hz
      have h0 : checkB (l.take 0).getLast? l[0] shift = 0 := by rw [hbb, hcb]; rfl
      have hN := hI.next ht hlt h0
      rw [hbb] at hN
      exact ⟨1, wrap64 (by first | omega | (simp only [List.length_map, List.length_append, List.length_cons, List.length_nil] at *; omega)) (by first | omega | (simp only [List.length_map, List.length_append, List.length_cons, List.length_nil] at *; omega)), roundR (1, shift + (b.newLen - b.oldLen)) hN (by simp only; omega) rfl ⟨Weak.refl _, Weak.int (by simp only; omega), Weak.refl _, trivial⟩ trivial⟩
    · have hz : k ≠ 0 := by omega
      have hk1 : k - 1 < l.length := by omega
      have hlast := take_last' hlt hz
      generalize hxx : l[k - 1] = x at hlast
      have hx := hI.ok x hlast
      have hxl := bok_len hx (by rw [← hxx]; exact ht.each _ (List.getElem_mem hk1))
      have hxa := hx.at_
      have hP := hI.prev ht x hlast
      obtain ⟨c, s, g1, g2⟩ := last_sgn hP.lines
      obtain ⟨c', s', g3, g4⟩ := first_sgn (lok_of f1 f2 (show b.lines.length ≤ 2 ^ 40 by omega))
      have htch := touch_iff g2 g4
      have hidx : (l.map encBlock)[(((k - 1 : Nat) : Int)).toNat]? = some (encBlock x) := by rw [← hxx]; exact idx_map rfl hk1
      rw [hlast] at hcb
      have hxll := hP.lines.len
      have hxn : x.lines.length - 1 < x.lines.length := by have := List.length_pos_iff.2 hP.lines.ne; omega
      have hgood : orderB (some x) b = false → CInv l (k + 1) (shift + (b.newLen - b.oldLen)) := fun ho => by
        have h0 : checkB (l.take k).getLast? l[k] shift = 0 := by rw [hbb, hlast, hcb, ho]; rfl
        have hN := hI.next ht hlt h0
        rw [hbb] at hN
        exact hN
      have hbad9 : orderB (some x) b = true → Ret.val (.tup [.int .i64 k, .int .i64 9]) = .val (.tup [.int .i64 (checkL l).1, .int .i64 (checkL l).2]) := fun ho =>
        hbad 9 (by rw [hlast, hcb, if_pos ho]) (by decide)
      refine ⟨.lex 14, by kernel_rfl, _, rfl, _, rfl, _, ⟨((k - 1 : Nat) : Int), by rw [wrap64 (by omega) (by omega)]; omega, rfl⟩, _, ⟨by omega, _, hidx, rfl, rfl⟩, _, rfl, _, rfl, _, rfl, _, rfl, _, ⟨((k - 1 : Nat) : Int), by rw [wrap64 (by omega) (by omega)]; omega, rfl⟩, _, ⟨by omega, _, hidx, rfl, rfl⟩, _, rfl, _, rfl, _, ⟨_, wrap64 (by first | omega | (simp only [List.length_map, List.length_append, List.length_cons, List.length_nil] at *; omega)) (by first | omega | (simp only [List.length_map, List.length_append, List.length_cons, List.length_nil] at *; omega)), rfl⟩, _, rfl, ?_⟩
      by_cases hA : b.oldAt < x.oldAt + x.oldLen
      · refine ⟨.lex 24, by kernel_rfl, _, rfl, _, rfl, _, rfl, .p (.bool true), ⟨fun t ht => by rw [ht, decide_eq_true hA]⟩, _, rfl, ?_⟩
        exact hbad9 (by simp only [orderB]; rw [decide_eq_true hA]; rfl)
      · by_cases hB : b.oldAt = x.oldAt + x.oldLen
        · refine ⟨.lex 24, by kernel_rfl, _, rfl, _, rfl, _, rfl, .p (.bool false), ⟨fun t ht => by rw [ht, decide_eq_false hA]⟩, _, rfl, _, rfl, _, rfl, _, rfl, .p (.bool true), ⟨fun t ht => by rw [ht, hB]; simp⟩, _, rfl, _, rfl, _, rfl, _, ⟨((k - 1 : Nat) : Int), by rw [wrap64 (by omega) (by omega)]; omega, rfl⟩, _, ⟨by omega, _, hidx, rfl, rfl⟩, _, rfl, _, rfl, _, rfl, _, rfl, _, ⟨((k - 1 : Nat) : Int), by rw [wrap64 (by omega) (by omega)]; omega, rfl⟩, _, ⟨by omega, _, hidx, rfl, rfl⟩, _, rfl, _, rfl, _, rfl, _, ⟨((x.lines.length - 1 : Nat) : Int), by simp only [List.length_map]; rw [wrap64 (by omega) (by omega)]; omega, rfl⟩, by omega, _, map_get? rfl g1, rfl, _, context_ok c s, ?_⟩
          rintro r ⟨t, htt, rfl⟩
          refine ⟨fun u hu => ?_⟩
          subst hu
          cases t with
          | true =>
            have hc : c = 32 := of_decide_eq_true htt.symm
            exact ⟨_, wrap64 (by first | omega | (simp only [List.length_map, List.length_append, List.length_cons, List.length_nil] at *; omega)) (by first | omega | (simp only [List.length_map, List.length_append, List.length_cons, List.length_nil] at *; omega)), roundR (k + 1, shift + (b.newLen - b.oldLen)) (hgood (by simp only [orderB]; rw [decide_eq_false hA, htch, hc]; simp)) (by simp only; omega) rfl ⟨Weak.refl _, Weak.int (by simp only; omega), Weak.refl _, trivial⟩ trivial⟩
          | false =>
            have hc : ¬ c = 32 := of_decide_eq_false htt.symm
            refine ⟨Int.le_refl 0, _, map_get? (k := 0) rfl g3, rfl, _, context_ok c' s', ?_⟩
            rintro r ⟨t, htt', rfl⟩
            refine ⟨fun u hu => ?_⟩
            subst hu
            cases t with
            | true =>
              have hc' : c' = 32 := of_decide_eq_true htt'.symm
              exact ⟨_, wrap64 (by first | omega | (simp only [List.length_map, List.length_append, List.length_cons, List.length_nil] at *; omega)) (by first | omega | (simp only [List.length_map, List.length_append, List.length_cons, List.length_nil] at *; omega)), roundR (k + 1, shift + (b.newLen - b.oldLen)) (hgood (by simp only [orderB]; rw [decide_eq_false hA, htch, hc']; simp)) (by simp only; omega) rfl ⟨Weak.refl _, Weak.int (by simp only; omega), Weak.refl _, trivial⟩ trivial⟩
            | false =>
              have hc' : ¬ c' = 32 := of_decide_eq_false htt'.symm
              exact hbad9 (by simp only [orderB]; rw [htch, hB]; simp [hc, hc'])
        · refine ⟨.lex 24, by kernel_rfl, _, rfl, _, rfl, _, rfl, .p (.bool false), ⟨fun t ht => by rw [ht, decide_eq_false hA]⟩, _, rfl, _, rfl, _, rfl, _, rfl, .p (.bool false), ⟨fun t ht => by rw [ht]; simp [hB]⟩, _, rfl, ?_⟩
          exact ⟨_, wrap64 (by first | omega | (simp only [List.length_map, List.length_append, List.length_cons, List.length_nil] at *; omega)) (by first | omega | (simp only [List.length_map, List.length_append, List.length_cons, List.length_nil] at *; omega)), roundR (k + 1, shift + (b.newLen - b.oldLen)) (hgood (by simp only [orderB]; rw [decide_eq_false hA, htch]; simp [hB])) (by simp only; omega) rfl ⟨Weak.refl _, Weak.int (by simp only; omega), Weak.refl _, trivial⟩ trivial⟩
  · rw [hI.done hge]
    exact rfl

end Qv
end

section
/- Contracts: lines with signs; the block of a group in the reference. No condition. -/
set_option linter.unusedVariables false
set_option linter.unusedSimpArgs false
open Go Go.Proofs
namespace Qv

theorem map_take1 {α β : Type} (f : α → β) (l : List α) (k : Nat) (h : k < l.length) : (l.take (k + 1)).map f = (l.take k).map f ++ [f l[k]] := by
  rw [(List.take_append_getElem h).symm, List.map_append]
  rfl

theorem sumLen_mem {l : List Bytes} {s : Bytes} (h : s ∈ l) : s.length ≤ sumLen l := by
  unfold sumLen
  induction l with
  | nil => cases h
  | cons x l ih =>
    simp only [List.map_cons, List.sum_cons]
    rcases List.mem_cons.1 h with rfl | h
    · omega
    · have := ih h; omega

theorem signed_ok (c : UInt8) (l : List Bytes) (hs : TinyS l) : CallsTo C 24 [.str [c], encS l] (fun r => r = .fresh 9 1 ((marked c l).map enc1)) := by
  have hlen := hs.len
  have hsum := hs.sum
  refine callsTo_of_ev' Tryz.func24 rfl rfl rfl ?_
  refine loopR 22 (fun k : Nat => [(0, .p (.str [c])), (5, .tip 19 9 1 ((marked c (l.take k)).map enc1)), (8, .p (encS l)), (9, .p (.int .i64 (l.map enc1).length)), (10, .p (.int .i64 k))]) (fun _ => []) (fun k => k ≤ l.length) (fun k => l.length - k) 0 (Nat.zero_le _) rfl ⟨Weak.refl _, Weak.full_tip _ _ _, Weak.refl _, Weak.refl _, Weak.refl _, trivial⟩ trivial ?_
  intro k hk
  refine ⟨ltc (fun hlt => ?_) (fun hge => ?_)⟩
  · have hb := sumLen_mem (List.getElem_mem hlt)
    refine ⟨by omega, _, idx_map rfl hlt, rfl, by simp only [List.length_singleton]; omega, all_enc1 _, all_one rfl, ?_, (marked c (l.take (k + 1))).map enc1, ?_, ?_⟩
    · simp [chunk, marked]; omega
    · unfold marked; rw [map_take1 ([c] ++ ·) l k hlt]; simp [chunk, enc1]
    · exact ⟨k + 1, wrap64 (by omega) (by omega), roundR (k + 1) hlt (by omega) rfl ⟨Weak.refl _, Weak.refl _, Weak.refl _, Weak.refl _, Weak.refl _, trivial⟩ trivial⟩
  · obtain rfl : k = l.length := by omega
    rw [List.take_length]
    exact .inl rfl

theorem tiny_seg {a : List Bytes} (h : TinyS a) (i j : Nat) : TinyS (seg a i j) := by
  refine ⟨by have := h.len; unfold seg; simp; omega, ?_⟩
  have h1 : sumLen (a.take j) ≤ sumLen a := sum_take_le _ a j
  have h2 := congrArg (fun x => (x.map List.length).sum) (List.take_append_drop i (a.take j))
  simp only [List.map_append, List.sum_append] at h2
  have := h.sum
  unfold sumLen seg at *
  omega

end Qv
end

section
/- Contracts: the block of a group in the reference. No condition. -/
set_option linter.unusedVariables false
set_option linter.unusedSimpArgs false
open Go Go.Proofs
namespace Qv

/-- The state of the loop over a group: so many hunks are done, what has come out, where the lines stand. -/
structure GInv (a : List Bytes) (e p : Nat) (g : List Hunk) (i : Nat) (o : List Bytes) (pos : Nat) : Prop where
  le : i ≤ g.length
  eq : o ++ blockLines a e pos (g.drop i) = blockLines a e p g
  chain : Chain a e pos (g.drop i)
  len : o.length + p ≤ pos + hSum (g.take i)
  fin : (g.drop i = [] → (pos : Int) = gend g) ∧ (g.drop i ≠ [] → gend (g.drop i) = gend g)

theorem GInv.zero {a : List Bytes} {e p : Nat} {g : List Hunk} (hne : g ≠ []) (hc : Chain a e p g) : GInv a e p g 0 [] p :=
  ⟨Nat.zero_le _, rfl, hc, by simp, fun h => absurd h hne, fun _ => rfl⟩

theorem GInv.facts {a : List Bytes} {e p : Nat} {g : List Hunk} {i : Nat} {o : List Bytes} {pos : Nat} (h : GInv a e p g i o pos) (hi : i < g.length) :
    ∃ q : Nat, g[i].at_ = q ∧ pos ≤ q ∧ q + g[i].old.length ≤ e ∧ GInv a e p g (i + 1) (o ++ marked 32 (seg a pos q) ++ marked 45 g[i].old ++ marked 43 g[i].new) (q + g[i].old.length) := by
  obtain ⟨h1, h2, h3, h4, h5⟩ := h
  rw [List.drop_eq_getElem_cons hi] at h2 h3 h5
  obtain ⟨q, c1, c2, c3, c4⟩ := h3
  have hq : g[i].at_.toNat = q := by omega
  have hle := (oldSeg_eq c4).2
  refine ⟨q, c1, c2, hle, hi, ?_, c4, ?_, ?_⟩
  · rw [← h2, blockLines, hq]
    simp only [List.append_assoc]
  · have := newSum_take g i hi
    have hsl : (seg a pos q).length ≤ q - pos := by unfold seg; simp; omega
    simp only [List.length_append, marked, List.length_map]
    rw [this]
    omega
  · have h6 := h5.2 (List.cons_ne_nil _ _)
    refine ⟨fun hr => ?_, fun hr => ?_⟩
    · rw [hr] at h6
      simp only [gend] at h6
      omega
    · cases hd : g.drop (i + 1) with
      | nil => exact absurd hd hr
      | cons y r =>
        rw [hd] at h6
        exact h6

theorem GInv.done {a : List Bytes} {e p : Nat} {g : List Hunk} {i : Nat} {o : List Bytes} {pos : Nat} (h : GInv a e p g i o pos) (hi : ¬ i < g.length) : o ++ marked 32 (seg a pos e) = blockLines a e p g ∧ pos ≤ e ∧ (pos : Int) = gend g := by
  obtain ⟨h1, h2, h3, h4, h5⟩ := h
  rw [List.drop_of_length_le (by omega)] at h2 h3 h5
  exact ⟨h2, h3, h5.1 rfl⟩

def blockR (a : List Bytes) (e p : Nat) (g : List Hunk) (newAt : Int) : Block :=
  { oldAt := p, oldLen := (nK (blockLines a e p g) + nR (blockLines a e p g) : Nat), newAt := newAt, newLen := (nK (blockLines a e p g) + nA (blockLines a e p g) : Nat), lines := blockLines a e p g }

theorem gbeg_nat {a : List Bytes} {e p : Nat} {g : List Hunk} (hc : Chain a e p g) (hne : g ≠ []) : ∃ q : Nat, gbeg g = q ∧ q ≤ e := by
  cases g with
  | nil => exact absurd rfl hne
  | cons x r =>
    obtain ⟨q, c1, c2, c3, c4⟩ := hc
    exact ⟨q, c1, by have := (oldSeg_eq c4).2; omega⟩

end Qv
end

section
/- Contracts: the blocks of hunks in the reference. No condition. -/
set_option linter.unusedVariables false
set_option linter.unusedSimpArgs false
open Go Go.Proofs
namespace Qv

theorem seg_cons {α : Type} (l : List α) (i k : Nat) (h : i < l.length) (hk : i < k) : seg l i k = l[i] :: seg l (i + 1) k := by
  unfold seg
  have h1 : i < (l.take k).length := by simp; omega
  rw [List.drop_eq_getElem_cons h1]
  simp

theorem groups_step {n : Int} {l : List Hunk} : ∀ (m i k : Nat), k = i + 1 + m → (hk : k ≤ l.length) → (∀ j (h : j + 1 < l.length), i ≤ j → j + 1 < k → joined n l[j] l[j + 1] = true) → (∀ h : k < l.length, joined n (l[k - 1]'(by omega)) l[k] = false) →
    groupsL n (l.drop i) = seg l i k :: groupsL n (l.drop k)
  | 0, i, k, e, hk, hj, hn => by
    subst e
    have hi : i < l.length := by omega
    rw [seg_cons l i (i + 1) hi (by omega), seg_self, List.drop_eq_getElem_cons hi]
    by_cases h : i + 1 < l.length
    · have hn' : joined n l[i] l[i + 1] = false := by simpa using hn h
      obtain ⟨g, gs, h1, -, -⟩ := groups_ne n (l.drop (i + 1)) (by simp; omega)
      rw [Nat.add_zero, h1]
      rw [List.drop_eq_getElem_cons h] at h1 ⊢
      rw [groups_cons n _ _ _ g gs h1, hn']
      rfl
    · rw [Nat.add_zero, List.drop_of_length_le (by omega : l.length ≤ i + 1)]
      rfl
  | m + 1, i, k, e, hk, hj, hn => by
    have hi : i < l.length := by omega
    have h : i + 1 < l.length := by omega
    have ih := groups_step m (i + 1) k (by omega) hk (fun j h a b => hj j h (by omega) b) hn
    rw [seg_cons l i k hi (by omega), List.drop_eq_getElem_cons hi]
    have h0 := hj i h (by omega) (by omega)
    rw [List.drop_eq_getElem_cons h] at ih ⊢
    rw [groups_cons n _ _ _ _ _ ih, h0]
    rfl

theorem blockOf_eq {a : List Bytes} {n shift : Int} {g : List Hunk} {p e : Nat} (hp : (p : Int) = max 0 (gbeg g - n)) (he : (e : Int) = min (a.length : Int) (gend g + n)) : blockOf a n shift g = blockR a e p g (p + shift) := by
  unfold blockOf blockR
  simp only [← hp, ← he, Int.toNat_natCast]

theorem fit_mem {a : List Bytes} : ∀ {l : List Hunk} {lo : Int}, Fit a lo l → ∀ h, h ∈ l → 0 ≤ h.at_ ∧ h.at_ + h.old.length ≤ a.length
  | [], lo, hf, h, hm => by cases hm
  | x :: l, lo, hf, h, hm => by
    obtain ⟨f1, f2, f3, f4, f5, f6⟩ := hf
    rcases List.mem_cons.1 hm with rfl | hm
    · exact ⟨f1, f3⟩
    · exact fit_mem f6 h hm

/-- The state of the loop over the groups. -/
structure OInv (a : List Bytes) (l : List Hunk) (n : Int) (i : Nat) (shift : Int) (out : List Block) (pe : Int) : Prop where
  le : i ≤ l.length
  eq : out ++ blocksF a n shift (groupsL n (l.drop i)) = blocksF a n 0 (groupsL n l)
  gf : GFit a n pe (groupsL n (l.drop i))
  lo : -shift ≤ max 0 pe
  hi : shift + newTotal (l.drop i) ≤ newTotal l
  pele : pe ≤ a.length
  len : out.length ≤ i

theorem OInv.zero {a : List Bytes} {l : List Hunk} {n : Int} (hn : 0 ≤ n) (h : (happly a l).2 = 0) : OInv a l n 0 0 [] (-1) :=
  ⟨Nat.zero_le _, rfl, blocks_flat hn h, by omega, by simp, by omega, Nat.le_refl _⟩

theorem newTotal_seg {l : List Hunk} {i k : Nat} (h : i ≤ k) : newTotal (seg l i k) + newTotal (l.drop k) = newTotal (l.drop i) := by
  rw [← seg_drop l h]
  simp [newTotal]

/-- A group is done. -/
theorem OInv.step {a : List Bytes} {l : List Hunk} {n : Int} (hn : 0 ≤ n) {i : Nat} {shift : Int} {out : List Block} {pe : Int} (h : OInv a l n i shift out pe) {k : Nat} (hik : i < k)
    (hg : groupsL n (l.drop i) = seg l i k :: groupsL n (l.drop k)) (hk : k ≤ l.length) :
    seg l i k ≠ [] ∧ ∃ p e : Nat, (p : Int) = max 0 (gbeg (seg l i k) - n) ∧ (e : Int) = min (a.length : Int) (gend (seg l i k) + n) ∧ Chain a e p (seg l i k) ∧ e ≤ a.length ∧ p ≤ e ∧ 0 ≤ p + shift ∧
      (blockR a e p (seg l i k) (p + shift)).oldLen = (e - p : Nat) ∧ (blockR a e p (seg l i k) (p + shift)).newLen + oldTotal (seg l i k) = (e - p : Nat) + newTotal (seg l i k) ∧
      OInv a l n k (shift + (blockR a e p (seg l i k) (p + shift)).newLen - (blockR a e p (seg l i k) (p + shift)).oldLen) (out ++ [blockR a e p (seg l i k) (p + shift)]) (min a.length (gend (seg l i k) + n)) := by
  obtain ⟨h1, h2, h3, h4, h5, h6, h7⟩ := h
  rw [hg] at h2 h3
  obtain ⟨g1, ⟨lo, g2⟩, g3, g4⟩ := h3
  obtain ⟨p, e, b1, b2, b3, b4, b5, b6, b7, b8, b9, b10, b11, b12⟩ := block_facts (shift := shift) (pe := pe) hn g1 g2
  have hb := blockOf_eq (a := a) (shift := shift) b2 b3
  rw [hb] at b1 b4 b10
  have hlen := newSeg_len b6 b7
  have hnt := newTotal_seg (l := l) (i := i) (k := k) (by omega)
  refine ⟨g1, p, e, b2, b3, b7, b6, b5, by omega, b4, by omega, hk, ?_, g4, by omega, by omega, by omega, by simp only [List.length_append, List.length_singleton]; omega⟩
  rw [← h2, blocksF, hb]
  simp

end Qv
end

section
/- slices.Grow at a slice of strings without elements and without room, walked. Condition: n strings take at most 2^47 bytes. -/
set_option linter.unusedVariables false
set_option linter.unusedSimpArgs false
namespace Go.Proofs
open Go.RowKit Go.Lib

theorem grow_room (a : Option Addr) (w : World) : Calls Tryz.prog 47 #[.slice a 0 0, .int .i64 0] w fun e w' => e = .returned (.slice a 0 0) ∧ w' = w := by
  go_enter Tryz.func47, Tryz.ntmps47
  go_wp2
  go_ret
  exact ⟨rfl, rfl⟩

theorem info9 : (Tryz.prog.info? 9).map (fun inf => (inf.size, inf.bytes, inf.zero)) = some (1, 16, some (.string ⟨#[]⟩)) := by kernel_rfl

/-- What the new row holds. -/
def growCells (w : World) (n : Nat) : Array Value := Builtin.zeroCells (Value.string ⟨#[]⟩).cells n ++ Builtin.zeroCells (Value.string ⟨#[]⟩).cells (grownCap w n 0 9 - n)

theorem growCells_size (w : World) (n : Nat) : (growCells w n).size = grownCap w n 0 9 := by
  have hGn : n ≤ grownCap w n 0 9 := grownCap_ge w _ _ _
  unfold growCells
  rw [Array.size_append, size_zeroCells, size_zeroCells]
  simp [Value.cells]
  omega

set_option maxHeartbeats 1000000 in
theorem grow_grow (a : Option Addr) (n : Nat) (w : World) (h0 : 0 < n) (hbig : n * 16 ≤ 140737488355328) :
    Calls Tryz.prog 47 #[.slice a 0 0, .int .i64 n] w fun e w' => e = .returned (.slice (some ⟨w.heap.size, 0, none⟩) 0 (grownCap w n 0 9)) ∧ w' = w.drew.alloc (.cells (growCells w n) 9) := by
  obtain ⟨i0, hi0, hs0, hb0, hz0⟩ : ∃ i, Tryz.prog.info? 9 = some i ∧ i.size = 1 ∧ i.bytes = 16 ∧ i.zero = some (.string ⟨#[]⟩) := by
    have h := info9
    cases hq : Tryz.prog.info? 9 with
    | none => rw [hq] at h; cases h
    | some i =>
      rw [hq] at h
      simp only [Option.map_some, Option.some.injEq, Prod.mk.injEq] at h
      exact ⟨i, rfl, h.1, h.2.1, h.2.2⟩
  have h2 : wrap64 ((0 : Int) - 0) = 0 := by unfold wrap64; omega
  have h3 : wrap64 ((n : Int) - 0) = n := by unfold wrap64; omega
  have h1 : ¬ ((n : Int) < 0) := by omega
  have h4 : (n : Int) > 0 := by omega
  have hold : (Builtin.firstCells i0.size 0 (.slice a 0 0)).run Tryz.prog w.drew = .ok #[] w.drew := by
    cases a with
    | none => exact run_firstCells_none w.drew i0.size 0 0 0
    | some p => exact run_firstCells_some w.drew i0.size 0 p 0 0 [] (by simp) (by simp)
  have hrz : ∀ ty, (Builtin.append_ #[29, 3] ty #[.slice a 0 0, .int .i64 (n : Int)]).run Tryz.prog w =
      .ok (.slice (some ⟨w.heap.size, 0, none⟩) n (grownCap w n 0 9)) (w.drew.alloc (.cells (growCells w n) 9)) := fun ty => by
    have h := Lib.run_append_grow_zeros w 29 3 ty 9 i0 (.string ⟨#[]⟩) .i64 .i64 Tryz.underlying29 Tryz.underlying3 hi0 hz0 a 0 0 [] hold n h0 (by omega) (by omega) (by omega) (by rw [hb0]; omega)
      (by rw [hb0]; exact growslice_fits (by omega) (by omega))
    simpa [growCells] using h
  have hGn : n ≤ grownCap w n 0 9 := grownCap_ge w _ _ _
  obtain ⟨G, hG⟩ : ∃ G, G = grownCap w n 0 9 := ⟨_, rfl⟩
  rw [← hG] at hrz hGn ⊢
  have hG63 : G ≤ 9223372036854775807 := by
    have := grownCap_le_maxLen w n 0 9 (by unfold maxLen; omega)
    rw [← hG] at this
    unfold maxLen at this
    omega
  clear hold hG
  go_enter Tryz.func47, Tryz.ntmps47
  cases a with
  | none =>
    go_wp2_with (at_builtin; refine Lib.wpList_append_run _ rfl _ _ _ _ rfl _ _ rfl rfl _ _ (hrz _) ?_)
    all_goals (go_ret; exact ⟨rfl, rfl⟩)
  | some p =>
    obtain ⟨ab, ao, asp⟩ := p
    go_wp2_with (at_builtin; refine Lib.wpList_append_run _ rfl _ _ _ _ rfl _ _ rfl rfl _ _ (hrz _) ?_)
    all_goals (go_ret; exact ⟨rfl, rfl⟩)

end Go.Proofs
end

section
/- Contracts: slices.Grow and slices.Concat. No condition. -/
set_option linter.unusedVariables false
set_option linter.unusedSimpArgs false
open Go Go.Proofs Go.RowKit
namespace Qv

theorem grow_ok (n : Nat) (h : n * 16 ≤ 140737488355328) : GrowTo C 47 n (fun r => r = .fresh 9 1 []) := by
  refine ⟨⟨_, Tryz.func47, rfl, rfl⟩, fun imm w a hJ hn hi => ?_⟩
  by_cases h0 : n = 0
  · subst h0
    refine (grow_room a w).mono ?_
    rintro e w' ⟨rfl, rfl⟩
    exact ⟨_, .fresh 9 1 [], rfl, rfl, ⟨a, 0, rfl, .inl ⟨rfl, rfl, .sl0 a 0⟩⟩, Below.refl _ _⟩
  · refine (grow_grow a n w (by omega) h).mono ?_
    rintro e w' ⟨rfl, rfl⟩
    have hb : Below w.heap.size w (w.drew.alloc (.cells (growCells w n) 9)) :=
      ⟨rfl, rfl, rfl, by show w.heap.size ≤ (w.heap.push _).size; simp, fun i hi => by
        show (w.heap.push _)[i]? = w.heap[i]?
        rw [Array.getElem?_push_lt hi, Array.getElem?_eq_getElem hi]⟩
    refine ⟨_, .fresh 9 1 [], rfl, rfl, ⟨_, _, rfl, .inr ⟨w.heap.size, 0, growCells w n, (0, 0), rfl, Nat.le_refl _, ?_, by simp, World.alloc_heap_new w.drew _, fun i _ h2 => ?_, .sl0 _ _⟩⟩, hb⟩
    · show w.heap.size < (w.heap.push _).size; simp
    · have hlt : i < (growCells w n).size := by rw [growCells_size]; omega
      refine ⟨⟨(growCells w n)[i], ?_⟩, World.frozen?_alloc_new w.drew _ _ i⟩
      have : (w.drew.alloc (.cells (growCells w n) 9)).cell? ⟨w.drew.heap.size, i, none⟩ = _ := World.cell?_alloc_new ..
      refine this.trans ?_
      simp [hlt]

def encL (l : List Bytes) : List AV := [encS l]

theorem flat_take {α : Type} (ls : List (List α)) (k : Nat) (h : k < ls.length) : (ls.take (k + 1)).flatten = (ls.take k).flatten ++ ls[k] := by
  rw [← List.take_append_getElem h, List.flatten_append]
  simp

theorem flat_len {α : Type} (ls : List (List α)) : ls.flatten.length = (ls.map List.length).sum := List.length_flatten

theorem concat_ok (ls : List (List Bytes)) (h1 : ls.length ≤ 2 ^ 40) (h2 : ls.flatten.length ≤ 2 ^ 40) : CallsTo C 23 [.sl (ls.map encL)] (fun r => r = .fresh 9 1 (ls.flatten.map enc1)) := by
  rw [flat_len] at h2
  refine callsTo_of_ev' Tryz.func23 rfl rfl rfl ?_
  refine loopR 36 (fun k : Nat => [(0, .p (.sl (ls.map encL))), (3, .p (.int .i64 (((ls.take k).map List.length).sum : Nat))), (9, .p (.sl (ls.map encL))), (10, .p (.int .i64 (ls.map encL).length)), (11, .p (.int .i64 k))]) (fun _ => []) (fun k => k ≤ ls.length) (fun k => ls.length - k) 0 (Nat.zero_le _) rfl ⟨Weak.refl _, Weak.refl _, Weak.refl _, Weak.refl _, Weak.refl _, trivial⟩ trivial ?_
  intro k hk
  refine ⟨ltc (fun hlt => ?_) (fun hge => ?_)⟩
  · have s1 := sum_take List.length ls k hlt
    have s2 := sum_take_le List.length ls (k + 1)
    refine ⟨by omega, _, idx_map rfl hlt, rfl, (((ls.take (k + 1)).map List.length).sum : Nat), by rw [List.length_map, wrap64 (by omega) (by omega)]; omega, ⟨dc (fun h3 => absurd h3 (by omega)) (fun h3 => ?_)⟩⟩
    exact ⟨k + 1, wrap64 (by first | omega | (simp only [List.length_map, List.length_append, List.length_cons, List.length_nil] at *; omega)) (by first | omega | (simp only [List.length_map, List.length_append, List.length_cons, List.length_nil] at *; omega)), roundR (k + 1) hlt (by omega) rfl ⟨Weak.refl _, Weak.refl _, Weak.refl _, Weak.refl _, Weak.refl _, trivial⟩ trivial⟩
  · obtain rfl : k = ls.length := by omega
    rw [List.take_length]
    refine .inl ⟨_, grow_ok _ (by omega), ?_⟩
    rintro r rfl
    refine loopR 36 (fun k : Nat => [(6, .tip 24 9 1 ((ls.take k).flatten.map enc1)), (25, .p (.sl (ls.map encL))), (26, .p (.int .i64 (ls.map encL).length)), (27, .p (.int .i64 k))]) (fun _ => []) (fun k => k ≤ ls.length) (fun k => ls.length - k) 0 (Nat.zero_le _) rfl ⟨Weak.refl _, Weak.refl _, Weak.refl _, Weak.refl _, trivial⟩ trivial ?_
    intro k hk
    refine ⟨ltc (fun hlt => ?_) (fun hge => ?_)⟩
    · have s1 := sum_take List.length ls k hlt
      have s2 := sum_take_le List.length ls (k + 1)
      refine ⟨by omega, _, idx_map rfl hlt, rfl, all_enc1 _, all_enc1 _, ?_, ((ls.take (k + 1)).flatten).map enc1, ?_, k + 1, wrap64 (by first | omega | (simp only [List.length_map, List.length_append, List.length_cons, List.length_nil] at *; omega)) (by first | omega | (simp only [List.length_map, List.length_append, List.length_cons, List.length_nil] at *; omega)), roundR (k + 1) hlt (by omega) rfl ⟨Weak.refl _, Weak.refl _, Weak.refl _, Weak.refl _, trivial⟩ trivial⟩
      · simp only [List.length_map, List.length_flatten]; omega
      · rw [flat_take ls k hlt, List.map_append]
    · obtain rfl : k = ls.length := by omega
      rw [List.take_length]
      exact .inl rfl

end Qv
end
