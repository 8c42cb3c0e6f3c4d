/- Several texts in one: The context with the variables of strconv and bytealg; the library's functions that Parse calls, as contracts, What parsing a text of blocks computes, in plain terms, Parsing the text of blocks yields the blocks; what parses is the text of its blocks, Contracts: a number, a span and a header in a text, Contracts: a header in a text. No condition. -/
import Derived.Test.YthkmombkgelcnaaGreatDoorSA

section
/- The context with the variables of strconv and bytealg; the library's functions that Parse calls, as contracts. No condition. -/
set_option linter.unusedVariables false
set_option linter.unusedSimpArgs false
open Go Go.Proofs Go.RowKit
namespace Qv

/-- What the contracts of the library's texts lean on. -/
def strJ (w : World) : Prop :=
  tabJ w ∧ (∃ m, w.cell? ⟨0, 0, none⟩ = some (.int .i64 m)) ∧ (∃ tp p, w.var? Tryz.prog "strconv.ErrSyntax" = some #[.iface tp p]) ∧ (∃ tp p, w.var? Tryz.prog "strconv.ErrRange" = some #[.iface tp p])

theorem glob_e1 : Tryz.prog.globalNamed "strconv.ErrSyntax" = some 2 := by kernel_rfl
theorem glob_e2 : Tryz.prog.globalNamed "strconv.ErrRange" = some 3 := by kernel_rfl

theorem strJ_stable (w w' : World) (h : ∀ k, k < 6 → w'.heap[k]? = w.heap[k]?) (hJ : strJ w) : strJ w' := by
  obtain ⟨h1, ⟨m, h2⟩, ⟨t1, p1, h3⟩, ⟨t2, p2, h4⟩⟩ := hJ
  refine ⟨tabJ_stable w w' h h1, ⟨m, ?_⟩, ⟨t1, p1, ?_⟩, ⟨t2, p2, ?_⟩⟩
  · rw [← h2]
    simp only [World.cell?, h 0 (by decide)]
  · rw [← h3]
    simp only [World.var?, glob_e1, Option.bind_some, h 2 (by decide)]
  · rw [← h4]
    simp only [World.var?, glob_e2, Option.bind_some, h 3 (by decide)]

noncomputable def D : Ctx := ⟨Tryz.prog, tab, tab_ok, strJ, 6, rfl, 70, 5, strJ_stable, [], ⟨[], [], false, []⟩⟩

/-- What is proved without these variables. -/
theorem CallsTo.up {f : FuncId} {args : List AV} {R : Ret → Prop} (h : CallsTo C f args R) : CallsTo D f args R :=
  ⟨h.1, fun imm w vs hJ hn hi hl hr => h.2 imm w vs hJ.1 hn hi hl hr⟩

theorem below_drewN (w : World) (k : Nat) : Below w.heap.size w (w.drewN k) :=
  ⟨rfl, rfl, rfl, Nat.le_refl _, fun i hi => rfl⟩

theorem cut_ok (s sep : Bytes) (hs : s.length < 4294967281) : CallsTo D 33 [.str s, .str sep] (fun r => r = .val (.tup [.str (Lib.cut s sep).1, .str (Lib.cut s sep).2.1, .bool (Lib.cut s sep).2.2])) := by
  refine ⟨⟨_, Tryz.func33, rfl, rfl⟩, fun imm w vs hJ hn hi hl hr => ?_⟩
  match vs, hl with
  | [v0, v1], _ =>
  have h := hr 0 v0 _ rfl rfl
  have h' := hr 1 v1 _ rfl rfl
  obtain rfl : v0 = .string ⟨s.toArray⟩ := by cases h; rfl
  obtain rfl : v1 = .string ⟨sep.toArray⟩ := by cases h'; rfl
  obtain ⟨-, ⟨m, hm⟩, -⟩ := hJ
  refine (Tryz.strings_Cut ⟨s.toArray⟩ ⟨sep.toArray⟩ m w (by rw [Lib.size_eq]; exact hs) hm).mono ?_
  rintro e w' ⟨rfl, n, rfl⟩
  refine ⟨_, _, rfl, rfl, ?_, below_drewN w n⟩
  refine .tup [_, _, _] [_, _, _] rfl fun i c x h1 h2 => ?_
  match i, h1, h2 with
  | 0, h1, h2 => cases h1; cases h2; exact .str _
  | 1, h1, h2 => cases h1; cases h2; exact .str _
  | 2, h1, h2 => cases h1; cases h2; exact .bool _

theorem cutP_ok (s p : Bytes) : CallsTo D 34 [.str s, .str p] (fun r => r = .val (.tup [.str (Lib.trimPrefix s p), .bool (Lib.hasPrefix s p)])) := by
  refine ⟨⟨_, Tryz.func34, rfl, rfl⟩, fun imm w vs hJ hn hi hl hr => ?_⟩
  match vs, hl with
  | [v0, v1], _ =>
  have h := hr 0 v0 _ rfl rfl
  have h' := hr 1 v1 _ rfl rfl
  obtain rfl : v0 = .string ⟨s.toArray⟩ := by cases h; rfl
  obtain rfl : v1 = .string ⟨p.toArray⟩ := by cases h'; rfl
  refine (Tryz.strings_CutPrefix ⟨s.toArray⟩ ⟨p.toArray⟩ w).mono ?_
  rintro e w' ⟨rfl, rfl⟩
  refine ⟨_, _, rfl, rfl, ?_, Below.refl _ _⟩
  refine .tup [_, _] [_, _] rfl fun i c x h1 h2 => ?_
  match i, h1, h2 with
  | 0, h1, h2 => cases h1; cases h2; exact .str _
  | 1, h1, h2 => cases h1; cases h2; exact .bool _

theorem cutS_ok (s p : Bytes) (hs : s.length ≤ 9223372036854775807) : CallsTo D 35 [.str s, .str p] (fun r => r = .val (.tup [.str (Lib.trimSuffix s p), .bool (Lib.hasSuffix s p)])) := by
  refine ⟨⟨_, Tryz.func35, rfl, rfl⟩, fun imm w vs hJ hn hi hl hr => ?_⟩
  match vs, hl with
  | [v0, v1], _ =>
  have h := hr 0 v0 _ rfl rfl
  have h' := hr 1 v1 _ rfl rfl
  obtain rfl : v0 = .string ⟨s.toArray⟩ := by cases h; rfl
  obtain rfl : v1 = .string ⟨p.toArray⟩ := by cases h'; rfl
  refine (Tryz.strings_CutSuffix ⟨s.toArray⟩ ⟨p.toArray⟩ w (by rw [Lib.size_eq]; exact hs)).mono ?_
  rintro e w' ⟨rfl, rfl⟩
  refine ⟨_, _, rfl, rfl, ?_, Below.refl _ _⟩
  refine .tup [_, _] [_, _] rfl fun i c x h1 h2 => ?_
  match i, h1, h2 with
  | 0, h1, h2 => cases h1; cases h2; exact .str _
  | 1, h1, h2 => cases h1; cases h2; exact .bool _

theorem below_bytes (w : World) (t : ByteArray) : Below w.heap.size w (Lib.bytesWorld w 5 t) :=
  ⟨by unfold Lib.bytesWorld World.freeze; split <;> rfl, by unfold Lib.bytesWorld World.freeze; split <;> rfl, by unfold Lib.bytesWorld World.freeze; split <;> rfl, by rw [Lib.bytesWorld_size]; omega, fun i hi => Lib.bytesWorld_at_old w 5 t i hi⟩

/-- The number that a string spells. -/
def atoiV (s : Bytes) : Option Int := match Lib.atoiAll s with
  | .ok v => some v
  | _ => none

theorem atoi_ok (s : Bytes) (hs : s.length ≤ 281474976710656) : CallsTo D 69 [.str s] (fun r => (∃ v, atoiV s = some v ∧ r = .val (.tup [.int .i64 v, .nili])) ∨ atoiV s = none ∧ ∃ n, r = .val (.tup [.int .i64 n, .iface 125 (.imp [])])) := by
  refine ⟨⟨_, Tryz.func69, rfl, rfl⟩, fun imm w vs hJ hn hi hl hr => ?_⟩
  match vs, hl with
  | [v0], _ =>
  have h := hr 0 v0 _ rfl rfl
  obtain rfl : v0 = .string ⟨s.toArray⟩ := by cases h; rfl
  obtain ⟨-, -, ⟨t1, p1, h1⟩, ⟨t2, p2, h2⟩⟩ := hJ
  have hsz : (⟨s.toArray⟩ : ByteArray).size ≤ 281474976710656 := by rw [Lib.size_eq]; exact hs
  have bad : ∀ (n : Int) (N : Nat) (w' : World), Below w.heap.size w w' → atoiV s = none →
      ∃ v r, Ending.returned (.tuple #[.int .i64 n, .iface 125 (.pointer (some ⟨N, 0, none⟩))]) = Ending.returned v ∧ ((∃ v, atoiV s = some v ∧ r = .val (.tup [.int .i64 v, .nili])) ∨ atoiV s = none ∧ ∃ n, r = .val (.tup [.int .i64 n, .iface 125 (.imp [])])) ∧ RetOK imm w.heap.size w' v r ∧ Below w.heap.size w w' := fun n N w' hb hn => by
    refine ⟨_, .val (.tup [.int .i64 n, .iface 125 (.imp [])]), rfl, .inr ⟨hn, n, rfl⟩, ?_, hb⟩
    refine .tup [_, _] [_, _] rfl fun i c x h1 h2 => ?_
    match i, h1, h2 with
    | 0, h1, h2 => cases h1; cases h2; exact .int _ _
    | 1, h1, h2 =>
      cases h1; cases h2
      exact .iface _ _ _ (.imp N 0 [] (fun _ => undef) (fun j y h => by simp at h) (fun j y h => by simp at h) (fun j y h => by simp at h) (fun j y h => by simp at h))
  cases hA : Lib.atoiAll s
  · rename_i v
    have hv : atoiV s = some v := by unfold atoiV; rw [hA]
    refine (Tryz.strconv_Atoi_ok ⟨s.toArray⟩ (by omega) v hA w).mono ?_
    rintro e w' ⟨rfl, hw⟩
    have hb : Below w.heap.size w w' := by
      rcases hw with rfl | ⟨t, rfl⟩
      · exact Below.refl _ _
      · exact below_bytes w t
    refine ⟨_, _, rfl, .inl ⟨v, hv, rfl⟩, ?_, hb⟩
    refine .tup [_, _] [_, _] rfl fun i c x h1 h2 => ?_
    match i, h1, h2 with
    | 0, h1, h2 => cases h1; cases h2; exact .int _ _
    | 1, h1, h2 => cases h1; cases h2; exact .nili
  · have hv : atoiV s = none := by unfold atoiV; rw [hA]
    refine (Any.strconv_Atoi_syntax_var Tryz.laysC172 ⟨s.toArray⟩ hsz hA t1 p1 w h1).mono ?_
    rintro e w' ⟨N, rfl, -, -, hb⟩
    exact bad _ N w' hb hv
  · have hv : atoiV s = none := by unfold atoiV; rw [hA]
    refine (Tryz.strconv_Atoi_range_var ⟨s.toArray⟩ hsz hA t2 p2 w h2).mono ?_
    rintro e w' ⟨N, rfl, -, -, hb⟩
    exact bad _ N w' hb hv

end Qv
end

section
/- What parsing a text of blocks computes, in plain terms. No condition. -/
set_option linter.unusedVariables false
open Go Go.Proofs
namespace Qv

/-- The number that a string is the numeral of. -/
def numV (s : Bytes) : Option Int := match atoiV s with
  | some v => if inR v = true ∧ s = Lib.itoa v then some v else none
  | none => none

/-- The place and the number of lines that a string says. -/
def spanV (s : Bytes) : Option (Int × Int) :=
  if (Lib.cut s [44]).2.2 = true then match numV (Lib.cut s [44]).1, numV (Lib.cut s [44]).2.1 with
    | some a, some n => if n > 0 then (if a = 0 then none else some (a - 1, n)) else some (a, n)
    | _, _ => none
  else none

def hdP : Bytes := [64, 64, 32, 45]
def hdS : Bytes := [32, 64, 64]
def hdM : Bytes := [32, 43]
def mid (s : Bytes) : Bytes := Lib.trimSuffix (Lib.trimPrefix s hdP) hdS

/-- The block of a header. -/
def headerV (s : Bytes) : Option Block :=
  if Lib.hasPrefix s hdP = true ∧ Lib.hasSuffix (Lib.trimPrefix s hdP) hdS = true ∧ (Lib.cut (mid s) hdM).2.2 = true then
    match spanV (Lib.cut (mid s) hdM).1, spanV (Lib.cut (mid s) hdM).2.1 with
    | some x, some y => some ⟨x.1, x.2, y.1, y.2, []⟩
    | _, _ => none
  else none

/-- The lines of a text, each with whether it ended. -/
def lns : Bytes → Bytes → List (Bytes × Bool)
  | acc, [] => if acc = [] then [] else [(acc, false)]
  | acc, c :: s => if c = 10 then (acc, true) :: lns [] s else lns (acc ++ [c]) s

def addL (x : Bytes) (b : Block) : Block := { b with lines := b.lines ++ [x] }

/-- The lines gone through: n of them; what is still owed of the old and of the new; the blocks. -/
def pF (n : Nat) (old new : Int) (done : List Block) (cur : Option Block) (heads : List Nat) : List (Bytes × Bool) → Nat ⊕ (List Block × List Nat × Nat × Int)
  | [] => .inr (done ++ cur.toList, heads, n, old + new)
  | (x, e) :: r =>
    if e = false then .inl (n + 1)
    else if old + new = 0 then match headerV x with
      | none => .inl (n + 1)
      | some b => pF (n + 1) b.oldLen b.newLen (done ++ cur.toList) (some b) (heads ++ [n + 1]) r
    else if isSgn x = true ∧ 0 ≤ old - nK [x] - nR [x] ∧ 0 ≤ new - nK [x] - nA [x] then
      pF (n + 1) (old - nK [x] - nR [x]) (new - nK [x] - nA [x]) done (cur.map (addL x)) heads r
    else .inl (n + 1)

def uparse (s : Bytes) : List Block × Int × Int := match pF 0 0 0 [] none [] (lns [] s) with
  | .inl n => ([], n, 3)
  | .inr (out, heads, n, o) => if 0 < o then ([], (n : Int) + 1, 3) else if (checkL out).2 = 0 then (out, 0, 0) else ([], ((heads.getD (checkL out).1.toNat 0 : Nat) : Int), (checkL out).2)

end Qv
end

section
/- Parsing the text of blocks yields the blocks; what parses is the text of its blocks. No condition. -/
set_option linter.unusedVariables false
set_option linter.unusedSimpArgs false
open Go Go.Proofs
namespace Qv

/-! ### Cutting -/

theorem occAt_split {s sub : Bytes} {i : Nat} (h : Lib.occAt s sub i = true) : s = s.take i ++ (sub ++ s.drop (i + sub.length)) := by
  unfold Lib.occAt at h
  obtain ⟨t, ht⟩ := List.isPrefixOf_iff_prefix.1 h
  have h1 : s.drop (i + sub.length) = t := by
    rw [← List.drop_drop, ← ht, List.drop_left]
  rw [h1, ht, List.take_append_drop]

theorem cut_spec (s sep : Bytes) : ((Lib.cut s sep).2.2 = true ∧ s = (Lib.cut s sep).1 ++ (sep ++ (Lib.cut s sep).2.1)) ∨ (Lib.cut s sep = (s, [], false)) := by
  unfold Lib.cut
  split
  · rename_i h
    rcases Lib.index_spec s sep with ⟨h1, -⟩ | ⟨i, h1, h2, h3, -⟩
    · omega
    · left
      refine ⟨rfl, ?_⟩
      simp only
      rw [h1, Int.toNat_natCast]
      exact occAt_split h3
  · exact .inr rfl

theorem cut_first (c : UInt8) (t x y : Bytes) (hc : c ∉ x) : Lib.cut (x ++ ((c :: t) ++ y)) (c :: t) = (x, y, true) := by
  have hi : Lib.index (x ++ ((c :: t) ++ y)) (c :: t) = x.length := by
    refine Lib.index_hit (i := x.length) (fun j hj => ?_) (by simp) ?_
    · cases ho : Lib.occAt (x ++ ((c :: t) ++ y)) (c :: t) j with
      | false => rfl
      | true =>
        have := Lib.occAt_head rfl ho
        rw [List.getElem?_append_left hj] at this
        exact absurd (List.mem_of_getElem? this) hc
    · unfold Lib.occAt
      rw [List.drop_left]
      exact List.isPrefixOf_iff_prefix.2 ⟨y, rfl⟩
  unfold Lib.cut
  rw [hi, if_pos (by omega), Int.toNat_natCast, List.take_left]
  have : List.drop (x.length + (c :: t).length) (x ++ ((c :: t) ++ y)) = y := by
    rw [← List.drop_drop, List.drop_left, List.drop_left]
  rw [this]

/-! ### Lines -/

theorem index1_cons (c : UInt8) (s : Bytes) : Lib.index (c :: s) [10] = if c = 10 then 0 else if Lib.index s [10] = -1 then -1 else Lib.index s [10] + 1 := by
  rw [Lib.index]
  by_cases h : c = 10
  · subst h; simp [List.isPrefixOf]
  · have : List.isPrefixOf [10] (c :: s) = false := by
      simp only [List.isPrefixOf, Bool.and_true]
      simpa using fun e : (10 : UInt8) = c => h e.symm
    rw [this]
    simp [h]

theorem cut1_cons (c : UInt8) (s : Bytes) (h : c ≠ 10) : Lib.cut (c :: s) [10] = (c :: (Lib.cut s [10]).1, (Lib.cut s [10]).2.1, (Lib.cut s [10]).2.2) := by
  have hge := Lib.index_ge s [10]
  unfold Lib.cut
  rw [index1_cons, if_neg h]
  by_cases h1 : Lib.index s [10] = -1
  · rw [h1]; simp
  · rw [if_neg h1]
    have h2 : (Lib.index s [10] + 1).toNat = (Lib.index s [10]).toNat + 1 := by omega
    rw [if_pos (by omega), if_pos (by omega), h2]
    simp

theorem cut1_lf (s : Bytes) : Lib.cut (10 :: s) [10] = ([], s, true) := by
  unfold Lib.cut
  rw [index1_cons, if_pos rfl]
  simp

theorem lns_acc (s : Bytes) : ∀ acc : Bytes, acc ++ s ≠ [] → lns acc s = (acc ++ (Lib.cut s [10]).1, (Lib.cut s [10]).2.2) :: lns [] (Lib.cut s [10]).2.1 := by
  induction s with
  | nil =>
    intro acc h
    rw [List.append_nil] at h
    have : Lib.cut [] [10] = ([], [], false) := by decide
    rw [this]
    simp [lns, h]
  | cons c s ih =>
    intro acc h
    by_cases hc : c = 10
    · subst hc
      rw [cut1_lf, lns, if_pos rfl, List.append_nil]
    · rw [lns, if_neg hc, ih (acc ++ [c]) (by simp), cut1_cons c s hc]
      simp

theorem lns_cut (s : Bytes) (h : s ≠ []) : lns [] s = ((Lib.cut s [10]).1, (Lib.cut s [10]).2.2) :: lns [] (Lib.cut s [10]).2.1 := by
  rw [lns_acc s [] (by simpa using h), List.nil_append]

theorem lns_line (x r : Bytes) (h : (10 : UInt8) ∉ x) : lns [] (x ++ [10] ++ r) = (x, true) :: lns [] r := by
  rw [lns_cut _ (by simp), List.append_assoc, cut_first 10 [] x r h]

theorem lns_lf (s : Bytes) : ∀ acc : Bytes, (10 : UInt8) ∉ acc → ∀ p, p ∈ lns acc s → (10 : UInt8) ∉ p.1 := by
  induction s with
  | nil =>
    intro acc ha p hp
    unfold lns at hp
    split at hp
    · cases hp
    · obtain rfl := List.mem_singleton.1 hp; exact ha
  | cons c s ih =>
    intro acc ha p hp
    unfold lns at hp
    split at hp
    · rcases List.mem_cons.1 hp with rfl | hp
      · exact ha
      · exact ih [] (by simp) p hp
    · rename_i hc
      exact ih (acc ++ [c]) (by simp [ha, Ne.symm hc]) p hp

theorem lns_text (s : Bytes) : ∀ acc : Bytes, (∀ p, p ∈ lns acc s → p.2 = true) → acc ++ s = (lns acc s).flatMap (fun p => p.1 ++ [10]) ∧ (lns acc s).length = s.count 10 := by
  induction s with
  | nil =>
    intro acc h
    unfold lns at h ⊢
    split at h
    · rename_i ha; subst ha; simp
    · have := h (acc, false) (by simp)
      cases this
  | cons c s ih =>
    intro acc h
    unfold lns at h ⊢
    by_cases hc : c = 10
    · subst hc
      rw [if_pos rfl] at h ⊢
      obtain ⟨h1, h2⟩ := ih [] (fun p hp => h p (List.mem_cons_of_mem _ hp))
      rw [List.nil_append] at h1
      constructor
      · rw [List.flatMap_cons, ← h1]; simp
      · rw [List.length_cons, h2]; simp
    · rw [if_neg hc] at h ⊢
      obtain ⟨h1, h2⟩ := ih (acc ++ [c]) h
      constructor
      · rw [← h1]; simp
      · rw [h2, List.count_cons_of_ne hc]

theorem lns_len (s : Bytes) : ∀ acc : Bytes, (lns acc s).length ≤ s.count 10 + 1 := by
  induction s with
  | nil => intro acc; unfold lns; split <;> simp
  | cons c s ih =>
    intro acc
    unfold lns
    by_cases hc : c = 10
    · subst hc
      rw [if_pos rfl]
      have := ih []
      simp; omega
    · rw [if_neg hc, List.count_cons_of_ne hc]
      exact ih _

/-! ### Numerals -/

theorem dec_digits (u : Nat) : ∀ c, c ∈ Lib.decDigits u → 48 ≤ c.toNat ∧ c.toNat ≤ 57 := by
  induction u using Nat.strongRecOn with
  | _ u ih =>
    intro c hc
    rw [Lib.decDigits] at hc
    split at hc
    · rename_i h
      obtain rfl := List.mem_singleton.1 hc
      have : (UInt8.ofNat (48 + u)).toNat = 48 + u := by simp; omega
      omega
    · rcases List.mem_append.1 hc with hc | hc
      · exact ih _ (by omega) c hc
      · obtain rfl := List.mem_singleton.1 hc
        have : (UInt8.ofNat (48 + u % 10)).toNat = 48 + u % 10 := by simp; omega
        omega

theorem dec_ne (u : Nat) : Lib.decDigits u ≠ [] := by
  rw [Lib.decDigits]
  split <;> simp

theorem parse_app (l1 l2 : Bytes) : ∀ (acc a : Nat), Lib.parseUint10 acc l1 = .ok a → Lib.parseUint10 acc (l1 ++ l2) = Lib.parseUint10 a l2 := by
  induction l1 with
  | nil =>
    intro acc a h
    unfold Lib.parseUint10 at h
    injection h with h
    subst h
    rfl
  | cons c l ih =>
    intro acc a h
    rw [List.cons_append, Lib.parseUint10]
    rw [Lib.parseUint10] at h
    split at h
    · rename_i h1
      rw [if_pos h1]
      split at h
      · cases h
      · rename_i h2
        rw [if_neg h2]
        split at h
        · cases h
        · rename_i h3
          rw [if_neg h3]
          exact ih _ _ h
    · cases h

theorem parse_dec (u : Nat) (hu : u < 1000000000000000000) : Lib.parseUint10 0 (Lib.decDigits u) = .ok u := by
  induction u using Nat.strongRecOn with
  | _ u ih =>
    have one : ∀ (a d : Nat), d < 10 → a < 100000000000000000 → Lib.parseUint10 a [UInt8.ofNat (48 + d)] = .ok (a * 10 + d) := fun a d hd ha => by
      have : (UInt8.ofNat (48 + d)).toNat = 48 + d := by simp; omega
      rw [Lib.parseUint10, this, if_pos (by omega), if_neg (by omega), if_neg (by omega)]
      have e : 48 + d - 48 = d := by omega
      rw [e]
      rfl
    rw [Lib.decDigits]
    split
    · rename_i h
      have := one 0 u h (by omega)
      simpa using this
    · rename_i h
      rw [parse_app _ _ _ _ (ih (u / 10) (by omega) (by omega)), one (u / 10) (u % 10) (by omega) (by omega)]
      congr 1; omega

theorem atoiV_itoa (v : Int) (h0 : 0 ≤ v) (h1 : v < 1000000000000000000) : atoiV (Lib.itoa v) = some v := by
  obtain ⟨u, rfl⟩ := Int.eq_ofNat_of_zero_le h0
  have hi : Lib.itoa (u : Int) = Lib.decDigits u := by unfold Lib.itoa; rw [if_neg (by omega), Int.toNat_natCast]
  rw [hi]
  have hp := parse_dec u (by omega)
  have hd := dec_digits u
  cases hl : Lib.decDigits u with
  | nil => exact absurd hl (dec_ne u)
  | cons c r =>
    rw [hl] at hp hd
    have hc := hd c (List.mem_cons_self ..)
    have : Lib.atoiAll (c :: r) = .ok (u : Int) := by
      unfold Lib.atoiAll
      simp only
      rw [if_neg (by omega)]
      unfold Lib.parseMag
      rw [if_neg (by simp), hp]
      simp only
      rw [if_neg (by omega), if_neg (by omega), if_neg (by omega)]
    unfold atoiV
    rw [this]

theorem itoa_digits (v : Int) (h0 : 0 ≤ v) : ∀ c, c ∈ Lib.itoa v → 48 ≤ c.toNat ∧ c.toNat ≤ 57 := by
  unfold Lib.itoa
  rw [if_neg (by omega)]
  exact dec_digits _

theorem itoa_free (v : Int) (h0 : 0 ≤ v) (c : UInt8) (hc : c.toNat < 48) : c ∉ Lib.itoa v := fun h => by
  have := itoa_digits v h0 c h
  omega

theorem numV_itoa (v : Int) (h0 : 0 ≤ v) (h1 : v ≤ 1099511627776) : numV (Lib.itoa v) = some v := by
  unfold numV
  rw [atoiV_itoa v h0 (by omega)]
  simp only
  rw [if_pos ⟨by simp [inR]; omega, trivial⟩]

theorem numV_some {s : Bytes} {v : Int} (h : numV s = some v) : s = Lib.itoa v ∧ 0 ≤ v ∧ v ≤ 1099511627776 := by
  unfold numV at h
  split at h
  · rename_i w hw
    split at h
    · rename_i hv
      obtain rfl := Option.some.inj h
      have : 0 ≤ w ∧ w ≤ 1099511627776 := by simpa [inR] using hv.1
      exact ⟨hv.2, this⟩
    · cases h
  · cases h

/-! ### Spans and headers -/

theorem spanV_place (at_ n : Int) (ha : 0 ≤ at_) (hn : 0 ≤ n) (hs : at_ + n ≤ 1099511627776) : spanV (placeS at_ n) = some (at_, n) := by
  unfold placeS spanV
  have hfree : (44 : UInt8) ∉ Lib.itoa (if n > 0 then at_ + 1 else at_) := itoa_free _ (by split <;> omega) 44 (by decide)
  rw [List.append_assoc, cut_first 44 [] _ _ hfree]
  simp only [if_true]
  rw [numV_itoa _ (by split <;> omega) (by split <;> omega), numV_itoa n hn (by omega)]
  simp only
  by_cases h : n > 0
  · rw [if_pos h, if_pos h, if_neg (by omega)]
    congr 2; omega
  · rw [if_neg h, if_neg h]

theorem spanV_some {s : Bytes} {x : Int × Int} (h : spanV s = some x) : s = placeS x.1 x.2 ∧ 0 ≤ x.1 ∧ x.1 ≤ 1099511627776 ∧ 0 ≤ x.2 ∧ x.2 ≤ 1099511627776 := by
  unfold spanV at h
  split at h
  · rename_i hf
    rcases cut_spec s [44] with ⟨-, hs⟩ | hs
    · split at h
      · rename_i a n ha hn
        obtain ⟨e1, a1, a2⟩ := numV_some ha
        obtain ⟨e2, n1, n2⟩ := numV_some hn
        rw [e1, e2] at hs
        split at h
        · rename_i hp
          split at h
          · cases h
          · rename_i h0
            obtain rfl := Option.some.inj h
            refine ⟨?_, by simp only; omega, by simp only; omega, n1, n2⟩
            unfold placeS
            simp only
            rw [if_pos hp, hs, List.append_assoc]
            congr 2; omega
        · rename_i hp
          obtain rfl := Option.some.inj h
          refine ⟨?_, a1, a2, n1, n2⟩
          unfold placeS
          simp only
          rw [if_neg hp, hs, List.append_assoc]
      · cases h
    · rw [hs] at hf
      cases hf
  · cases h

def headL (b : Block) : Bytes := hdP ++ (placeS b.oldAt b.oldLen ++ (hdM ++ placeS b.newAt b.newLen)) ++ hdS

theorem headS_L (b : Block) : headS b = headL b ++ [10] := by
  simp [headS, headL, hdP, hdM, hdS]

theorem place_free (at_ n : Int) (ha : 0 ≤ at_) (hn : 0 ≤ n) (c : UInt8) (hc : c.toNat < 44) : c ∉ placeS at_ n := by
  unfold placeS
  intro h
  rcases List.mem_append.1 h with h | h
  · rcases List.mem_append.1 h with h | h
    · exact itoa_free _ (by split <;> omega) c (by omega) h
    · obtain rfl := List.mem_singleton.1 h
      exact absurd hc (by decide)
  · exact itoa_free n hn c (by omega) h

theorem headerV_L (b : Block) (h1 : 0 ≤ b.oldAt ∧ 0 ≤ b.oldLen ∧ b.oldAt + b.oldLen ≤ 1099511627776) (h2 : 0 ≤ b.newAt ∧ 0 ≤ b.newLen ∧ b.newAt + b.newLen ≤ 1099511627776) : headerV (headL b) = some { b with lines := [] } := by
  have e1 : Lib.hasPrefix (headL b) hdP = true := by
    unfold Lib.hasPrefix headL
    rw [List.append_assoc]
    exact List.isPrefixOf_iff_prefix.2 ⟨_, rfl⟩
  have e2 : Lib.trimPrefix (headL b) hdP = placeS b.oldAt b.oldLen ++ (hdM ++ placeS b.newAt b.newLen) ++ hdS := by
    unfold Lib.trimPrefix
    rw [if_pos e1]
    unfold headL
    rw [List.append_assoc, List.drop_left]
  have e3 : Lib.hasSuffix (Lib.trimPrefix (headL b) hdP) hdS = true := by
    rw [e2]
    unfold Lib.hasSuffix
    exact List.isSuffixOf_iff_suffix.2 ⟨_, rfl⟩
  have e4 : mid (headL b) = placeS b.oldAt b.oldLen ++ (hdM ++ placeS b.newAt b.newLen) := by
    unfold mid Lib.trimSuffix
    rw [if_pos e3, e2, List.length_append, Nat.add_sub_cancel, List.take_left]
  have e5 : Lib.cut (mid (headL b)) hdM = (placeS b.oldAt b.oldLen, placeS b.newAt b.newLen, true) := by
    rw [e4]
    exact cut_first 32 [43] _ _ (place_free _ _ h1.1 h1.2.1 32 (by decide))
  unfold headerV
  rw [e5, if_pos ⟨e1, e3, rfl⟩]
  simp only
  rw [spanV_place _ _ h1.1 h1.2.1 h1.2.2, spanV_place _ _ h2.1 h2.2.1 h2.2.2]

theorem headerV_some {s : Bytes} {b : Block} (h : headerV s = some b) : s = headL b ∧ b.lines = [] ∧ 0 ≤ b.oldAt ∧ b.oldAt ≤ 1099511627776 ∧ 0 ≤ b.oldLen ∧ b.oldLen ≤ 1099511627776 ∧ 0 ≤ b.newAt ∧ b.newAt ≤ 1099511627776 ∧ 0 ≤ b.newLen ∧ b.newLen ≤ 1099511627776 := by
  unfold headerV at h
  split at h
  · rename_i hc
    obtain ⟨c1, c2, c3⟩ := hc
    split at h
    · rename_i x y hx hy
      obtain rfl := Option.some.inj h
      obtain ⟨e1, x1, x2, x3, x4⟩ := spanV_some hx
      obtain ⟨e2, y1, y2, y3, y4⟩ := spanV_some hy
      refine ⟨?_, rfl, x1, x2, x3, x4, y1, y2, y3, y4⟩
      have q1 : s = hdP ++ Lib.trimPrefix s hdP := by
        unfold Lib.trimPrefix
        rw [if_pos c1]
        obtain ⟨t, ht⟩ := List.isPrefixOf_iff_prefix.1 c1
        rw [← ht, List.drop_left]
      have q2 : Lib.trimPrefix s hdP = mid s ++ hdS := by
        unfold mid Lib.trimSuffix
        rw [if_pos c2]
        obtain ⟨t, ht⟩ := List.isSuffixOf_iff_suffix.1 c2
        rw [← ht, List.length_append, Nat.add_sub_cancel, List.take_left]
      have q3 : mid s = placeS x.1 x.2 ++ (hdM ++ placeS y.1 y.2) := by
        rcases cut_spec (mid s) hdM with ⟨-, q⟩ | q
        · rw [e1, e2] at q; exact q
        · rw [q] at c3; cases c3
      conv => lhs; rw [q1, q2, q3]
      simp [headL]
    · cases h
  · cases h

end Qv
end

section
/- Contracts: a number, a span and a header in a text. No condition. -/
set_option linter.unusedVariables false
set_option linter.unusedSimpArgs false
open Go Go.Proofs
namespace Qv

theorem number_ok (s : Bytes) (hs : s.length ≤ 2 ^ 40) : CallsTo D 55 [.str s] (fun r => (∃ v, numV s = some v ∧ 0 ≤ v ∧ v ≤ 1099511627776 ∧ r = .val (.tup [.int .i64 v, .bool true])) ∨ numV s = none ∧ ∃ n, r = .val (.tup [.int .i64 n, .bool false])) := by
  refine callsTo_of_ev' Tryz.func55 rfl rfl rfl ?_
  refine ⟨_, atoi_ok s (by omega), ?_⟩
  rintro r (⟨v, hv, rfl⟩ | ⟨hv, n, rfl⟩)
  · refine ⟨none, _, (inRange_ok v).up, ?_⟩
    rintro r ⟨t, ht, rfl⟩
    cases t with
    | false =>
      right
      refine ⟨?_, v, rfl⟩
      unfold numV
      rw [hv]
      simp only
      rw [if_neg (by rw [← ht]; simp)]
    | true =>
      have hr : 0 ≤ v ∧ v ≤ 1099511627776 := by simpa [inR] using ht.symm
      refine ⟨_, (itoa_ok v (by omega) (by omega)).up, ?_⟩
      rintro r rfl
      refine ⟨eqc (fun e => ?_) (fun e => ?_)⟩
      · left
        refine ⟨v, ?_, hr.1, hr.2, rfl⟩
        unfold numV
        rw [hv]
        simp only
        rw [if_pos ⟨ht.symm, e.symm⟩]
      · right
        refine ⟨?_, v, rfl⟩
        unfold numV
        rw [hv]
        simp only
        rw [if_neg (fun h => e h.2.symm)]
  · refine ⟨none, Or.inr ⟨?_, n, rfl⟩⟩
    unfold numV
    rw [hv]

theorem cut_len (s sep : Bytes) : (Lib.cut s sep).1.length ≤ s.length ∧ (Lib.cut s sep).2.1.length ≤ s.length := by
  unfold Lib.cut
  split
  · simp; omega
  · simp

set_option maxHeartbeats 1000000 in
theorem span_ok (s : Bytes) (hs : s.length ≤ 2 ^ 30) : CallsTo D 36 [.str s] (fun r => (∃ a n, spanV s = some (a, n) ∧ 0 ≤ a ∧ a ≤ 1099511627776 ∧ 0 ≤ n ∧ n ≤ 1099511627776 ∧ r = .val (.tup [.int .i64 a, .int .i64 n, .bool true])) ∨ spanV s = none ∧ r = .val (.tup [.int .i64 0, .int .i64 0, .bool false])) := by
  obtain ⟨l1, l2⟩ := cut_len s [44]
  refine callsTo_of_ev' Tryz.func36 rfl rfl rfl ?_
  refine ⟨_, cut_ok s [44] (by omega), ?_⟩
  rintro r rfl
  have hsp : spanV s = if (Lib.cut s [44]).2.2 = true then match numV (Lib.cut s [44]).1, numV (Lib.cut s [44]).2.1 with
    | some a, some n => if n > 0 then (if a = 0 then none else some (a - 1, n)) else some (a, n)
    | _, _ => none
  else none := rfl
  rw [hsp]
  generalize Lib.cut s [44] = X at *
  obtain ⟨x, y, b⟩ := X
  simp only at l1 l2 ⊢
  refine ⟨_, number_ok x (by omega), ?_⟩
  rintro r1 (⟨v1, h1, p1, q1, rfl⟩ | ⟨h1, v1, rfl⟩)
  · refine ⟨_, number_ok y (by omega), ?_⟩
    rintro r2 (⟨v2, h2, p2, q2, rfl⟩ | ⟨h2, v2, rfl⟩)
    · cases b with
      | false =>
        refine ⟨none, ⟨fun t ht => ?_⟩⟩
        obtain rfl : t = true := ht
        exact Or.inr ⟨by simp, rfl⟩
      | true =>
        refine ⟨none, ⟨fun t ht => ?_⟩⟩
        obtain rfl : t = false := ht
        refine ⟨fun t ht => ?_⟩
        obtain rfl : t = false := ht
        refine ⟨fun t ht => ?_⟩
        obtain rfl : t = false := ht
        refine ⟨dc (fun c1 => ?_) (fun c1 => ?_)⟩
        · have c1 : v2 > 0 := c1
          refine ⟨eqc (fun c2 => ?_) (fun c2 => ?_)⟩
          · have c2 : v1 = 0 := c2
            exact Or.inr ⟨by rw [h1, h2]; simp [c1, c2], rfl⟩
          · have c2 : ¬ v1 = 0 := c2
            refine ⟨dc (fun _ => ?_) (fun h => absurd c1 h)⟩
            exact ⟨v1 - 1, (show IntKind.i64.wrap (v1 - 1) = _ from wrap64 (by omega) (by omega)), Or.inl ⟨v1 - 1, v2, by rw [h1, h2]; simp [c1, c2], by omega, by omega, p2, q2, rfl⟩⟩
        · have c1 : ¬ v2 > 0 := c1
          refine ⟨dc (fun h => absurd h c1) (fun _ => ?_)⟩
          exact Or.inl ⟨v1, v2, by rw [h1, h2]; simp [c1], p1, q1, p2, q2, rfl⟩
    · have hn : (if b = true then match numV x, numV y with
        | some a, some n => if n > 0 then (if a = 0 then none else some (a - 1, n)) else some (a, n)
        | _, _ => none
        else none) = none := by rw [h1, h2]; split <;> rfl
      cases b with
      | false =>
        refine ⟨none, ⟨fun t ht => ?_⟩⟩
        obtain rfl : t = true := ht
        exact Or.inr ⟨hn, rfl⟩
      | true =>
        refine ⟨none, ⟨fun t ht => ?_⟩⟩
        obtain rfl : t = false := ht
        refine ⟨fun t ht => ?_⟩
        obtain rfl : t = false := ht
        refine ⟨fun t ht => ?_⟩
        obtain rfl : t = true := ht
        exact Or.inr ⟨hn, rfl⟩
  · have hn : (if b = true then match numV x, numV y with
      | some a, some n => if n > 0 then (if a = 0 then none else some (a - 1, n)) else some (a, n)
      | _, _ => none
      else none) = none := by rw [h1]; split <;> rfl
    refine ⟨_, number_ok y (by omega), ?_⟩
    rintro r2 (⟨v2, h2, p2, q2, rfl⟩ | ⟨h2, v2, rfl⟩)
    all_goals
      cases b with
      | false =>
        refine ⟨none, ⟨fun t ht => ?_⟩⟩
        obtain rfl : t = true := ht
        exact Or.inr ⟨hn, rfl⟩
      | true =>
        refine ⟨none, ⟨fun t ht => ?_⟩⟩
        obtain rfl : t = false := ht
        refine ⟨fun t ht => ?_⟩
        obtain rfl : t = true := ht
        exact Or.inr ⟨hn, rfl⟩

end Qv
end

section
/- Contracts: a header in a text. No condition. -/
set_option linter.unusedVariables false
set_option linter.unusedSimpArgs false
open Go Go.Proofs
namespace Qv

/-- A block without lines, as it stands in a frame. -/
def hdF (a n b m : Int) : FV := .agg [.p (.int .i64 a), .p (.int .i64 n), .p (.int .i64 b), .p (.int .i64 m), .full []]

theorem trim_len (s : Bytes) : (Lib.trimPrefix s hdP).length ≤ s.length ∧ (mid s).length ≤ s.length := by
  have h1 : (Lib.trimPrefix s hdP).length ≤ s.length := by
    unfold Lib.trimPrefix; split <;> simp
  refine ⟨h1, ?_⟩
  unfold mid Lib.trimSuffix
  split
  · rw [List.length_take]; omega
  · exact h1

set_option maxHeartbeats 4000000 in
theorem header_ok (s : Bytes) (hs : s.length ≤ 2 ^ 30) : CallsTo D 14 [.str s] (fun r => (∃ b, headerV s = some b ∧ r = .vf (.tup [hdF b.oldAt b.oldLen b.newAt b.newLen, .p (.bool true)])) ∨ headerV s = none ∧ ∃ a n b m, r = .vf (.tup [hdF a n b m, .p (.bool false)])) := by
  obtain ⟨l1, l2⟩ := trim_len s
  obtain ⟨l3, l4⟩ := cut_len (mid s) hdM
  have hh : headerV s = if Lib.hasPrefix s hdP = true ∧ Lib.hasSuffix (Lib.trimPrefix s hdP) hdS = true ∧ (Lib.cut (mid s) hdM).2.2 = true then
    match spanV (Lib.cut (mid s) hdM).1, spanV (Lib.cut (mid s) hdM).2.1 with
    | some x, some y => some ⟨x.1, x.2, y.1, y.2, []⟩
    | _, _ => none
    else none := rfl
  have c1 := cutP_ok s hdP
  have c2 := cutS_ok (Lib.trimPrefix s hdP) hdS (by omega)
  have c3 := cut_ok (mid s) hdM (by omega)
  rw [show Lib.trimSuffix (Lib.trimPrefix s hdP) hdS = mid s from rfl] at c2
  rw [hh]
  generalize Lib.hasSuffix (Lib.trimPrefix s hdP) hdS = b2 at *
  generalize Lib.trimPrefix s hdP = s1 at *
  generalize mid s = s2 at *
  generalize Lib.hasPrefix s hdP = b1 at *
  generalize Lib.cut s2 hdM = X at *
  obtain ⟨x, y, b3⟩ := X
  simp only at l3 l4 ⊢
  refine callsTo_of_evO ⟨[], [], true, []⟩ [] Tryz.func14 rfl rfl rfl ?_
  refine ⟨_, c1.opn, ?_⟩
  rintro r rfl
  refine ⟨_, c2.opn, ?_⟩
  rintro r rfl
  refine ⟨_, c3.opn, ?_⟩
  rintro r rfl
  refine ⟨_, (span_ok x (by omega)).opn, ?_⟩
  rintro r (⟨a, n, h1, -, -, -, -, rfl⟩ | ⟨h1, rfl⟩)
  · refine ⟨_, (span_ok y (by omega)).opn, ?_⟩
    rintro r (⟨b, m, h2, -, -, -, -, rfl⟩ | ⟨h2, rfl⟩)
    · rw [h1, h2]
      cases b1 <;> cases b2 <;> cases b3
      all_goals first
        | exact ⟨none, Or.inl ⟨⟨a, n, b, m, []⟩, by simp, rfl⟩⟩
        | exact ⟨none, Or.inr ⟨by simp, a, n, b, m, rfl⟩⟩
    · rw [h1, h2]
      cases b1 <;> cases b2 <;> cases b3
      all_goals exact ⟨none, Or.inr ⟨by simp, a, n, 0, 0, rfl⟩⟩
  · refine ⟨_, (span_ok y (by omega)).opn, ?_⟩
    rintro r (⟨b, m, h2, -, -, -, -, rfl⟩ | ⟨h2, rfl⟩)
    · rw [h1]
      cases b1 <;> cases b2 <;> cases b3
      all_goals exact ⟨none, Or.inr ⟨by simp, 0, 0, b, m, rfl⟩⟩
    · rw [h1]
      cases b1 <;> cases b2 <;> cases b3
      all_goals exact ⟨none, Or.inr ⟨by simp, 0, 0, 0, 0, rfl⟩⟩

end Qv
end
