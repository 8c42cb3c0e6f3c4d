/- Several texts in one: The reference reads numbers at the beginning of a string: what that comes to, in plain terms, The reference's header is the program's, The reference's header is the program's, Contracts: words, numbers, headers and lines in a text, in the reference, Contracts: parsing, in the reference, The law of parsing. No condition. -/
import Derived.Test.YthkmombkgelcnaaGreatDoorSB
import Derived.Test.YthkmombkgelcnaaGreatDoorSC
import Derived.Test.YthkmombkgelcnaaGreatDoorS2
import Derived.Test.YthkmombkgelcnaaGreatDoorS5

section
/- The reference reads numbers at the beginning of a string: what that comes to, in plain terms. No condition. -/
set_option linter.unusedVariables false
set_option linter.unusedSimpArgs false
open Go Go.Proofs
namespace Qv

def isDig (c : UInt8) : Bool := decide (48 ≤ c.toNat) && decide (c.toNat ≤ 57)

/-- The value of digits. -/
def valF (n : Nat) : Bytes → Nat
  | [] => n
  | c :: l => valF (10 * n + (c.toNat - 48)) l
def valD (l : Bytes) : Nat := valF 0 l

theorem valF_app (l : Bytes) (c : UInt8) : ∀ n, valF n (l ++ [c]) = 10 * valF n l + (c.toNat - 48) := by
  induction l with
  | nil => intro n; rfl
  | cons d l ih => intro n; exact ih _

theorem valD_app (l : Bytes) (c : UInt8) : valD (l ++ [c]) = 10 * valD l + (c.toNat - 48) := valF_app l c 0

theorem valF_ge (l : Bytes) : ∀ n, n ≤ valF n l := by
  induction l with
  | nil => intro n; exact Nat.le_refl _
  | cons c l ih => intro n; have := ih (10 * n + (c.toNat - 48)); unfold valF; omega

theorem mul_aux (n d P : Nat) : n * (P * 10) ≤ (10 * n + d) * P := by
  have : n * (P * 10) = (10 * n) * P := by rw [Nat.mul_comm P 10, ← Nat.mul_assoc, Nat.mul_comm n 10]
  rw [this]
  exact Nat.mul_le_mul_right P (Nat.le_add_right _ _)

theorem valF_pow (l : Bytes) (P : Nat) (hP : P = 10 ^ l.length) : ∀ n, n * P ≤ valF n l := by
  induction l generalizing P with
  | nil =>
    intro n
    have h1 : P = 1 := by rw [hP]; rfl
    rw [h1, Nat.mul_one]
    exact Nat.le_refl n
  | cons c l ih =>
    intro n
    have h := ih _ rfl (10 * n + (c.toNat - 48))
    rw [List.length_cons, Nat.pow_succ] at hP
    generalize 10 ^ l.length = Q at *
    subst hP
    exact Nat.le_trans (mul_aux n (c.toNat - 48) Q) h

/-- A numeral without a leading zero is the numeral of its value. -/
theorem dec_val (l : Bytes) (hl : ∀ c, c ∈ l → isDig c = true) (h0 : l ≠ []) (hz : l.length = 1 ∨ l.head? ≠ some 48) : Lib.decDigits (valD l) = l := by
  obtain ⟨n, hn⟩ : ∃ n, l.length = n := ⟨_, rfl⟩
  induction n generalizing l with
  | zero => exact absurd (List.length_eq_zero_iff.1 hn) h0
  | succ n ih =>
    obtain ⟨r, c, rfl⟩ : ∃ r c, l = r ++ [c] := ⟨l.dropLast, l.getLast h0, (List.dropLast_concat_getLast h0).symm⟩
    have hc : 48 ≤ c.toNat ∧ c.toNat ≤ 57 := by simpa [isDig] using hl c (by simp)
    have hcc : UInt8.ofNat (48 + (c.toNat - 48)) = c := by
      rw [show 48 + (c.toNat - 48) = c.toNat by omega]; simp
    cases r with
    | nil =>
      have hv : valD ([] ++ [c]) = c.toNat - 48 := by
        rw [valD_app]
        show 10 * 0 + (c.toNat - 48) = _
        omega
      rw [hv, Lib.decDigits_one (by omega), hcc]
      rfl
    | cons d r =>
      have hlen : (d :: r).length = n := by simp at hn ⊢; omega
      have hd : d ≠ 48 := by
        rcases hz with hz | hz
        · simp at hz
        · intro e; subst e; exact hz rfl
      have hdd : 48 ≤ d.toNat ∧ d.toNat ≤ 57 := by simpa [isDig] using hl d (by simp)
      have hdn : d.toNat ≠ 48 := fun e => hd (UInt8.toNat.inj e)
      have ihv := ih (d :: r) (fun x hx => hl x (List.mem_append_left _ hx)) (by simp) (.inr (by simpa using hd)) hlen
      have hpos : 1 ≤ valD (d :: r) := by
        have := valF_ge r (10 * 0 + (d.toNat - 48))
        show 1 ≤ valF (10 * 0 + (d.toNat - 48)) r
        omega
      rw [valD_app]
      generalize valD (d :: r) = v at *
      rw [Lib.decDigits, dif_neg (by omega)]
      rw [show (10 * v + (c.toNat - 48)) / 10 = v by omega, show (10 * v + (c.toNat - 48)) % 10 = c.toNat - 48 by omega, ihv, hcc]

/-- The value of a numeral. -/
theorem val_dec (u : Nat) : valD (Lib.decDigits u) = u := by
  induction u using Nat.strongRecOn with
  | _ u ih =>
    rw [Lib.decDigits]
    split
    · rename_i h
      have : (UInt8.ofNat (48 + u)).toNat = 48 + u := by simp; omega
      show 10 * 0 + ((UInt8.ofNat (48 + u)).toNat - 48) = u
      omega
    · have : (UInt8.ofNat (48 + u % 10)).toNat = 48 + u % 10 := by simp; omega
      rw [valD_app, ih (u / 10) (by omega)]
      omega

end Qv
end

section
/- The reference's header is the program's. No condition. -/
set_option linter.unusedVariables false
set_option linter.unusedSimpArgs false
open Go Go.Proofs
namespace Qv

/-- How many digits are read at most. -/
def digN (s : Bytes) : Nat := min 14 (s.takeWhile isDig).length

def rnum (s : Bytes) : Option (Int × Bytes) :=
  if 0 < digN s ∧ valD (s.take (digN s)) ≤ 1099511627776 ∧ (digN s = 1 ∨ s.head? ≠ some 48) then some ((valD (s.take (digN s)) : Nat), s.drop (digN s)) else none

def rword (s w : Bytes) : Option Bytes := if w.isPrefixOf s = true then some (s.drop w.length) else none

def rtwo (s : Bytes) : Option (Int × Int × Bytes) := match rnum s with
  | none => none
  | some (a, r) => match rword r [44] with
    | none => none
    | some r2 => match rnum r2 with
      | none => none
      | some (n, r3) => if n > 0 ∧ a = 0 then none else some (if n > 0 then a - 1 else a, n, r3)

def rheader (s : Bytes) : Option Block := match rword s hdP with
  | none => none
  | some r => match rtwo r with
    | none => none
    | some (a, n, r2) => match rword r2 hdM with
      | none => none
      | some r3 => match rtwo r3 with
        | none => none
        | some (b, m, r4) => if r4 = hdS then some ⟨a, n, b, m, []⟩ else none

def NoDig (r : Bytes) : Prop := ∀ c t, r = c :: t → isDig c = false

theorem takeWhile_take {p : UInt8 → Bool} : ∀ (s : Bytes), s.takeWhile p = s.take (s.takeWhile p).length
  | [] => rfl
  | c :: s => by
    by_cases h : p c = true
    · simp [List.takeWhile_cons, h, ← takeWhile_take s]
    · simp [List.takeWhile_cons, h]

theorem take_dig (s : Bytes) (i : Nat) (h : i ≤ (s.takeWhile isDig).length) : ∀ c, c ∈ s.take i → isDig c = true := by
  intro c hc
  have h1 : s.take i = (s.takeWhile isDig).take i := by
    rw [takeWhile_take s, List.take_take, Nat.min_eq_left h]
  rw [h1] at hc
  have h2 := List.mem_of_mem_take hc
  clear hc h1 h
  induction s with
  | nil => cases h2
  | cons d s ih =>
    by_cases hd : isDig d = true
    · rw [List.takeWhile_cons_of_pos hd] at h2
      rcases List.mem_cons.1 h2 with rfl | h2
      · exact hd
      · exact ih h2
    · rw [List.takeWhile_cons_of_neg hd] at h2; cases h2

theorem takeWhile_app (d r : Bytes) (hd : ∀ c, c ∈ d → isDig c = true) (hr : NoDig r) : (d ++ r).takeWhile isDig = d := by
  induction d with
  | nil =>
    cases r with
    | nil => rfl
    | cons c t => rw [List.nil_append, List.takeWhile_cons_of_neg (by rw [hr c t rfl]; simp)]
  | cons c d ih =>
    rw [List.cons_append, List.takeWhile_cons_of_pos (hd c (List.mem_cons_self ..)), ih (fun x hx => hd x (List.mem_cons_of_mem _ hx))]

theorem itoa_nat (u : Nat) : Lib.itoa (u : Int) = Lib.decDigits u := by unfold Lib.itoa; rw [if_neg (by omega), Int.toNat_natCast]

theorem dec_isDig (u : Nat) : ∀ c, c ∈ Lib.decDigits u → isDig c = true := fun c hc => by
  have := dec_digits u c hc
  simp [isDig]; omega

theorem head_app {l : Bytes} (r : Bytes) (h : l ≠ []) : (l ++ r).head? = l.head? := by
  cases l with
  | nil => exact absurd rfl h
  | cons c l => rfl

theorem dec_head (u : Nat) : (Lib.decDigits u).length = 1 ∨ (Lib.decDigits u).head? ≠ some 48 := by
  induction u using Nat.strongRecOn with
  | _ u ih =>
    rw [Lib.decDigits]
    split
    · exact .inl rfl
    · rename_i h
      right
      have hne := dec_ne (u / 10)
      rw [head_app _ hne]
      rcases ih (u / 10) (by omega) with h1 | h1
      · -- one digit: it is not zero
        by_cases h2 : u / 10 < 10
        · rw [Lib.decDigits_one h2]
          intro e
          have e : UInt8.ofNat (48 + u / 10) = 48 := by simpa using e
          have : (UInt8.ofNat (48 + u / 10)).toNat = 48 + u / 10 := by simp; omega
          rw [e] at this
          have : (48 : UInt8).toNat = 48 := rfl
          omega
        · rw [Lib.decDigits, dif_neg h2] at h1
          have := List.length_pos_iff.2 (dec_ne (u / 10 / 10))
          simp only [List.length_append, List.length_singleton] at h1; omega
      · exact h1

theorem dec_len (u : Nat) (hu : u ≤ 1099511627776) : (Lib.decDigits u).length ≤ 13 := by
  rw [Lib.decDigits_length]
  have h := Lib.nDigits_pos u
  refine Classical.byContradiction fun hn => ?_
  have h14 : 14 ≤ Lib.nDigits u := by omega
  obtain ⟨k, hk⟩ : ∃ k, Lib.nDigits u = k + 1 := ⟨Lib.nDigits u - 1, by omega⟩
  have hz := dec_head u
  have hp := valF_pow
  cases hl : Lib.decDigits u with
  | nil => exact absurd hl (dec_ne u)
  | cons c l =>
    have hlen : (Lib.decDigits u).length = Lib.nDigits u := Lib.decDigits_length u
    rw [hl] at hz hlen
    have hc := dec_digits u c (by rw [hl]; exact List.mem_cons_self ..)
    have hc48 : c ≠ 48 := by
      rcases hz with hz | hz
      · simp only [List.length_cons] at hz hlen; omega
      · intro e; subst e; exact hz rfl
    have hcn : c.toNat ≠ 48 := fun e => hc48 (UInt8.toNat.inj e)
    have hv := val_dec u
    rw [hl] at hv
    have hge := hp l _ rfl (10 * 0 + (c.toNat - 48))
    have hv' : valF (10 * 0 + (c.toNat - 48)) l = u := hv
    rw [hv'] at hge
    have hpow : 10 ^ 13 ≤ 10 ^ l.length := Nat.pow_le_pow_right (by decide) (by simp at hlen; omega)
    have hx : 0 < 10 * 0 + (c.toNat - 48) := by omega
    have h1 : 10 ^ l.length ≤ (10 * 0 + (c.toNat - 48)) * 10 ^ l.length := Nat.le_mul_of_pos_left _ hx
    have h13 : (10 : Nat) ^ 13 = 10000000000000 := by decide
    have := Nat.le_trans hpow (Nat.le_trans h1 hge)
    omega

theorem rnum_num (v : Int) (h0 : 0 ≤ v) (h1 : v ≤ 1099511627776) (r : Bytes) (hr : NoDig r) : rnum (Lib.itoa v ++ r) = some (v, r) := by
  obtain ⟨u, rfl⟩ := Int.eq_ofNat_of_zero_le h0
  rw [itoa_nat]
  have hlen := dec_len u (by omega)
  have hd : digN (Lib.decDigits u ++ r) = (Lib.decDigits u).length := by
    unfold digN
    rw [takeWhile_app _ _ (dec_isDig u) hr]
    omega
  have hpos := List.length_pos_iff.2 (dec_ne u)
  unfold rnum
  rw [hd, List.take_left, List.drop_left, val_dec]
  have hh : (Lib.decDigits u).length = 1 ∨ (Lib.decDigits u ++ r).head? ≠ some 48 := by
    rcases dec_head u with h | h
    · exact .inl h
    · right
      rw [head_app _ (dec_ne u)]
      exact h
  rw [if_pos ⟨hpos, by omega, hh⟩]

theorem rnum_some {s : Bytes} {v : Int} {r : Bytes} (h : rnum s = some (v, r)) : s = Lib.itoa v ++ r ∧ 0 ≤ v ∧ v ≤ 1099511627776 := by
  unfold rnum at h
  split at h
  · rename_i hc
    obtain ⟨h1, h2, h3⟩ := hc
    injection h with h
    injection h with e1 e2
    subst e1 e2
    refine ⟨?_, by omega, by omega⟩
    rw [itoa_nat, dec_val (s.take (digN s)) (take_dig s _ (by unfold digN; omega)), List.take_append_drop]
    · intro e
      rw [List.take_eq_nil_iff] at e
      rcases e with e | e
      · omega
      · subst e; simp [digN] at h1
    · rcases h3 with h3 | h3
      · left
        rw [List.length_take]
        have : digN s ≤ s.length := by
          unfold digN
          have := (List.takeWhile_sublist isDig (l := s)).length_le
          omega
        omega
      · right
        cases s with
        | nil => simp [digN] at h1
        | cons c t =>
          obtain ⟨k, hk⟩ : ∃ k, digN (c :: t) = k + 1 := ⟨digN (c :: t) - 1, by omega⟩
          rw [hk]
          exact h3
  · cases h

end Qv
end

section
/- The reference's header is the program's. No condition. -/
set_option linter.unusedVariables false
set_option linter.unusedSimpArgs false
open Go Go.Proofs
namespace Qv

theorem rword_app (w r : Bytes) : rword (w ++ r) w = some r := by
  unfold rword
  rw [if_pos (List.isPrefixOf_iff_prefix.2 ⟨r, rfl⟩), List.drop_left]

theorem rword_some {s w r : Bytes} (h : rword s w = some r) : s = w ++ r := by
  unfold rword at h
  split at h
  · rename_i hp
    obtain ⟨t, rfl⟩ := List.isPrefixOf_iff_prefix.1 hp
    rw [List.drop_left] at h
    obtain rfl := Option.some.inj h
    rfl
  · cases h

/-- A place that can be said. -/
structure PlOk (a n : Int) : Prop where
  a0 : 0 ≤ a
  n0 : 0 ≤ n
  n1 : n ≤ 1099511627776
  a1 : (if n > 0 then a + 1 else a) ≤ 1099511627776

theorem noDig_cons (c : UInt8) (r : Bytes) (h : isDig c = false) : NoDig (c :: r) := fun d t e => by
  injection e with e1 e2
  subst e1
  exact h

theorem rtwo_place {a n : Int} (h : PlOk a n) (r : Bytes) (hr : NoDig r) : rtwo (placeS a n ++ r) = some (a, n, r) := by
  obtain ⟨a0, n0, n1, a1⟩ := h
  have e : placeS a n ++ r = Lib.itoa (if n > 0 then a + 1 else a) ++ ([44] ++ (Lib.itoa n ++ r)) := by simp [placeS]
  have h0 : 0 ≤ (if n > 0 then a + 1 else a) := by split <;> omega
  unfold rtwo
  rw [e, rnum_num _ h0 a1 ([44] ++ (Lib.itoa n ++ r)) (noDig_cons 44 _ (by decide))]
  simp only
  rw [rword_app]
  simp only
  rw [rnum_num n n0 n1 r hr]
  simp only
  by_cases hn : n > 0
  · simp only [hn, if_true, true_and]
    rw [if_neg (by omega)]
    congr 2; omega
  · simp only [hn, if_false, false_and]

theorem rtwo_some {s : Bytes} {a n : Int} {r : Bytes} (h : rtwo s = some (a, n, r)) : s = placeS a n ++ r ∧ PlOk a n := by
  unfold rtwo at h
  split at h
  · cases h
  · rename_i x r1 h1
    split at h
    · cases h
    · rename_i r2 h2
      split at h
      · cases h
      · rename_i y r3 h3
        obtain ⟨e1, x0, x1⟩ := rnum_some h1
        have e2 := rword_some h2
        obtain ⟨e3, y0, y1⟩ := rnum_some h3
        split at h
        · cases h
        · rename_i hc
          injection h with h
          injection h with q1 q2
          injection q2 with q2 q3
          subst q1 q2 q3
          by_cases hn : y > 0
          · have hx : x ≠ 0 := fun e => hc ⟨hn, e⟩
            simp only [hn, if_true]
            refine ⟨?_, by omega, y0, y1, by simp only [hn, if_true]; omega⟩
            rw [e1, e2, e3]
            unfold placeS
            rw [if_pos hn, show x - 1 + 1 = x by omega]
            simp
          · simp only [hn, if_false]
            refine ⟨?_, x0, y0, y1, by simp only [hn, if_false]; exact x1⟩
            rw [e1, e2, e3]
            unfold placeS
            rw [if_neg hn]
            simp

theorem spanV_pl {a n : Int} (h : PlOk a n) : spanV (placeS a n) = some (a, n) := by
  obtain ⟨a0, n0, n1, a1⟩ := h
  unfold placeS spanV
  have h0 : 0 ≤ (if n > 0 then a + 1 else a) := by split <;> omega
  have hfree : (44 : UInt8) ∉ Lib.itoa (if n > 0 then a + 1 else a) := itoa_free _ h0 44 (by decide)
  rw [List.append_assoc, cut_first 44 [] _ _ hfree]
  simp only [if_true]
  rw [numV_itoa _ h0 a1, numV_itoa n n0 n1]
  simp only
  by_cases hn : n > 0
  · rw [if_pos hn, if_pos hn, if_neg (by omega)]
    congr 2; omega
  · rw [if_neg hn, if_neg hn]

theorem spanV_ok {s : Bytes} {x : Int × Int} (h : spanV s = some x) : s = placeS x.1 x.2 ∧ PlOk x.1 x.2 := by
  obtain ⟨e, x1, x2, x3, x4⟩ := spanV_some h
  refine ⟨e, x1, x3, x4, ?_⟩
  unfold spanV at h
  split at h
  · split at h
    · rename_i a n ha hn
      obtain ⟨-, a1, a2⟩ := numV_some ha
      split at h
      · rename_i hp
        split at h
        · cases h
        · obtain rfl := Option.some.inj h
          simp only [hp, if_true]; omega
      · rename_i hp
        obtain rfl := Option.some.inj h
        simp only [hp, if_false]; exact a2
    · cases h
  · cases h

theorem headerV_pl (b : Block) (h1 : PlOk b.oldAt b.oldLen) (h2 : PlOk b.newAt b.newLen) : headerV (headL b) = some { b with lines := [] } := by
  have e1 : Lib.hasPrefix (headL b) hdP = true := by
    unfold Lib.hasPrefix headL
    rw [List.append_assoc]
    exact List.isPrefixOf_iff_prefix.2 ⟨_, rfl⟩
  have e2 : Lib.trimPrefix (headL b) hdP = placeS b.oldAt b.oldLen ++ (hdM ++ placeS b.newAt b.newLen) ++ hdS := by
    unfold Lib.trimPrefix
    rw [if_pos e1]
    unfold headL
    rw [List.append_assoc, List.drop_left]
  have e3 : Lib.hasSuffix (Lib.trimPrefix (headL b) hdP) hdS = true := by
    rw [e2]
    unfold Lib.hasSuffix
    exact List.isSuffixOf_iff_suffix.2 ⟨_, rfl⟩
  have e4 : mid (headL b) = placeS b.oldAt b.oldLen ++ (hdM ++ placeS b.newAt b.newLen) := by
    unfold mid Lib.trimSuffix
    rw [if_pos e3, e2, List.length_append, Nat.add_sub_cancel, List.take_left]
  have e5 : Lib.cut (mid (headL b)) hdM = (placeS b.oldAt b.oldLen, placeS b.newAt b.newLen, true) := by
    rw [e4]
    exact cut_first 32 [43] _ _ (place_free _ _ h1.a0 h1.n0 32 (by decide))
  unfold headerV
  rw [e5, if_pos ⟨e1, e3, rfl⟩]
  simp only
  rw [spanV_pl h1, spanV_pl h2]

theorem headerV_ok {s : Bytes} {b : Block} (h : headerV s = some b) : s = headL b ∧ b.lines = [] ∧ PlOk b.oldAt b.oldLen ∧ PlOk b.newAt b.newLen := by
  obtain ⟨e, l, -⟩ := headerV_some h
  refine ⟨e, l, ?_⟩
  unfold headerV at h
  split at h
  · split at h
    · rename_i x y hx hy
      obtain rfl := Option.some.inj h
      exact ⟨(spanV_ok hx).2, (spanV_ok hy).2⟩
    · cases h
  · cases h

theorem rheader_pl (b : Block) (h1 : PlOk b.oldAt b.oldLen) (h2 : PlOk b.newAt b.newLen) : rheader (headL b) = some { b with lines := [] } := by
  have e : headL b = hdP ++ (placeS b.oldAt b.oldLen ++ (hdM ++ (placeS b.newAt b.newLen ++ hdS))) := by simp [headL]
  unfold rheader
  rw [e, rword_app]
  simp only
  rw [rtwo_place h1 (hdM ++ (placeS b.newAt b.newLen ++ hdS)) (noDig_cons 32 _ (by decide))]
  simp only
  rw [rword_app]
  simp only
  rw [rtwo_place h2 hdS (noDig_cons 32 _ (by decide))]
  simp only [if_true]

theorem rheader_ok {s : Bytes} {b : Block} (h : rheader s = some b) : s = headL b ∧ b.lines = [] ∧ PlOk b.oldAt b.oldLen ∧ PlOk b.newAt b.newLen := by
  unfold rheader at h
  split at h
  · cases h
  · rename_i r h1
    split at h
    · cases h
    · rename_i a n r2 h2
      split at h
      · cases h
      · rename_i r3 h3
        split at h
        · cases h
        · rename_i x m r4 h4
          split at h
          · rename_i h5
            obtain rfl := Option.some.inj h
            obtain ⟨e2, p2⟩ := rtwo_some h2
            obtain ⟨e4, p4⟩ := rtwo_some h4
            refine ⟨?_, rfl, p2, p4⟩
            rw [rword_some h1, e2, rword_some h3, e4, h5]
            simp [headL]
          · cases h

/-- The reference reads a header as the program does. -/
theorem rheader_eq (s : Bytes) : rheader s = headerV s := by
  cases h : headerV s with
  | some b =>
    obtain ⟨e, l, p1, p2⟩ := headerV_ok h
    rw [e, rheader_pl b p1 p2]
    cases b; simp_all
  | none =>
    cases h' : rheader s with
    | none => rfl
    | some b =>
      obtain ⟨e, l, p1, p2⟩ := rheader_ok h'
      rw [e, headerV_pl b p1 p2] at h
      cases h

end Qv
end

section
/- Contracts: words, numbers, headers and lines in a text, in the reference. No condition. -/
set_option linter.unusedVariables false
set_option linter.unusedSimpArgs false
open Go Go.Proofs
namespace Qv

theorem isPre_take (s w : Bytes) : w.isPrefixOf s = true ↔ w.length ≤ s.length ∧ s.take w.length = w := by
  rw [List.isPrefixOf_iff_prefix]
  constructor
  · rintro ⟨t, rfl⟩
    exact ⟨by simp, List.take_left⟩
  · rintro ⟨-, h⟩
    exact ⟨s.drop w.length, by rw [← h, List.length_take]; conv => rhs; rw [← List.take_append_drop w.length s]
                               have := congrArg List.length h
                               simp only [List.length_take] at this
                               rw [this]⟩

theorem word_ok (s w : Bytes) (hs : s.length ≤ 2 ^ 40) : CallsTo C 39 [.str s, .str w] (fun r => (∃ t, rword s w = some t ∧ r = .val (.tup [.str t, .bool true])) ∨ rword s w = none ∧ r = .val (.tup [.str [], .bool false])) := by
  have hp := isPre_take s w
  refine callsTo_of_ev' Tryz.func39 rfl rfl rfl ?_
  refine ⟨none, ⟨dc (fun h => ?_) (fun h => ?_)⟩⟩
  · refine Or.inr ⟨?_, rfl⟩
    unfold rword
    rw [if_neg (fun e => by have := (hp.1 e).1; omega)]
  · refine ⟨w.length, rfl, Nat.zero_le _, by omega, s.take w.length, rfl, ⟨nesc (fun h2 => ?_) (fun h2 => ?_)⟩⟩
    · refine Or.inr ⟨?_, rfl⟩
      unfold rword
      rw [if_neg (fun e => h2 (hp.1 e).2)]
    · refine ⟨w.length, rfl, by omega, Nat.le_refl _, s.drop w.length, by rw [List.take_length], Or.inl ⟨_, ?_, rfl⟩⟩
      unfold rword
      rw [if_pos (hp.2 ⟨by omega, h2⟩)]

theorem valF_lt (l : Bytes) : (∀ c, c ∈ l → isDig c = true) → ∀ n, valF n l + 1 ≤ (n + 1) * 10 ^ l.length := by
  induction l with
  | nil => intro hl n; show n + 1 ≤ (n + 1) * 10 ^ 0; rw [Nat.pow_zero, Nat.mul_one]; exact Nat.le_refl _
  | cons c l ih =>
    intro hl n
    have hc : 48 ≤ c.toNat ∧ c.toNat ≤ 57 := by simpa [isDig] using hl c (by simp)
    obtain ⟨d, hd, hd9⟩ : ∃ d, d = c.toNat - 48 ∧ d ≤ 9 := ⟨_, rfl, by omega⟩
    have h1 := ih (fun x hx => hl x (List.mem_cons_of_mem _ hx)) (10 * n + d)
    have hv : valF n (c :: l) = valF (10 * n + d) l := by rw [hd]; rfl
    rw [hv]
    clear hd hv
    generalize valF (10 * n + d) l = V at *
    generalize hP : 10 ^ l.length = P at *
    have hP2 : 10 ^ (c :: l).length = P * 10 := by rw [List.length_cons, Nat.pow_succ, hP]
    rw [hP2]
    have h2 : (10 * n + d + 1) * P ≤ (10 * (n + 1)) * P := Nat.mul_le_mul_right _ (by omega)
    have h3 : (n + 1) * (P * 10) = 10 * (n + 1) * P := by
      rw [Nat.mul_comm P 10, ← Nat.mul_assoc, Nat.mul_comm (n + 1) 10]
    rw [h3]
    exact Nat.le_trans h1 h2

theorem valD_lt (s : Bytes) (i : Nat) (hi : i ≤ 14) (h : i ≤ (s.takeWhile isDig).length) : valD (s.take i) < 100000000000000 := by
  have h1 := valF_lt (s.take i) (take_dig s i h) 0
  have h2 : (10 : Nat) ^ (s.take i).length ≤ 10 ^ 14 := Nat.pow_le_pow_right (by decide) (by rw [List.length_take]; omega)
  unfold valD
  omega

theorem takeWhile_le (s : Bytes) : (s.takeWhile isDig).length ≤ s.length := by
  have := congrArg List.length (List.takeWhile_append_dropWhile (p := isDig) (l := s))
  rw [List.length_append] at this
  omega

/-- A digit behind digits. -/
theorem dig_more (s : Bytes) (i : Nat) (hi : i < s.length) (h : i ≤ (s.takeWhile isDig).length) (hd : isDig s[i] = true) : i + 1 ≤ (s.takeWhile isDig).length := by
  induction s generalizing i with
  | nil => simp at hi
  | cons c s ih =>
    cases i with
    | zero =>
      rw [List.takeWhile_cons_of_pos (by simpa using hd)]
      simp
    | succ i =>
      by_cases hc : isDig c = true
      · rw [List.takeWhile_cons_of_pos hc] at h ⊢
        simp only [List.length_cons] at hi h ⊢
        have := ih i (by omega) (by omega) (by simpa using hd)
        omega
      · rw [List.takeWhile_cons_of_neg hc] at h
        simp at h

theorem dig_stop (s : Bytes) (i : Nat) (hi : i < s.length) (h : i ≤ (s.takeWhile isDig).length) (hd : isDig s[i] = false) : (s.takeWhile isDig).length = i := by
  induction s generalizing i with
  | nil => simp at hi
  | cons c s ih =>
    cases i with
    | zero =>
      rw [List.takeWhile_cons_of_neg (by simpa using hd)]
      rfl
    | succ i =>
      by_cases hc : isDig c = true
      · rw [List.takeWhile_cons_of_pos hc] at h ⊢
        simp only [List.length_cons] at hi h ⊢
        have := ih i (by omega) (by omega) (by simpa using hd)
        omega
      · rw [List.takeWhile_cons_of_neg hc] at h
        simp at h

theorem head_get (s : Bytes) (h : 0 < s.length) : s.head? = some s[0] := by
  cases s with
  | nil => simp at h
  | cons c s => rfl

theorem bt {p : Prop} [Decidable p] (h : p) : Al fun t : Bool => t = decide p → FV.p (.bool t) = FV.p (.bool true) := ⟨fun t ht => by rw [ht, decide_eq_true h]⟩
theorem bf {p : Prop} [Decidable p] (h : ¬ p) : Al fun t : Bool => t = decide p → FV.p (.bool t) = FV.p (.bool false) := ⟨fun t ht => by rw [ht, decide_eq_false h]⟩
theorem bte {a b : Int} (h : a = b) : Al fun t : Bool => t = (a == b) → FV.p (.bool t) = FV.p (.bool true) := ⟨fun t ht => by rw [ht, h]; simp⟩
theorem bfe {a b : Int} (h : a ≠ b) : Al fun t : Bool => t = (a == b) → FV.p (.bool t) = FV.p (.bool false) := ⟨fun t ht => by rw [ht]; simp [h]⟩
theorem btn {a b : Int} (h : a ≠ b) : Al fun t : Bool => t = (a != b) → FV.p (.bool t) = FV.p (.bool true) := ⟨fun t ht => by rw [ht]; simp [h]⟩
theorem bfn {a b : Int} (h : a = b) : Al fun t : Bool => t = (a != b) → FV.p (.bool t) = FV.p (.bool false) := ⟨fun t ht => by rw [ht, h]; simp⟩

set_option maxHeartbeats 4000000 in
theorem numR_ok (s : Bytes) (hs : s.length ≤ 2 ^ 40) : CallsTo C 64 [.str s] (fun r => (∃ n t, rnum s = some (n, t) ∧ r = .val (.tup [.int .i64 n, .str t, .bool true])) ∨ rnum s = none ∧ ∃ n t, r = .val (.tup [.int .i64 n, .str t, .bool false])) := by
  have htl := takeWhile_le s
  refine callsTo_of_ev' Tryz.func64 rfl rfl rfl ?_
  refine loopR 56 (fun i : Nat => [(0, .p (.str s)), (5, .p (.int .i64 (valD (s.take i) : Nat))), (6, .p (.int .i64 i))]) (fun _ => []) (fun i => i ≤ 14 ∧ i ≤ (s.takeWhile isDig).length) (fun i => 14 - i) 0 ⟨by omega, by omega⟩ rfl ⟨Weak.refl _, Weak.refl _, Weak.refl _, trivial⟩ trivial ?_
  rintro i ⟨hi, hd⟩
  have hv := valD_lt s i hi hd
  have hr : rnum s = if 0 < digN s ∧ valD (s.take (digN s)) ≤ 1099511627776 ∧ (digN s = 1 ∨ s.head? ≠ some 48) then some (((valD (s.take (digN s)) : Nat) : Int), s.drop (digN s)) else none := rfl
  have hdN : digN s = min 14 (s.takeWhile isDig).length := rfl
  have hstop : (∃ h : i < s.length, isDig s[i] = true ∧ i < 14) ∨ digN s = i := by
    by_cases h1 : i < s.length
    · by_cases h2 : isDig s[i] = true
      · by_cases h3 : i < 14
        · exact .inl ⟨h1, h2, h3⟩
        · exact .inr (by omega)
      · have := dig_stop s i h1 hd (by simpa using h2)
        exact .inr (by omega)
    · exact .inr (by omega)
  rcases hstop with ⟨h1', hdg, h4'⟩ | hdn
  · have hc48 : 48 ≤ s[i].toNat ∧ s[i].toNat ≤ 57 := by simpa [isDig] using hdg
    have hm := dig_more s i h1' hd hdg
    have hta : s.take (i + 1) = s.take i ++ [s[i]] := (List.take_append_getElem h1').symm
    have hva := valD_app (s.take i) s[i]
    rw [← hta] at hva
    refine ⟨none, ⟨dc (fun h1 => ?_) (fun h1 => absurd h1 (by omega))⟩⟩
    refine ⟨by omega, s[i], List.getElem?_eq_getElem h1', ⟨dc (fun h2 => ?_) (fun h2 => absurd h2 (by omega))⟩⟩
    refine ⟨by omega, s[i], List.getElem?_eq_getElem h1', ⟨dc (fun h3 => ?_) (fun h3 => absurd h3 (by omega))⟩⟩
    refine ⟨dc (fun h4 => ?_) (fun h4 => absurd h4 (by omega))⟩
    refine ⟨((10 * valD (s.take i) : Nat) : Int), ?_, by omega, s[i], List.getElem?_eq_getElem h1', (s[i].toNat : Int), wrap64 (by omega) (by omega), ((10 * valD (s.take i) + s[i].toNat : Nat) : Int), ?_, ((valD (s.take (i + 1)) : Nat) : Int), ?_, ((i + 1 : Nat) : Int), ?_, roundR (i + 1) ⟨by omega, hm⟩ (by omega) rfl ⟨Weak.refl _, Weak.refl _, Weak.refl _, trivial⟩ trivial⟩
    · rw [wrap64 (by omega) (by omega)]; omega
    · rw [wrap64 (by omega) (by omega)]; omega
    · rw [wrap64 (by omega) (by omega)]; omega
    · rw [wrap64 (by omega) (by omega)]; omega
  · rw [hdn] at hr
    have hno : ¬ (∃ h : i < s.length, isDig s[i] = true ∧ i < 14) := by
      rintro ⟨h1, h2, h3⟩
      have := dig_more s i h1 hd h2
      omega
    refine ⟨none, ⟨dc (fun h1 => ⟨by omega, s[i], List.getElem?_eq_getElem (by omega), ⟨dc (fun h2 => ⟨by omega, s[i], List.getElem?_eq_getElem (by omega), ⟨dc (fun h3 => ⟨dc (fun h4 => absurd ⟨by omega, by unfold isDig; simp only [Bool.and_eq_true, decide_eq_true_eq]; omega, by omega⟩ hno) (fun h4 => ?_)⟩) (fun h3 => ?_)⟩⟩) (fun h2 => ?_)⟩⟩) (fun h1 => ?_)⟩⟩
    all_goals
      clear hno
      by_cases q0 : 0 < i
      · have hs0 : s.head? = some s[0] := head_get s (by omega)
        by_cases q1 : valD (s.take i) ≤ 1099511627776
        · by_cases q2 : i = 1
          · refine ⟨.lex 22, by kernel_rfl, _, rfl, _, rfl, _, rfl, _, ⟨i, rfl, by omega, Nat.le_refl _, s.drop i, by rw [List.take_length], rfl⟩, _, rfl, .p (.bool true), bt (by omega), _, rfl, _, rfl, .p (.bool true), bt (by omega), _, rfl, _, rfl, _, rfl, .p (.bool true), bte (by omega), _, rfl, _, rfl, _, rfl, _, rfl, _, rfl, _, rfl, ?_⟩
            refine Or.inl ⟨_, _, ?_, rfl⟩
            rw [hr, if_pos ⟨q0, q1, .inl q2⟩]
          · by_cases q3 : s[0] = 48
            · refine ⟨.lex 22, by kernel_rfl, _, rfl, _, rfl, _, rfl, _, ⟨i, rfl, by omega, Nat.le_refl _, s.drop i, by rw [List.take_length], rfl⟩, _, rfl, .p (.bool true), bt (by omega), _, rfl, _, rfl, .p (.bool true), bt (by omega), _, rfl, _, rfl, _, rfl, .p (.bool false), bfe (by omega), _, rfl, _, rfl, _, ⟨by omega, s[0], List.getElem?_eq_getElem (by omega), rfl⟩, .p (.bool false), bfn (by rw [q3]; rfl), _, rfl, _, rfl, _, rfl, _, rfl, _, rfl, ?_⟩
              refine Or.inr ⟨?_, _, _, rfl⟩
              rw [hr, if_neg (by rintro ⟨-, -, h | h⟩; exact q2 h; rw [hs0, q3] at h; exact h rfl)]
            · refine ⟨.lex 22, by kernel_rfl, _, rfl, _, rfl, _, rfl, _, ⟨i, rfl, by omega, Nat.le_refl _, s.drop i, by rw [List.take_length], rfl⟩, _, rfl, .p (.bool true), bt (by omega), _, rfl, _, rfl, .p (.bool true), bt (by omega), _, rfl, _, rfl, _, rfl, .p (.bool false), bfe (by omega), _, rfl, _, rfl, _, ⟨by omega, s[0], List.getElem?_eq_getElem (by omega), rfl⟩, .p (.bool true), btn (fun e => q3 (u8_eq e)), _, rfl, _, rfl, _, rfl, _, rfl, _, rfl, ?_⟩
              refine Or.inl ⟨_, _, ?_, rfl⟩
              rw [hr, if_pos ⟨q0, q1, .inr (by rw [hs0]; intro e; exact q3 (Option.some.inj e))⟩]
        · refine ⟨.lex 22, by kernel_rfl, _, rfl, _, rfl, _, rfl, _, ⟨i, rfl, by omega, Nat.le_refl _, s.drop i, by rw [List.take_length], rfl⟩, _, rfl, .p (.bool true), bt (by omega), _, rfl, _, rfl, .p (.bool false), bf (by omega), _, rfl, _, rfl, _, rfl, _, rfl, _, rfl, _, rfl, ?_⟩
          refine Or.inr ⟨?_, _, _, rfl⟩
          rw [hr, if_neg (fun h => q1 h.2.1)]
      · refine ⟨.lex 22, by kernel_rfl, _, rfl, _, rfl, _, rfl, _, ⟨i, rfl, by omega, Nat.le_refl _, s.drop i, by rw [List.take_length], rfl⟩, _, rfl, .p (.bool false), bf (by omega), _, rfl, _, rfl, _, rfl, _, rfl, _, rfl, _, rfl, _, rfl, ?_⟩
        refine Or.inr ⟨?_, _, _, rfl⟩
        rw [hr, if_neg (fun h => q0 h.1)]

theorem rnum_len {s : Bytes} {v : Int} {r : Bytes} (h : rnum s = some (v, r)) : r.length ≤ s.length := by
  obtain ⟨e, -, -⟩ := rnum_some h
  rw [e]; simp

theorem rword_len {s w r : Bytes} (h : rword s w = some r) : r.length ≤ s.length := by
  rw [rword_some h]; simp

theorem twoR_ok (s : Bytes) (hs : s.length ≤ 2 ^ 40) : CallsTo C 40 [.str s] (fun r => (∃ a n t, rtwo s = some (a, n, t) ∧ r = .val (.tup [.int .i64 a, .int .i64 n, .str t, .bool true])) ∨ rtwo s = none ∧ r = .val (.tup [.int .i64 0, .int .i64 0, .str [], .bool false])) := by
  refine callsTo_of_ev' Tryz.func40 rfl rfl rfl ?_
  refine ⟨_, numR_ok s hs, ?_⟩
  rintro r (⟨a, s1, h1, rfl⟩ | ⟨h1, a, s1, rfl⟩)
  rotate_left
  · refine ⟨fun t ht => ?_⟩
    obtain rfl : t = true := ht
    exact Or.inr ⟨by unfold rtwo; rw [h1], rfl⟩
  have l1 := rnum_len h1
  refine ⟨fun t ht => ?_⟩
  obtain rfl : t = false := ht
  refine ⟨_, word_ok s1 [44] (by omega), ?_⟩
  rintro r (⟨s2, h2, rfl⟩ | ⟨h2, rfl⟩)
  rotate_left
  · refine ⟨fun t ht => ?_⟩
    obtain rfl : t = true := ht
    exact Or.inr ⟨by unfold rtwo; rw [h1]; simp only; rw [h2], rfl⟩
  have l2 := rword_len h2
  refine ⟨fun t ht => ?_⟩
  obtain rfl : t = false := ht
  refine ⟨_, numR_ok s2 (by omega), ?_⟩
  rintro r (⟨n, s3, h3, rfl⟩ | ⟨h3, n, s3, rfl⟩)
  rotate_left
  · refine ⟨none, ⟨fun t ht => ?_⟩⟩
    obtain rfl : t = true := ht
    exact Or.inr ⟨by unfold rtwo; rw [h1]; simp only; rw [h2]; simp only; rw [h3], rfl⟩
  obtain ⟨-, a0, a1⟩ := rnum_some h1
  have hr : rtwo s = if n > 0 ∧ a = 0 then none else some (if n > 0 then a - 1 else a, n, s3) := by
    unfold rtwo; rw [h1]; simp only; rw [h2]; simp only; rw [h3]
  refine ⟨none, ⟨fun t ht => ?_⟩⟩
  obtain rfl : t = false := ht
  refine ⟨dc (fun q1 => ?_) (fun q1 => ?_)⟩
  · refine ⟨eqc (fun q2 => ?_) (fun q2 => ?_)⟩
    · exact Or.inr ⟨by rw [hr, if_pos ⟨q1, q2⟩], rfl⟩
    · refine ⟨dc (fun _ => ?_) (fun h => absurd q1 h)⟩
      refine ⟨a - 1, (show IntKind.i64.wrap (a - 1) = _ from wrap64 (by omega) (by omega)), Or.inl ⟨_, _, _, ?_, rfl⟩⟩
      rw [hr, if_neg (fun h => q2 h.2), if_pos q1]
  · refine ⟨dc (fun h => absurd h q1) (fun _ => ?_)⟩
    refine Or.inl ⟨_, _, _, ?_, rfl⟩
    rw [hr, if_neg (fun h => q1 h.1), if_neg q1]

theorem rtwo_len {s : Bytes} {a n : Int} {r : Bytes} (h : rtwo s = some (a, n, r)) : r.length ≤ s.length := by
  rw [(rtwo_some h).1]; simp

set_option maxHeartbeats 2000000 in
theorem headerR_ok (s : Bytes) (hs : s.length ≤ 2 ^ 40) : CallsTo C 18 [.str s] (fun r => (∃ b, headerV s = some b ∧ r = .vf (.tup [hdF b.oldAt b.oldLen b.newAt b.newLen, .p (.bool true)])) ∨ headerV s = none ∧ ∃ a n b m, r = .vf (.tup [hdF a n b m, .p (.bool false)])) := by
  rw [← rheader_eq]
  refine callsTo_of_evO ⟨[], [], true, []⟩ [] Tryz.func18 rfl rfl rfl ?_
  refine ⟨_, (word_ok s hdP hs).opn, ?_⟩
  rintro r (⟨s1, h1, rfl⟩ | ⟨h1, rfl⟩)
  rotate_left
  · refine ⟨fun t ht => ?_⟩
    obtain rfl : t = true := ht
    exact Or.inr ⟨by unfold rheader; rw [h1], 0, 0, 0, 0, rfl⟩
  have l1 := rword_len h1
  refine ⟨fun t ht => ?_⟩
  obtain rfl : t = false := ht
  refine ⟨_, (twoR_ok s1 (by omega)).opn, ?_⟩
  rintro r (⟨a, n, s2, h2, rfl⟩ | ⟨h2, rfl⟩)
  rotate_left
  · refine ⟨fun t ht => ?_⟩
    obtain rfl : t = true := ht
    exact Or.inr ⟨by unfold rheader; rw [h1]; simp only; rw [h2], 0, 0, 0, 0, rfl⟩
  have l2 := rtwo_len h2
  refine ⟨fun t ht => ?_⟩
  obtain rfl : t = false := ht
  refine ⟨_, (word_ok s2 hdM (by omega)).opn, ?_⟩
  rintro r (⟨s3, h3, rfl⟩ | ⟨h3, rfl⟩)
  rotate_left
  · refine ⟨fun t ht => ?_⟩
    obtain rfl : t = true := ht
    exact Or.inr ⟨by unfold rheader; rw [h1]; simp only; rw [h2]; simp only; rw [h3], a, n, 0, 0, rfl⟩
  have l3 := rword_len h3
  refine ⟨fun t ht => ?_⟩
  obtain rfl : t = false := ht
  refine ⟨_, (twoR_ok s3 (by omega)).opn, ?_⟩
  rintro r (⟨b, m, s4, h4, rfl⟩ | ⟨h4, rfl⟩)
  rotate_left
  · exact ⟨none, Or.inr ⟨by unfold rheader; rw [h1]; simp only; rw [h2]; simp only; rw [h3]; simp only; rw [h4], a, n, 0, 0, rfl⟩⟩
  have hr : rheader s = if s4 = hdS then some ⟨a, n, b, m, []⟩ else none := by
    unfold rheader; rw [h1]; simp only; rw [h2]; simp only; rw [h3]; simp only; rw [h4]
  refine ⟨none, ⟨eqc (fun q => ?_) (fun q => ?_)⟩⟩
  · exact Or.inl ⟨⟨a, n, b, m, []⟩, by rw [hr, if_pos (show s4 = hdS from q)], rfl⟩
  · exact Or.inr ⟨by rw [hr, if_neg (show ¬ s4 = hdS from q)], a, n, b, m, rfl⟩

theorem cut_none (s : Bytes) (h : (10 : UInt8) ∉ s) : Lib.cut s [10] = (s, [], false) := by
  rcases cut_spec s [10] with ⟨-, e⟩ | e
  · exfalso
    apply h
    rw [e]
    simp
  · exact e

theorem cutR_ok (s : Bytes) (hs : s.length ≤ 2 ^ 40) : CallsTo C 17 [.str s] (fun r => r = .val (.tup [.str (Lib.cut s [10]).1, .str (Lib.cut s [10]).2.1, .bool (Lib.cut s [10]).2.2])) := by
  refine callsTo_of_ev' Tryz.func17 rfl rfl rfl ?_
  refine loopR 24 (fun i : Nat => [(0, .p (.str s)), (5, .p (.int .i64 i))]) (fun _ => []) (fun i => i ≤ s.length ∧ (10 : UInt8) ∉ s.take i) (fun i => s.length - i) 0 ⟨Nat.zero_le _, by simp⟩ rfl ⟨Weak.refl _, Weak.refl _, trivial⟩ trivial ?_
  rintro i ⟨hi, hn⟩
  refine ⟨dc (fun h1 => ?_) (fun h1 => ?_)⟩
  · have h1' : i < s.length := by omega
    refine ⟨by omega, s[i], List.getElem?_eq_getElem h1', ⟨eqc (fun h2 => ?_) (fun h2 => ?_)⟩⟩
    · have hc : s[i] = 10 := u8_eq h2
      have he : s = s.take i ++ ([10] ++ s.drop (i + 1)) := by
        rw [List.singleton_append, ← hc, List.getElem_cons_drop, List.take_append_drop]
      have hcut := cut_first 10 [] (s.take i) (s.drop (i + 1)) hn
      rw [← he] at hcut
      rw [hcut]
      refine ⟨.lex 10, by kernel_rfl, _, rfl, _, rfl, _, ⟨i, rfl, Nat.zero_le _, hi, s.take i, rfl, rfl⟩, _, rfl, _, rfl, _, ⟨((i + 1 : Nat) : Int), (by rw [wrap64 (by omega) (by omega)]; omega), rfl⟩, _, ⟨i + 1, rfl, h1', Nat.le_refl _, s.drop (i + 1), by rw [List.take_length], rfl⟩, _, rfl, _, rfl, _, rfl, ?_⟩
      exact rfl
    · refine ⟨((i + 1 : Nat) : Int), (show IntKind.i64.wrap ((i : Int) + 1) = _ from by rw [wrap64 (by omega) (by omega)]; omega), roundR (i + 1) ⟨h1', ?_⟩ (by omega) rfl ⟨Weak.refl _, Weak.refl _, trivial⟩ trivial⟩
      rw [← List.take_append_getElem h1']
      simp only [List.mem_append, List.mem_singleton, not_or]
      exact ⟨hn, fun e => h2 (by rw [← e]; rfl)⟩
  · obtain rfl : i = s.length := by omega
    rw [List.take_length] at hn
    rw [cut_none s hn]
    exact rfl

end Qv
end

section
/- Contracts: parsing, in the reference. No condition. -/
set_option linter.unusedVariables false
set_option linter.unusedSimpArgs false
open Go Go.Proofs
namespace Qv

theorem pk (t d : Nat) (hd : Nat.beq t d = false) (done : List Block) (cur : Option Block) : FV.killL d (pCells t done cur) = pCells t done cur := by
  cases cur with
  | none => simp only [pCells, killL_append, killL_mapP, FV.killL]
  | some b => simp only [pCells, killL_append, killL_mapP, FV.killL, FV.kill, hd]

theorem pl (t : Nat) (done : List Block) (cur : Option Block) : (pCells t done cur).length = (done.length + cur.toList.length) * 5 := by
  cases cur with
  | none => rw [pCells_none]; simp
  | some b => rw [pCells_len]; simp

theorem pCells_push (t : Nat) (done : List Block) (cur : Option Block) (b : Block) (h : b.lines = []) : WeakL (pCells t done cur ++ [.p (.int .i64 b.oldAt), .p (.int .i64 b.oldLen), .p (.int .i64 b.newAt), .p (.int .i64 b.newLen), .full []]) (pCells t (done ++ cur.toList) (some b)) := by
  have h1 : WeakL (pCells t done cur) (mapP ((done ++ cur.toList).flatMap encBlock)) := by
    have := pCells_close t done cur
    rw [show pCells t (done ++ cur.toList) none = mapP ((done ++ cur.toList).flatMap encBlock) ++ [] from rfl, List.append_nil] at this
    exact this
  rw [show pCells t (done ++ cur.toList) (some b) = mapP ((done ++ cur.toList).flatMap encBlock) ++ [.p (.int .i64 b.oldAt), .p (.int .i64 b.oldLen), .p (.int .i64 b.newAt), .p (.int .i64 b.newLen), .tip t 9 1 (b.lines.map enc1)] from rfl, h]
  exact h1.append (.cons (Weak.refl _) (.cons (Weak.refl _) (.cons (Weak.refl _) (.cons (Weak.refl _) (.cons (Weak.full_tip _ _ _) .nil)))))

theorem pk2 (d t : Nat) (done : List Block) (cur : Option Block) (hd : Nat.beq t d = false) {a b c e : AV} : FV.killL d (pCells t done cur ++ [.p a, .p b, .p c, .p e, .full []]) = pCells t done cur ++ [.p a, .p b, .p c, .p e, .full []] := by
  rw [killL_append, pk _ _ hd]; rfl

theorem isSgn1 (x : Bytes) : [x].all isSgn = isSgn x := by simp

set_option maxRecDepth 100000 in
set_option maxHeartbeats 8000000 in
theorem rparse_ok (s : Bytes) (hs : s.length ≤ 2 ^ 20) : CallsTo C 6 [.str s] (fun r => r = .val (.tup [encBs (uparse s).1, .int .i64 (uparse s).2.1, .int .i64 (uparse s).2.2])) := by
  refine callsTo_of_evO ⟨[21, 64], [25], false, []⟩ [13, 19, 22] Tryz.func6 rfl rfl rfl ?_
  refine loopR 128 (fun x : Nat × Bytes × Int × Int × List Block × Option Block × List Nat => [(0, .p (.str x.2.1)), (5, .osl 21 48 5), (6, .tip 22 3 1 (x.2.2.2.2.2.2.map encN)), (7, .p (.int .i64 x.2.2.1)), (8, .p (.int .i64 x.2.2.2.1)), (9, .p (.int .i64 ((x.1 + 1 : Nat) : Int)))])
    (fun x => [(21, pCells 106 x.2.2.2.2.1 x.2.2.2.2.2.1)])
    (fun x => PaI s x.1 x.2.1 x.2.2.1 x.2.2.2.1 x.2.2.2.2.1 x.2.2.2.2.2.1 x.2.2.2.2.2.2) (fun x => x.2.1.length) (0, s, 0, 0, [], none, []) (PaI.zero s)
    rfl ⟨Weak.refl _, Weak.refl _, Weak.refl _, Weak.refl _, Weak.refl _, Weak.refl _, trivial⟩ ⟨hasO_one rfl, trivial⟩ ?_
  rintro ⟨n, rest, old, new, done, cur, heads⟩ hI
  simp only at hI
  have o1 := hI.old0
  have o2 := hI.new0
  have hlen := hI.len
  have hcn := hI.cnt
  have hhl := hI.hl
  refine ⟨none, ?_⟩
  by_cases hr : rest = []
  · subst hr
    have hend := hI.end_
    have hu : uparse s = if 0 < old + new then ([], (n : Int) + 1, 3) else if (checkL (done ++ cur.toList)).2 = 0 then (done ++ cur.toList, 0, 0) else ([], ((heads.getD (checkL (done ++ cur.toList)).1.toNat 0 : Nat) : Int), (checkL (done ++ cur.toList)).2) := by
      unfold uparse
      rw [hend]
    have hfail : 0 < old + new → Ret.val (.tup [.sl [], .int .i64 ((n + 1 : Nat) : Int), .int .i64 3]) = Ret.val (.tup [encBs (uparse s).1, .int .i64 (uparse s).2.1, .int .i64 (uparse s).2.2]) := fun h => by
      rw [hu, if_pos h]
      rfl
    refine ⟨nesc (fun h => absurd rfl h) (fun _ => ⟨dc (fun ho => ?_) (fun ho => ⟨dc (fun hn => ?_) (fun hn => ?_)⟩)⟩)⟩
    · have ho : old > 0 := ho
      refine ⟨eqc (fun _ => ?_) (fun h => absurd rfl h)⟩
      exact hfail (by omega)
    · have hn : new > 0 := hn
      refine ⟨eqc (fun _ => ?_) (fun h => absurd rfl h)⟩
      exact hfail (by omega)
    · have ho : ¬ old > 0 := ho
      have hn : ¬ new > 0 := hn
      rw [if_neg (by omega)] at hu
      have htb : TinyB (done ++ cur.toList) := ⟨by simp; omega, fun b hb => by
        have := hI.each b hb
        omega⟩
      refine ⟨21, 5, (done ++ cur.toList).map encBlock, ⟨⟨_, rfl, toAVs_pCells 106 done cur⟩, ?_⟩, ?_⟩
      · intro ys hy
        obtain ⟨h, -, rfl⟩ := List.mem_map.1 hy
        exact ⟨rfl, by intro y hy; simp [encBlock] at hy; rcases hy with rfl | rfl | rfl | rfl | rfl <;> rfl⟩
      refine ⟨_, (checkR_ok (done ++ cur.toList) htb).opn, ?_⟩
      rintro q rfl
      refine ⟨nec (fun hk => ?_) (fun hk => ?_)⟩
      · rw [if_neg hk] at hu
        rw [hu]
        have hat := checkF_at (done ++ cur.toList) none 0 0 hk
        have hat : 0 ≤ (checkL (done ++ cur.toList)).1 ∧ (checkL (done ++ cur.toList)).1 < 0 + ((done ++ cur.toList).length : Nat) := hat
        rw [List.length_append] at hat
        obtain ⟨k, hk1⟩ := Int.eq_ofNat_of_zero_le hat.1
        have hk2 : k < heads.length := by omega
        refine ⟨.lex 8, by kernel_rfl, _, rfl, _, rfl, _, ⟨by omega, _, idx_map hk1 hk2, rfl, rfl⟩, _, rfl, _, rfl, _, rfl, _, rfl, _, rfl, ?_⟩
        rw [hk1, Int.toNat_natCast]
        show Ret.val _ = _
        rw [List.getD_eq_getElem?_getD, List.getElem?_eq_getElem hk2]
        rfl
      · rw [if_pos hk] at hu
        rw [hu]
        exact rfl
  · refine ⟨nesc (fun _ => ?_) (fun h => absurd h hr)⟩
    refine ⟨eqc (fun h => absurd h hr) (fun _ => ?_)⟩
    refine ⟨_, (cutR_ok rest (by omega)).opn, ?_⟩
    rintro q rfl
    obtain ⟨x, r, e, hc⟩ : ∃ x r e, Lib.cut rest [10] = (x, r, e) := ⟨_, _, _, rfl⟩
    have hcl := cut_len rest [10]
    rw [hc] at hcl ⊢
    simp only at hcl
    have hfail : pF 0 0 0 [] none [] (lns [] s) = .inl (n + 1) → Ret.val (.tup [.sl [], .int .i64 ((n + 1 : Nat) : Int), .int .i64 3]) = Ret.val (.tup [encBs (uparse s).1, .int .i64 (uparse s).2.1, .int .i64 (uparse s).2.2]) := fun h => by
      rw [upar_fail h]
      rfl
    refine ⟨fun t ht => ?_⟩
    cases e with
    | false =>
      obtain rfl : t = true := ht
      exact hfail (hI.noend hr hc)
    | true =>
      obtain rfl : t = false := ht
      obtain ⟨hst, hrl⟩ := hI.step hr hc
      have hsh : r.length < rest.length := by
        have := cut_shorter rest hr
        rw [hc] at this
        exact this
      have hpl := pl 106 done cur
      refine cutR 128 [(0, .p (.str r)), (5, .osl 21 48 5), (6, .tip 22 3 1 (heads.map encN)), (7, .p (.int .i64 old)), (8, .p (.int .i64 new)), (9, .p (.int .i64 ((n + 1 : Nat) : Int))), (10, .p (.str x))] [(21, pCells 106 done cur)] rfl ⟨Weak.refl _, Weak.refl _, Weak.refl _, Weak.refl _, Weak.refl _, Weak.refl _, Weak.refl _, trivial⟩ ⟨hasO_one rfl, trivial⟩ ?_
      refine ⟨none, ⟨eqc (fun h0 => ⟨eqc (fun h0' => ?_) (fun h0' => ?_)⟩) (fun h0 => ?_)⟩⟩
      · have h0 : old = 0 := h0
        have h0' : new = 0 := h0'
        have hz : old + new = 0 := by omega
        refine ⟨_, (headerR_ok x (by omega)).opn, ?_⟩
        rintro q (⟨b, hb, rfl⟩ | ⟨hb, a1, a2, a3, a4, rfl⟩)
        rotate_left
        · refine ⟨fun t ht => ?_⟩
          obtain rfl : t = true := ht
          exact hfail (hI.nohead hr hc hz hb)
        have hN := hI.head hr hc hz hb
        have hb0 := (headerV_some hb).2.1
        refine ⟨fun t ht => ?_⟩
        obtain rfl : t = false := ht
        refine ⟨done.length + cur.toList.length, 1, (by rw [pk _ _ rfl, pk _ _ rfl, hpl]), rfl, rfl, (by show (done.length + cur.toList.length + 1) * 56 ≤ _; omega), pCells 106 done cur ++ [.p (.int .i64 b.oldAt), .p (.int .i64 b.oldLen), .p (.int .i64 b.newAt), .p (.int .i64 b.newLen), .full []], (by rw [killL_append, pk _ _ rfl, pk _ _ rfl, pk _ _ rfl]; rfl), ?_⟩
        refine ⟨all_enc (f := encN) (n := 1) (fun _ => rfl) _, all_one rfl, (by show ((heads.map encN).length + 1) * 8 ≤ _; rw [List.length_map]; omega), (heads ++ [n + 1]).map encN, (by rw [List.map_append]; rfl), ?_⟩
        refine ⟨.lex 6, by kernel_rfl, _, rfl, _, rfl, _, rfl, _, rfl, _, rfl, _, rfl, ?_⟩
        refine ⟨((n + 1 + 1 : Nat) : Int), (show IntKind.i64.wrap (((n + 1 : Nat) : Int) + 1) = _ from by rw [wrap64 (by omega) (by omega)]; omega), roundR (n + 1, r, b.oldLen, b.newLen, done ++ cur.toList, some b, heads ++ [n + 1]) hN hsh rfl ⟨Weak.refl _, Weak.refl _, Weak.refl _, Weak.refl _, Weak.refl _, Weak.refl _, trivial⟩ ⟨hasO_w rfl ?_, trivial⟩⟩
        rw [pk2 68 106 done cur rfl, pk2 22 106 done cur rfl]
        exact pCells_push 106 done cur b hb0
      all_goals
        have hz : ¬ old + new = 0 := by first | (have h0 : old ≠ 0 := h0; omega) | (have h0' : new ≠ 0 := h0'; omega)
        have hbd := hI.bad hr hc hz
        have hln := hI.line hr hc hz
        obtain ⟨a, b, ok, hok, hab, ha1, hb1, hct⟩ := countsR_ok' [x] (by simp)
        refine cutR 128 [(0, .p (.str r)), (5, .osl 21 48 5), (6, .tip 22 3 1 (heads.map encN)), (7, .p (.int .i64 old)), (8, .p (.int .i64 new)), (9, .p (.int .i64 ((n + 1 : Nat) : Int))), (10, .p (.str x))] [(21, pCells 106 done cur)] rfl ⟨Weak.refl _, Weak.refl _, Weak.refl _, Weak.refl _, Weak.refl _, Weak.refl _, Weak.refl _, trivial⟩ ⟨hasO_one rfl, trivial⟩ ?_
        refine ⟨_, hct.opn, ?_⟩
        rintro q rfl
        rw [isSgn1] at hok
        refine ⟨none, ⟨fun t ht => ?_⟩⟩
        cases ok with
        | false =>
          obtain rfl : t = true := ht
          exact hfail (hbd (by rw [← hok]; simp))
        | true =>
          obtain rfl : t = false := ht
          obtain ⟨ea, eb⟩ := hab rfl
          refine ⟨dc (fun hlo => ?_) (fun hlo => ⟨dc (fun hln2 => ?_) (fun hln2 => ?_)⟩)⟩
          · exact hfail (hbd (by omega))
          · exact hfail (hbd (by omega))
          obtain ⟨c, rfl, hN⟩ := hln ⟨hok.symm, by omega, by omega⟩
          have hlC := pCells_len 106 done c
          have hcl2 := hI.each c (by simp)
          simp only [Option.toList, List.length_singleton] at hcn hhl
          refine cutR 128 [(0, .p (.str r)), (5, .osl 21 48 5), (6, .tip 22 3 1 (heads.map encN)), (7, .p (.int .i64 old)), (8, .p (.int .i64 new)), (9, .p (.int .i64 ((n + 1 : Nat) : Int))), (10, .p (.str x)), (15, .p (.int .i64 a)), (16, .p (.int .i64 b))] [(21, pCells 106 done (some c))] rfl ⟨Weak.refl _, Weak.refl _, Weak.refl _, Weak.refl _, Weak.refl _, Weak.refl _, Weak.refl _, Weak.refl _, Weak.refl _, trivial⟩ ⟨hasO_w rfl (by rw [pk _ _ rfl]; exact WeakL.refl _), trivial⟩ ?_
          refine ⟨done.length + 1, hlC, (done.length : Int), (by rw [wrap64 (by omega) (by omega)]; omega), ?_⟩
          refine ⟨done.length, done.length * 5, rfl, rfl, (by rw [hlC]; omega), ?_⟩
          refine ⟨mapP (done.flatMap encBlock), [.p (.int .i64 c.oldAt), .p (.int .i64 c.oldLen), .p (.int .i64 c.newAt), .p (.int .i64 c.newLen), .tip 106 9 1 (c.lines.map enc1)], [], (by rw [List.append_nil]; rfl), block_flat done, ?_⟩
          refine ⟨all_enc1 _, all_one rfl, ?_, (c.lines ++ [x]).map enc1, ?_, ?_⟩
          · show ((c.lines.map enc1).length + 1) * 16 ≤ _; rw [List.length_map]; omega
          · rw [List.map_append]; rfl
          have hk : FV.killL 106 (FV.killL 105 (pCells 106 done (some c))) = mapP (done.flatMap encBlock) ++ ([.p (.int .i64 c.oldAt), .p (.int .i64 c.oldLen), .p (.int .i64 c.newAt), .p (.int .i64 c.newLen), .p (encS c.lines)] ++ []) := by
            simp [pCells, killL_append, killL_mapP, FV.killL, FV.kill]; rfl
          refine ⟨done.length, done.length * 5, rfl, rfl, (by rw [hk]; simp [block_flat]), ?_⟩
          refine ⟨_, _, _, hk, block_flat done, pCells 106 done (some (addL x c)), (by rw [List.append_nil]; rfl), ?_⟩
          refine ⟨old - a, (show IntKind.i64.wrap (old - a) = _ from wrap64 (by omega) (by omega)), new - b, (show IntKind.i64.wrap (new - b) = _ from wrap64 (by omega) (by omega)), ?_⟩
          refine ⟨((n + 1 + 1 : Nat) : Int), (show IntKind.i64.wrap (((n + 1 : Nat) : Int) + 1) = _ from by rw [wrap64 (by omega) (by omega)]; omega), roundR (n + 1, r, old - nK [x] - nR [x], new - nK [x] - nA [x], done, some (addL x c), heads) hN hsh rfl ⟨Weak.refl _, Weak.refl _, Weak.refl _, Weak.int (by simp only; omega), Weak.int (by simp only; omega), Weak.refl _, trivial⟩ ⟨hasO_one rfl, trivial⟩⟩

end Qv
end

section
/- The law of parsing. No condition. -/
set_option linter.unusedVariables false
set_option linter.unusedSimpArgs false
open Go Go.Proofs
namespace Qv

theorem lns_le : ∀ (s acc : Bytes), (lns acc s).length ≤ s.length + (if acc = [] then 0 else 1)
  | [], acc => by
    unfold lns
    split <;> simp
  | c :: s, acc => by
    unfold lns
    split
    · have h := lns_le s []
      rw [if_pos rfl] at h
      simp only [List.length_cons]
      omega
    · have h := lns_le s (acc ++ [c])
      rw [if_neg (by simp)] at h
      simp only [List.length_cons]
      omega

theorem pF_size : ∀ (L : List (Bytes × Bool)) (n : Nat) (old new : Int) (done : List Block) (cur : Option Block) (heads : List Nat) (out : List Block) (q : List Nat × Nat × Int) (M : Nat),
    pF n old new done cur heads L = .inr (out, q) → (∀ b, b ∈ done ++ cur.toList → b.lines.length ≤ M) → out.length ≤ (done ++ cur.toList).length + L.length ∧ ∀ b, b ∈ out → b.lines.length ≤ M + L.length
  | [], n, old, new, done, cur, heads, out, q, M, h, hM => by
    unfold pF at h
    injection h with h
    injection h with h1 h2
    subst h1
    exact ⟨by simp, fun b hb => by have := hM b hb; simp; omega⟩
  | (x, e) :: r, n, old, new, done, cur, heads, out, q, M, h, hM => by
    unfold pF at h
    split at h
    · cases h
    · split at h
      · split at h
        · cases h
        · rename_i b hb
          have hb0 := (headerV_some hb).2.1
          obtain ⟨h1, h2⟩ := pF_size r _ _ _ _ _ _ out q M h (by
            intro c hc
            rcases List.mem_append.1 hc with hc | hc
            · exact hM c hc
            · obtain rfl : c = b := by simpa using hc
              rw [hb0]; simp)
          refine ⟨by simp at h1 ⊢; omega, fun c hc => by have := h2 c hc; simp; omega⟩
      · split at h
        · obtain ⟨h1, h2⟩ := pF_size r _ _ _ _ _ _ out q (M + 1) h (by
            intro c hc
            rcases List.mem_append.1 hc with hc | hc
            · have := hM c (List.mem_append_left _ hc); omega
            · cases cur with
              | none => simp at hc
              | some d =>
                obtain rfl : c = addL x d := by simpa using hc
                have := hM d (by simp)
                simp [addL]; omega)
          refine ⟨?_, fun c hc => by have := h2 c hc; simp; omega⟩
          cases cur <;> simp at h1 ⊢ <;> omega
        · cases h

theorem uparse_size (s : Bytes) : (uparse s).1.length ≤ s.length ∧ ∀ b, b ∈ (uparse s).1 → b.lines.length ≤ s.length := by
  have hl := lns_le s []
  rw [if_pos rfl] at hl
  unfold uparse
  split
  · exact ⟨by simp, fun b hb => (List.not_mem_nil hb).elim⟩
  · rename_i out hs n o h
    obtain ⟨h1, h2⟩ := pF_size _ _ _ _ _ _ _ _ _ 0 h (fun b hb => (List.not_mem_nil hb).elim)
    simp only [List.nil_append, Option.toList, List.length_nil] at h1
    split
    · exact ⟨by simp, fun b hb => (List.not_mem_nil hb).elim⟩
    · split
      · exact ⟨by simp only; omega, fun b hb => by have := h2 b hb; omega⟩
      · exact ⟨by simp, fun b hb => (List.not_mem_nil hb).elim⟩

theorem parse_law_ok (s : Bytes) (hs : s.length ≤ 2 ^ 62) : CallsTo D 3 [.str s] (fun q => q = .val (.bool true)) := by
  refine callsTo_of_ev' Tryz.func3 rfl rfl rfl ?_
  refine ⟨dc (fun hg => ?_) (fun hg => ?_)⟩
  · refine ⟨_, awake_ok.up, ?_⟩
    rintro q rfl
    exact rfl
  have hl : s.length ≤ 1000 := by omega
  obtain ⟨z1, z2⟩ := uparse_size s
  refine ⟨_, uparse_ok s (by omega), ?_⟩
  rintro q rfl
  refine ⟨_, (rparse_ok s (by omega)).up, ?_⟩
  rintro q rfl
  refine ⟨none, _, (sameBs_ok _ _ (by omega) (by omega) (fun b hb => by have := z2 b hb; omega) (fun b hb => by have := z2 b hb; omega)).up, ?_⟩
  rintro q rfl
  rw [decide_eq_true rfl]
  refine ⟨eqc (fun _ => ?_) (fun h => absurd rfl h)⟩
  refine ⟨eqc (fun _ => ?_) (fun h => absurd rfl h)⟩
  refine ⟨_, awake_ok.up, ?_⟩
  rintro q rfl
  exact rfl

end Qv
end
