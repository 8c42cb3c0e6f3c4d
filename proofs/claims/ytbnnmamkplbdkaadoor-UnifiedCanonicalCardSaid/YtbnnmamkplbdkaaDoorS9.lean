/- Several texts in one: Contracts: decimal numerals, sides and the text of blocks, in the reference, Contracts: the text of blocks, in the reference, Contracts: equality of hunks; the law UnifiedTexts. No condition. -/
import Derived.Test.YtbnnmamkplbdkaaDoorS8
import Derived.Test.YtbnnmamkplbdkaaDoorS6

section
/- Contracts: decimal numerals, sides and the text of blocks, in the reference. No condition. -/
set_option linter.unusedVariables false
set_option linter.unusedSimpArgs false
open Go Go.Proofs
namespace Qv

theorem itoa_small (u : Nat) (h : u < 10) : Lib.itoa (u : Int) = [UInt8.ofNat (48 + u)] := by
  unfold Lib.itoa
  rw [if_neg (by omega), Int.toNat_natCast, Lib.decDigits_one h]

theorem itoa_big (u : Nat) (h : ¬ u < 10) : Lib.itoa (u : Int) = Lib.itoa ((u / 10 : Nat) : Int) ++ Lib.itoa ((u % 10 : Nat) : Int) := by
  unfold Lib.itoa
  rw [if_neg (by omega), if_neg (by omega), if_neg (by omega), Int.toNat_natCast, Int.toNat_natCast, Int.toNat_natCast, Lib.decDigits_one (by omega : u % 10 < 10)]
  rw [Lib.decDigits, dif_neg h]

theorem digits_ok (u : Nat) (hu : u ≤ 2 ^ 60) : CallsTo C 71 [.int .i64 (u : Int)] (fun r => r = .val (.str (Lib.itoa u))) := by
  induction u using Nat.strongRecOn with
  | _ u ih =>
  refine callsTo_of_ev' Tryd.func71 rfl rfl rfl ?_
  refine ⟨dc (fun h => ?_) (fun h => ?_)⟩
  · have hu : u < 10 := by omega
    refine ⟨((u + 1 : Nat) : Int), (show IntKind.i64.wrap ((u : Int) + 1) = _ from by rw [wrap64 (by omega) (by omega)]; omega), u + 1, rfl, u, rfl, by omega, (show u + 1 ≤ 10 by omega), [UInt8.ofNat (48 + u)], ?_, ?_⟩
    · have : ∀ p : Fin 10, List.drop p.val (List.take (p.val + 1) [48, 49, 50, 51, 52, 53, 54, 55, 56, 57]) = [UInt8.ofNat (48 + p.val)] := by decide +kernel
      exact this ⟨u, hu⟩
    · show Ret.val _ = _
      rw [itoa_small u hu]
  · have hu' : ¬ u < 10 := by omega
    refine ⟨by decide, ((u / 10 : Nat) : Int), ?_, _, ih (u / 10) (by omega) (by omega), ?_⟩
    · rw [show ((u : Int).tdiv 10) = ((u / 10 : Nat) : Int) from rfl]
      exact wrap64 (by omega) (by omega)
    rintro r rfl
    refine ⟨by decide, ((u % 10 : Nat) : Int), rfl, _, ih (u % 10) (by omega) (by omega), ?_⟩
    rintro r rfl
    have l1 := itoa_len ((u / 10 : Nat) : Int) (by omega) (by omega)
    have l2 := itoa_len ((u % 10 : Nat) : Int) (by omega) (by omega)
    refine ⟨by omega, ?_⟩
    show Ret.val _ = _
    rw [itoa_big u hu']

theorem digits_ok' (n : Int) (h0 : 0 ≤ n) (h1 : n ≤ 2 ^ 60) : CallsTo C 71 [.int .i64 n] (fun r => r = .val (.str (Lib.itoa n))) := by
  obtain ⟨u, rfl⟩ := Int.eq_ofNat_of_zero_le h0
  exact digits_ok u (by omega)

theorem side_ok (at_ n : Int) (ha : 0 ≤ at_ ∧ at_ ≤ 2 ^ 50) (hn : 0 ≤ n ∧ n ≤ 2 ^ 50) : CallsTo C 53 [.int .i64 at_, .int .i64 n] (fun r => r = .val (.str (placeS at_ n))) := by
  have l1 := itoa_len at_ (by omega) (by omega)
  have l2 := itoa_len (at_ + 1) (by omega) (by omega)
  have l3 := itoa_len n (by omega) (by omega)
  refine callsTo_of_ev' Tryd.func53 rfl rfl rfl ?_
  refine ⟨dc (fun h => ?_) (fun h => ?_)⟩
  · refine ⟨_, wrap64 (by first | omega | (simp only [List.length_map, List.length_append, List.length_cons, List.length_nil] at *; omega)) (by first | omega | (simp only [List.length_map, List.length_append, List.length_cons, List.length_nil] at *; omega)), _, digits_ok' (at_ + 1) (by omega) (by omega), ?_⟩
    rintro r rfl
    refine ⟨by simp only [List.length_cons, List.length_nil]; omega, _, digits_ok' n (by omega) (by omega), ?_⟩
    rintro r rfl
    refine ⟨by simp only [List.length_append, List.length_cons, List.length_nil]; omega, ?_⟩
    show Ret.val _ = _
    unfold placeS
    rw [if_pos h]
  · refine ⟨_, digits_ok' at_ (by omega) (by omega), ?_⟩
    rintro r rfl
    refine ⟨by simp only [List.length_cons, List.length_nil]; omega, _, digits_ok' n (by omega) (by omega), ?_⟩
    rintro r rfl
    refine ⟨by simp only [List.length_append, List.length_cons, List.length_nil]; omega, ?_⟩
    show Ret.val _ = _
    unfold placeS
    rw [if_neg h]

end Qv
end

section
/- Contracts: the text of blocks, in the reference. No condition. -/
set_option linter.unusedVariables false
set_option linter.unusedSimpArgs false
open Go Go.Proofs
namespace Qv

theorem hasLF_mem (s : Bytes) : hasLF s = decide ((10 : UInt8) ∈ s) := by
  unfold hasLF
  induction s with
  | nil => rfl
  | cons b l ih =>
    unfold Lib.indexByte
    by_cases h : b = 10
    · subst h; simp
    · rw [if_neg (by simpa using h)]
      have hge := Lib.indexByte_ge l 10
      by_cases h1 : Lib.indexByte l 10 = -1
      · rw [h1] at ih
        rw [if_pos (by simp [h1])]
        have : ¬ (10 : UInt8) ∈ l := by simpa using ih
        simp [this, Ne.symm h]
      · rw [if_neg (by simpa using h1)]
        have : (10 : UInt8) ∈ l := by
          have h2 : decide (0 ≤ Lib.indexByte l 10) = true := decide_eq_true (by omega)
          rw [h2] at ih
          simpa using ih
        have h3 : 0 ≤ Lib.indexByte l 10 + 1 := by omega
        simp [this, h3]

theorem hasLF_at {s : Bytes} {t : Nat} (h : t < s.length) (he : s[t] = 10) : hasLF s = true := by
  rw [hasLF_mem]
  exact decide_eq_true (he ▸ List.getElem_mem h)

theorem hasLF_no {s : Bytes} (h : ∀ (u : Nat) (hu : u < s.length), s[u] ≠ 10) : hasLF s = false := by
  rw [hasLF_mem]
  refine decide_eq_false fun hm => ?_
  obtain ⟨u, hu, he⟩ := List.getElem_of_mem hm
  exact h u hu he

set_option maxHeartbeats 2000000 in
theorem refFormat_ok (l : List Block) (ht : TinyB l) (hT : textLen l ≤ 2 ^ 40) : CallsTo C 28 [encBs l] (fun r => r = .val (.tup [.str (uformat l).1, .int .i64 (uformat l).2])) := by
  have hlen := ht.len
  refine callsTo_of_ev' Tryd.func28 rfl rfl rfl ?_
  refine ⟨_, checkR_ok l ht, ?_⟩
  rintro r rfl
  refine ⟨nec (fun h => ?_) (fun h => ?_)⟩
  · unfold uformat
    rw [if_neg h]
    exact rfl
  have hu : uformat l = resF (formatF l) := by unfold uformat; rw [if_pos h]
  have hBOK := checkF_ok h
  rw [hu]
  refine loopR 98 (fun x : Nat × Bytes => [(0, .p (encBs l)), (6, .p (.str x.2)), (7, .p (.int .i64 x.1))]) (fun _ => [])
    (fun x => x.1 ≤ l.length ∧ preB x.2 (formatF (l.drop x.1)) = formatF l ∧ x.2.length ≤ textLen (l.take x.1)) (fun x => l.length - x.1) (0, []) ⟨Nat.zero_le _, by show preB [] (formatF l) = formatF l; cases formatF l <;> rfl, Nat.zero_le _⟩ rfl ⟨Weak.refl _, Weak.refl _, Weak.refl _, trivial⟩ trivial ?_
  rintro ⟨k, bs⟩ ⟨hk, he, hbl⟩
  simp only at hk he hbl
  refine ⟨ltc (fun hlt => ?_) (fun hge => ?_)⟩
  · have hlt : k < l.length := hlt
    have hb := hBOK _ (List.getElem_mem hlt)
    have hll := ht.each _ (List.getElem_mem hlt)
    have b1 := bok_len hb hll
    have b2 := hb.at_
    have b3 := hb.at'
    have t1 := textLen_take l k hlt
    have t2 := textLen_le l (k + 1)
    have p1 := side_ok l[k].oldAt l[k].oldLen (by omega) (by omega)
    have p2 := side_ok l[k].newAt l[k].newLen (by omega) (by omega)
    have n1 := placeS_len l[k].oldAt l[k].oldLen (by omega) (by omega)
    have n2 := placeS_len l[k].newAt l[k].newLen (by omega) (by omega)
    have n3 := headS_len hb hll
    rw [formatF_step l k hlt, preB_preB] at he
    refine ⟨.lex 26, by kernel_rfl, _, rfl, .p (.str (bs ++ [64, 64, 32, 45])), ⟨by simp only [List.length_cons, List.length_nil]; omega, rfl⟩, _, rfl, _, rfl, _, ⟨by omega, _, idx_map rfl hlt, rfl, rfl⟩, _, rfl, _, rfl, _, rfl, _, rfl, _, ⟨by omega, _, idx_map rfl hlt, rfl, rfl⟩, _, rfl, _, rfl, .p (.str (placeS l[k].oldAt l[k].oldLen)), ⟨_, p1, fun r hr => by subst hr; rfl⟩, .p (.str (bs ++ [64, 64, 32, 45] ++ placeS l[k].oldAt l[k].oldLen)), ⟨by simp only [List.length_append, List.length_cons, List.length_nil]; omega, rfl⟩, .p (.str (bs ++ [64, 64, 32, 45] ++ placeS l[k].oldAt l[k].oldLen ++ [32, 43])), ⟨by simp only [List.length_append, List.length_cons, List.length_nil]; omega, rfl⟩, _, rfl, _, rfl, _, ⟨by omega, _, idx_map rfl hlt, rfl, rfl⟩, _, rfl, _, rfl, _, rfl, _, rfl, _, ⟨by omega, _, idx_map rfl hlt, rfl, rfl⟩, _, rfl, _, rfl, .p (.str (placeS l[k].newAt l[k].newLen)), ⟨_, p2, fun r hr => by subst hr; rfl⟩, by simp only [List.length_append, List.length_cons, List.length_nil]; omega, by simp only [List.length_append, List.length_cons, List.length_nil]; omega, ?_⟩
    have hcat : bs ++ [64, 64, 32, 45] ++ placeS l[k].oldAt l[k].oldLen ++ [32, 43] ++ placeS l[k].newAt l[k].newLen ++ [32, 64, 64, 10] = bs ++ headS l[k] := by simp [headS]
    rw [hcat]
    refine loopR 98 (fun x : Nat × Bytes => [(0, .p (encBs l)), (6, .p (.str x.2)), (7, .p (.int .i64 k)), (8, .p (.int .i64 x.1))]) (fun _ => [])
      (fun x => x.1 ≤ l[k].lines.length ∧ preB x.2 (match linesF (l[k].lines.drop x.1) with | none => none | some t => preB t (formatF (l.drop (k + 1)))) = formatF l ∧ x.2.length ≤ textLen (l.take k) + 100 + sumLen (l[k].lines.take x.1) + x.1) (fun x => l[k].lines.length - x.1) (0, bs ++ headS l[k]) ⟨Nat.zero_le _, he, by simp only [List.length_append]; omega⟩ rfl ⟨Weak.refl _, Weak.refl _, Weak.refl _, Weak.refl _, trivial⟩ trivial ?_
    rintro ⟨j, cs⟩ ⟨hj, hje, hcl⟩
    simp only at hj hje hcl
    refine ⟨by omega, _, idx_map rfl hlt, rfl, ⟨ltc (fun hlj => ?_) (fun hgj => ?_)⟩⟩
    · have hlj : j < l[k].lines.length := hlj
      have s1 := sumLen_take l[k].lines j hlj
      have s2 : sumLen (l[k].lines.take (j + 1)) ≤ sumLen l[k].lines := sum_take_le _ _ _
      have s3 : l[k].lines[j].length ≤ sumLen l[k].lines := sumLen_mem (List.getElem_mem hlj)
      rw [linesF_step l[k].lines j hlj] at hje
      refine loopR 98 (fun t : Nat => [(0, .p (encBs l)), (6, .p (.str cs)), (7, .p (.int .i64 k)), (8, .p (.int .i64 j)), (9, .p (.int .i64 t))]) (fun _ => [])
        (fun t => t ≤ l[k].lines[j].length ∧ ∀ (u : Nat) (hu : u < l[k].lines[j].length), u < t → l[k].lines[j][u] ≠ 10) (fun t => l[k].lines[j].length - t) 0 ⟨Nat.zero_le _, fun u hu h => absurd h (Nat.not_lt_zero _)⟩ rfl ⟨Weak.refl _, Weak.refl _, Weak.refl _, Weak.refl _, Weak.refl _, trivial⟩ trivial ?_
      rintro t ⟨htl, htn⟩
      refine ⟨by omega, _, idx_map rfl hlt, rfl, by omega, _, idx_map rfl hlj, rfl, ⟨dc (fun h1 => ?_) (fun h1 => ?_)⟩⟩
      · have h1 : t < l[k].lines[j].length := by omega
        refine ⟨by omega, _, idx_map rfl hlt, rfl, by omega, _, idx_map rfl hlj, rfl, by omega, (l[k].lines[j][t]), by simp [h1], ⟨eqc (fun h2 => ?_) (fun h2 => ?_)⟩⟩
        · have h2 : l[k].lines[j][t] = 10 := UInt8.toNat.inj (by have h3 : ((l[k].lines[j][t]).toNat : Int) = 10 := h2; show _ = 10; omega)
          rw [if_pos (hasLF_at h1 h2)] at hje
          rw [← hje]
          exact rfl
        · have h2 : l[k].lines[j][t] ≠ 10 := by intro e; rw [e] at h2; exact h2 rfl
          refine ⟨((t + 1 : Nat) : Int), (show IntKind.i64.wrap ((t : Int) + 1) = _ from by rw [wrap64 (by omega) (by omega)]; omega), roundR (t + 1) ⟨h1, fun u hu hlt => ?_⟩ (by omega) rfl ⟨Weak.refl _, Weak.refl _, Weak.refl _, Weak.refl _, Weak.refl _, trivial⟩ trivial⟩
          by_cases e : u = t
          · subst e; exact h2
          · exact htn u hu (by omega)
      · have htl : t = l[k].lines[j].length := by omega
        rw [hasLF_no (fun u hu => htn u hu (by omega)), if_neg (by simp)] at hje
        refine ⟨by omega, _, idx_map rfl hlt, rfl, by omega, _, idx_map rfl hlj, rfl, by omega, by simp only [List.length_append, List.length_cons, List.length_nil]; omega, ((j + 1 : Nat) : Int), (show IntKind.i64.wrap ((j : Int) + 1) = _ from by rw [wrap64 (by omega) (by omega)]; omega), ?_⟩
        refine roundR (j + 1, cs ++ l[k].lines[j] ++ [10]) ⟨hlj, ?_, ?_⟩ (by simp only; omega) rfl ⟨Weak.refl _, Weak.refl _, Weak.refl _, Weak.refl _, trivial⟩ trivial
        · rw [← hje]
          cases linesF (l[k].lines.drop (j + 1)) with
          | none => rfl
          | some t => simp only [preB]; cases formatF (l.drop (k + 1)) <;> simp [preB]
        · simp only [List.length_append, List.length_cons, List.length_nil]; omega
    · have hjl : j = l[k].lines.length := by omega
      rw [hjl, List.drop_length] at hje
      rw [hjl, List.take_length] at hcl
      refine ⟨_, wrap64 (by first | omega | (simp only [List.length_map, List.length_append, List.length_cons, List.length_nil] at *; omega)) (by first | omega | (simp only [List.length_map, List.length_append, List.length_cons, List.length_nil] at *; omega)), roundR (k + 1, cs) ⟨hlt, ?_, ?_⟩ (by simp only; omega) rfl ⟨Weak.refl _, Weak.refl _, Weak.refl _, trivial⟩ trivial⟩
      · rw [← hje]
        simp only [linesF]
        cases formatF (l.drop (k + 1)) <;> simp [preB]
      · simp only; omega
  · rw [List.drop_of_length_le (by simp only at hge; omega)] at he
    rw [← he]
    simp only [formatF, preB, List.append_nil, resF]
    exact rfl

end Qv
end

section
/- Contracts: equality of hunks; the law UnifiedTexts. No condition. -/
set_option linter.unusedVariables false
set_option linter.unusedSimpArgs false
open Go Go.Proofs
namespace Qv

theorem hunk_ext {b c : Hunk} (h1 : b.at_ = c.at_) (h2 : b.old = c.old) (h3 : b.new = c.new) : b = c := by
  cases b; cases c
  simp_all

structure HSInv (x y : List Hunk) (k : Nat) : Prop where
  le : k ≤ x.length
  eq : x.take k = y.take k

set_option maxHeartbeats 4000000 in
theorem sameHs_ok (x y : List Hunk) (hx : x.length ≤ 2 ^ 40) (hy : y.length ≤ 2 ^ 40) (hxl : ∀ b, b ∈ x → b.old.length ≤ 2 ^ 40 ∧ b.new.length ≤ 2 ^ 40) (hyl : ∀ b, b ∈ y → b.old.length ≤ 2 ^ 40 ∧ b.new.length ≤ 2 ^ 40) :
    CallsTo C 29 [encHs x, encHs y] (fun r => r = .val (.bool (decide (x = y)))) := by
  refine callsTo_of_ev' Tryd.func29 rfl rfl rfl ?_
  refine ⟨nec (fun h => ?_) (fun h => ?_)⟩
  · have : x ≠ y := fun e => h (by rw [e])
    show Ret.val (.bool false) = _
    simp [this]
  have hl : x.length = y.length := by simp only [List.length_map] at h; omega
  refine loopR 56 (fun k : Nat => [(0, .p (encHs x)), (1, .p (encHs y)), (5, .p (.int .i64 k))]) (fun _ => []) (fun k => HSInv x y k) (fun k => x.length - k) 0 ⟨Nat.zero_le _, rfl⟩ rfl ⟨Weak.refl _, Weak.refl _, Weak.refl _, trivial⟩ trivial ?_
  intro k hk
  refine ⟨ltc (fun hlt => ?_) (fun hge => ?_)⟩
  · have hlb : k < y.length := by omega
    have hne (h' : x[k] ≠ y[k]) : x ≠ y := fun e => by subst e; exact h' rfl
    obtain ⟨m1, m2⟩ := hxl _ (List.getElem_mem hlt)
    obtain ⟨m3, m4⟩ := hyl _ (List.getElem_mem hlb)
    have c1 := same_ok x[k].old y[k].old (by omega) (by omega)
    have c2 := same_ok x[k].new y[k].new (by omega) (by omega)
    refine ⟨.keep (fun vs => vs = [.p (.bool (!decide (x[k] = y[k])))]), by kernel_rfl, ?_, ⟨fun v => ⟨fun hφ => ?_⟩⟩⟩
    · by_cases h1 : x[k].at_ = y[k].at_
      · by_cases h2 : x[k].old = y[k].old
        · exact ⟨_, rfl, _, rfl, _, ⟨by omega, _, idx_map rfl hlt, rfl, rfl⟩, _, rfl, _, rfl, _, rfl, _, rfl, _, ⟨by omega, _, idx_map rfl hlb, rfl, rfl⟩, _, rfl, _, rfl, .p (.bool false), ⟨fun t ht => by rw [ht, h1]; simp⟩, _, rfl, _, rfl, _, rfl, _, ⟨by omega, _, idx_map rfl hlt, rfl, rfl⟩, _, rfl, _, rfl, _, rfl, _, rfl, _, ⟨by omega, _, idx_map rfl hlb, rfl, rfl⟩, _, rfl, _, rfl, .p (.bool true), ⟨_, c1, fun r hr => by subst hr; rw [decide_eq_true h2]; rfl⟩, .p (.bool false), ⟨fun t ht => by rw [ht]; rfl⟩, _, rfl, _, rfl, _, rfl, _, rfl, _, ⟨by omega, _, idx_map rfl hlt, rfl, rfl⟩, _, rfl, _, rfl, _, rfl, _, rfl, _, ⟨by omega, _, idx_map rfl hlb, rfl, rfl⟩, _, rfl, _, rfl, .p (.bool (decide (x[k].new = y[k].new))), ⟨_, c2, fun r hr => by subst hr; rfl⟩, .p (.bool (!decide (x[k].new = y[k].new))), ⟨fun t ht => by rw [ht]⟩, _, rfl, by
            have e : decide (x[k] = y[k]) = decide (x[k].new = y[k].new) := decide_eq_decide.2 ⟨fun e => by rw [e], fun e => hunk_ext h1 h2 e⟩
            show [FV.p (.bool (!decide (x[k].new = y[k].new)))] = _
            rw [e]⟩
        · have e : ¬ x[k] = y[k] := fun e => h2 (by rw [e])
          exact ⟨_, rfl, _, rfl, _, ⟨by omega, _, idx_map rfl hlt, rfl, rfl⟩, _, rfl, _, rfl, _, rfl, _, rfl, _, ⟨by omega, _, idx_map rfl hlb, rfl, rfl⟩, _, rfl, _, rfl, .p (.bool false), ⟨fun t ht => by rw [ht, h1]; simp⟩, _, rfl, _, rfl, _, rfl, _, ⟨by omega, _, idx_map rfl hlt, rfl, rfl⟩, _, rfl, _, rfl, _, rfl, _, rfl, _, ⟨by omega, _, idx_map rfl hlb, rfl, rfl⟩, _, rfl, _, rfl, .p (.bool false), ⟨_, c1, fun r hr => by subst hr; rw [decide_eq_false h2]; rfl⟩, .p (.bool true), ⟨fun t ht => by rw [ht]; rfl⟩, _, rfl, _, rfl, _, rfl, by
            show [FV.p (.bool true)] = _
            rw [decide_eq_false e]; rfl⟩
      · have e : ¬ x[k] = y[k] := fun e => h1 (by rw [e])
        exact ⟨_, rfl, _, rfl, _, ⟨by omega, _, idx_map rfl hlt, rfl, rfl⟩, _, rfl, _, rfl, _, rfl, _, rfl, _, ⟨by omega, _, idx_map rfl hlb, rfl, rfl⟩, _, rfl, _, rfl, .p (.bool true), ⟨fun t ht => by rw [ht]; simp [h1]⟩, _, rfl, _, rfl, _, rfl, _, rfl, by
            show [FV.p (.bool true)] = _
            rw [decide_eq_false e]; rfl⟩
    injection hφ with hφ
    subst hφ
    by_cases e : x[k] = y[k]
    · rw [decide_eq_true e]
      exact ⟨((k + 1 : Nat) : Int), (show IntKind.i64.wrap ((k : Int) + 1) = _ from by rw [wrap64 (by omega) (by omega)]; omega), roundR (k + 1) ⟨hlt, same_step hl hlt hk.eq e⟩ (by omega) rfl ⟨Weak.refl _, Weak.refl _, Weak.refl _, trivial⟩ trivial⟩
    · rw [decide_eq_false e]
      have := hne e
      show Ret.val (.bool false) = _
      simp [this]
  · obtain rfl : k = x.length := by have := hk.le; omega
    have he := hk.eq
    rw [List.take_length, hl, List.take_length] at he
    show Ret.val (.bool true) = _
    simp [he]

theorem textLen_eq (l : List Block) : textLen l = 200 * l.length + bSum l + lSum l := by
  unfold textLen bSum lSum
  induction l with
  | nil => rfl
  | cons b l ih => simp only [List.map_cons, List.sum_cons, List.length_cons] at *; omega

theorem uhunks_len {l : List Block} (ht : TinyB l) (hl : l.length ≤ 2 ^ 10) : (uhunks l).1.length ≤ 2 ^ 40 := by
  unfold uhunks
  split
  · have := hunks_len l (2 ^ 20) ht.each
    simp only
    omega
  · simp

theorem hunkF_each (l : List Bytes) : ∀ (at_ : Int) (cur : Option Hunk) (n : Nat), (∀ h, h ∈ cur.toList → h.old.length + l.length ≤ n ∧ h.new.length + l.length ≤ n) → l.length ≤ n → ∀ h, h ∈ hunkF at_ cur l → h.old.length ≤ n ∧ h.new.length ≤ n := by
  induction l with
  | nil => intro at_ cur n hc hn h hh; exact hc h hh
  | cons s l ih =>
    intro at_ cur n hc hn h hh
    simp only [List.length_cons] at hc hn
    unfold hunkF at hh
    have hg : (cur.getD ⟨at_, [], []⟩).old.length + (l.length + 1) ≤ n ∧ (cur.getD ⟨at_, [], []⟩).new.length + (l.length + 1) ≤ n := by
      cases cur with
      | none => simp; omega
      | some c => exact hc c (by simp)
    split at hh
    · rcases List.mem_append.1 hh with hh | hh
      · have := hc h hh; omega
      · exact ih _ none n (fun h hh => by cases hh) (by omega) h hh
    · split at hh
      · refine ih _ _ n (fun h' hh' => ?_) (by omega) h hh
        obtain rfl : h' = _ := by simpa using hh'
        simp; omega
      · refine ih _ _ n (fun h' hh' => ?_) (by omega) h hh
        obtain rfl : h' = _ := by simpa using hh'
        simp; omega

theorem uhunks_each {l : List Block} (ht : TinyB l) : ∀ h, h ∈ (uhunks l).1 → h.old.length ≤ 2 ^ 40 ∧ h.new.length ≤ 2 ^ 40 := by
  unfold uhunks
  split
  · intro h hh
    obtain ⟨b, hb, hh⟩ := List.mem_flatMap.1 hh
    have h1 := ht.each b hb
    have := hunkF_each b.lines b.oldAt none (2 ^ 20) (fun h hh => by cases hh) h1 h hh
    omega
  · intro h hh; cases hh

set_option maxRecDepth 100000 in
set_option maxHeartbeats 4000000 in
theorem texts_law_ok (l : List Block) (hb' : SzB l) : CallsTo C 8 [encBs l] (fun q => q = .val (.bool true)) := by
  refine callsTo_of_ev' Tryd.func8 rfl rfl rfl ?_
  refine ⟨_, (greatBs_ok l hb').bool, ?_⟩
  rintro q ⟨t, hg, rfl⟩
  cases t with
  | true =>
    refine ⟨_, awake_ok, ?_⟩
    rintro q rfl
    exact rfl
  | false =>
  obtain ⟨z1, z2, z3⟩ := greatBs_no hg.symm
  have ht := greatBs_tiny hg.symm
  have hT := textLen_eq l
  have c1 := uhunks_ok l ht (by omega)
  have c2 := refHunks_ok l ht (by omega)
  have c3 := format_ok l ht (by omega)
  have c4 := refFormat_ok l ht (by omega)
  have u1 := uhunks_len ht (by omega)
  have u2 := uhunks_each ht
  have c5 : CallsTo C 29 [encHs (uhunks l).1, encHs (uhunks l).1] (fun r => r = .val (.bool true)) :=
    (sameHs_ok _ _ u1 u1 u2 u2).mono fun r hr => by rw [hr, decide_eq_true rfl]
  generalize uhunks l = X at *
  generalize uformat l = Y at *
  refine ⟨_, c1, ?_⟩
  rintro q rfl
  refine ⟨_, c2, ?_⟩
  rintro q rfl
  refine ⟨_, c3, ?_⟩
  rintro q rfl
  refine ⟨_, c4, ?_⟩
  rintro q rfl
  refine ⟨none, _, c5, ?_⟩
  rintro q rfl
  refine ⟨eqc (fun _ => ?_) (fun h => absurd rfl h)⟩
  refine ⟨eqc (fun _ => ?_) (fun h => absurd rfl h)⟩
  refine ⟨eqc (fun _ => ?_) (fun h => absurd rfl h)⟩
  refine ⟨_, awake_ok, ?_⟩
  rintro q rfl
  exact rfl

end Qv
end
