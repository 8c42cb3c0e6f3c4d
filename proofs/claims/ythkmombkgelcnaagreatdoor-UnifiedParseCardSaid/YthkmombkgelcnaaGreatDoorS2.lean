/- Several texts in one: Contracts: the blocks of hunks in the program, Contracts: distances, lines chosen, the nearest place in the program, Contracts: blocks applied, in the program, Contracts: the text of blocks in the program, Contracts: the law's closed example.. No condition. -/
import Derived.Test.YthkmombkgelcnaaGreatDoorS1
import Derived.Lib.ItoaLen

section
/- Contracts: the blocks of hunks in the program. No condition. -/
set_option linter.unusedVariables false
set_option linter.unusedSimpArgs false
open Go Go.Proofs Go.RowKit
namespace Qv

theorem groups_ok (l : List Hunk) (n : Int) : CallsTo C 22 [encHs l, .int .i64 n] (fun r => r = .val (.fn (.func 46) [] [.imp [encHs l], .imp [.int .i64 n]])) := by
  refine callsTo_of_ev' Tryz.func22 rfl rfl rfl ?_
  refine ⟨[2, 3], ?_⟩
  exact rfl

theorem gend_last : ∀ {g : List Hunk} (hne : g ≠ []), gend g = (g[g.length - 1]'(by have := List.length_pos_iff.2 hne; omega)).at_ + (g[g.length - 1]'(by have := List.length_pos_iff.2 hne; omega)).old.length
  | [], h => absurd rfl h
  | [x], h => rfl
  | x :: y :: r, h => by
    have := gend_last (g := y :: r) (by simp)
    simp only [gend]
    rw [this]
    simp

theorem newTotal_le (l : List Hunk) : newTotal l ≤ hSum l := by
  unfold newTotal hSum
  induction l with
  | nil => simp
  | cons x l ih => simp only [List.map_cons, List.sum_cons, hLen] at *; omega

/-- The state of the loop of 'groups'. -/
structure PInv (a : List Bytes) (l : List Hunk) (n : Int) (i k : Nat) (shift : Int) (out : List Block) (pe : Int) : Prop where
  o : OInv a l n i shift out pe
  ik : i ≤ k
  le : k ≤ l.length
  j : ∀ j (h : j + 1 < l.length), i ≤ j → j < k → joined n l[j] l[j + 1] = true
  fin : k = l.length → i = l.length

set_option maxRecDepth 100000 in
set_option maxHeartbeats 4000000 in
theorem blocks_ok (a : List Bytes) (l : List Hunk) (n : Int) (hs : TinyS a) (ht : TinyH l) (hsz : a.length + hSum l ≤ 2 ^ 40) :
    CallsTo C 8 [encS a, encHs l, .int .i64 n] (fun r => r = .val (.tup [encBs (blocksL a l n).1, .int .i64 (blocksL a l n).2])) := by
  have hla := hs.len
  have hlen := ht.len
  have hsum := ht.sum
  refine callsTo_of_ev' Tryz.func8 rfl rfl rfl ?_
  refine ⟨none, ⟨dc (fun q1 => ?_) (fun q1 => ⟨dc (fun q2 => ?_) (fun q2 => ?_)⟩)⟩⟩
  · unfold blocksL
    rw [if_pos (.inl q1)]
    exact rfl
  · unfold blocksL
    rw [if_pos (.inr q2)]
    exact rfl
  have hblk : blocksL a l n = if (happly a l).2 = 0 then (blocksF a n 0 (groupsL n l), 0) else ([], (happly a l).2) := by
    unfold blocksL; rw [if_neg (by omega)]
  have hn0 : 0 ≤ n := by omega
  refine ⟨_, apply_ok a l hs ht, ?_⟩
  rintro r rfl
  refine ⟨nec (fun h => ?_) (fun h => ?_)⟩
  · rw [hblk, if_neg h]
    exact rfl
  rw [if_pos h] at hblk
  have hnt := newTotal_le l
  refine ⟨_, groups_ok l n, ?_⟩
  rintro r rfl
  refine ⟨_, Tryz.func46, rfl, rfl, rfl, ?_⟩
  refine loopG 51 1000 (fun x : Nat × Nat × Int × List Block × Int => [(0, .yld 1000000), (1, .p (.imp [encHs l])), (2, .p (.imp [.int .i64 n])), (4, .p (.int .i64 x.1)), (7, .p (.int .i64 (l.map encHunk).length)), (8, .p (.int .i64 x.2.1))])
    (fun x => [(3, [.p (encS a)]), (5, [.p (.int .i64 n)]), (10, [.tip 2132 48 5 (x.2.2.2.1.map encBlock)]), (11, [.p (.int .i64 x.2.2.1)])])
    (fun x => [(134, 0, [(3, .ptr 3 0), (5, .ptr 5 0), (10, .ptr 10 0), (11, .ptr 11 0)])]) [.ready] (fun _ => [])
    (fun x => PInv a l n x.1 x.2.1 x.2.2.1 x.2.2.2.1 x.2.2.2.2) (fun x => l.length - x.2.1) (0, 0, 0, [], -1) ⟨OInv.zero hn0 h, Nat.le_refl _, Nat.zero_le _, fun j _ _ h => absurd h (Nat.not_lt_zero j), fun h => h⟩
    rfl ⟨Weak.refl _, Weak.refl _, Weak.refl _, Weak.refl _, Weak.refl _, Weak.refl _, trivial⟩ ⟨hasO_one rfl, hasO_one rfl, ⟨_, rfl, rfl, ?_⟩, hasO_one rfl, trivial⟩ ⟨rfl, ⟨Weak.refl _, Weak.refl _, Weak.refl _, Weak.refl _, trivial⟩, trivial⟩ trivial ?_
  · intro i x y hx hy
    match i, hx, hy with
    | 0, hx, hy => cases hx; cases hy; exact Weak.full_tip _ _ _
  rintro ⟨i, k, shift, out, pe⟩ hP
  simp only at hP
  refine ⟨ltc (fun hlt => ?_) (fun hge => ?_)⟩
  · have hlt : k < l.length := hlt
    have hik := hP.ik
    have v1 := fit_mem (happly_fit h).1 _ (List.getElem_mem hlt)
    have u1 := (ht.each _ (List.getElem_mem hlt)).1.len
    refine ⟨.keep (fun vs => ∃ b : Bool, vs = [.p (.bool b)] ∧ (b = true → ∃ h : k + 1 < l.length, joined n l[k] l[k + 1] = true) ∧ (b = false → ∀ h : k + 1 < l.length, joined n l[k] l[k + 1] = false)), by kernel_rfl, ?_, ⟨fun v => ⟨fun hφ => ?_⟩⟩⟩
    · by_cases hk1 : k + 1 < l.length
      · have v2 := fit_mem (happly_fit h).1 _ (List.getElem_mem hk1)
        by_cases hJ : l[k + 1].at_ - l[k].at_ - l[k].old.length ≤ 2 * n
        · exact ⟨_, rfl, _, ⟨((k + 1 : Nat) : Int), (show IntKind.i64.wrap ((k : Int) + 1) = _ from by rw [wrap64 (by omega) (by omega)]; omega), rfl⟩, _, rfl, _, rfl, .p (.bool true), ⟨fun t ht => by rw [ht, List.length_map, decide_eq_true (by omega)]⟩, _, rfl, _, rfl, _, rfl, _, ⟨((k + 1 : Nat) : Int), (show IntKind.i64.wrap ((k : Int) + 1) = _ from by rw [wrap64 (by omega) (by omega)]; omega), rfl⟩, _, ⟨by omega, _, idx_map rfl hk1, rfl, rfl⟩, _, rfl, _, rfl, _, rfl, _, rfl, _, ⟨by omega, _, idx_map rfl hlt, rfl, rfl⟩, _, rfl, _, rfl, _, ⟨_, wrap64 (by first | omega | (simp only [List.length_map, List.length_append, List.length_cons, List.length_nil] at *; omega)) (by first | omega | (simp only [List.length_map, List.length_append, List.length_cons, List.length_nil] at *; omega)), rfl⟩, _, rfl, _, rfl, _, ⟨by omega, _, idx_map rfl hlt, rfl, rfl⟩, _, rfl, _, rfl, _, rfl, _, ⟨_, wrap64 (by first | omega | (simp only [List.length_map, List.length_append, List.length_cons, List.length_nil] at *; omega)) (by first | omega | (simp only [List.length_map, List.length_append, List.length_cons, List.length_nil] at *; omega)), rfl⟩, _, rfl, _, ⟨_, wrap64 (by first | omega | (simp only [List.length_map, List.length_append, List.length_cons, List.length_nil] at *; omega)) (by first | omega | (simp only [List.length_map, List.length_append, List.length_cons, List.length_nil] at *; omega)), rfl⟩, .p (.bool true), ⟨fun t ht => by rw [ht, List.length_map, decide_eq_true hJ]⟩, _, rfl, true, rfl, fun _ => ⟨hk1, decide_eq_true (by omega)⟩, fun h => (by cases h)⟩
        · exact ⟨_, rfl, _, ⟨((k + 1 : Nat) : Int), (show IntKind.i64.wrap ((k : Int) + 1) = _ from by rw [wrap64 (by omega) (by omega)]; omega), rfl⟩, _, rfl, _, rfl, .p (.bool true), ⟨fun t ht => by rw [ht, List.length_map, decide_eq_true (by omega)]⟩, _, rfl, _, rfl, _, rfl, _, ⟨((k + 1 : Nat) : Int), (show IntKind.i64.wrap ((k : Int) + 1) = _ from by rw [wrap64 (by omega) (by omega)]; omega), rfl⟩, _, ⟨by omega, _, idx_map rfl hk1, rfl, rfl⟩, _, rfl, _, rfl, _, rfl, _, rfl, _, ⟨by omega, _, idx_map rfl hlt, rfl, rfl⟩, _, rfl, _, rfl, _, ⟨_, wrap64 (by first | omega | (simp only [List.length_map, List.length_append, List.length_cons, List.length_nil] at *; omega)) (by first | omega | (simp only [List.length_map, List.length_append, List.length_cons, List.length_nil] at *; omega)), rfl⟩, _, rfl, _, rfl, _, ⟨by omega, _, idx_map rfl hlt, rfl, rfl⟩, _, rfl, _, rfl, _, rfl, _, ⟨_, wrap64 (by first | omega | (simp only [List.length_map, List.length_append, List.length_cons, List.length_nil] at *; omega)) (by first | omega | (simp only [List.length_map, List.length_append, List.length_cons, List.length_nil] at *; omega)), rfl⟩, _, rfl, _, ⟨_, wrap64 (by first | omega | (simp only [List.length_map, List.length_append, List.length_cons, List.length_nil] at *; omega)) (by first | omega | (simp only [List.length_map, List.length_append, List.length_cons, List.length_nil] at *; omega)), rfl⟩, .p (.bool false), ⟨fun t ht => by rw [ht, List.length_map, decide_eq_false hJ]⟩, _, rfl, false, rfl, fun h => (by cases h), fun _ _ => decide_eq_false (by omega)⟩
      · exact ⟨_, rfl, _, ⟨((k + 1 : Nat) : Int), (show IntKind.i64.wrap ((k : Int) + 1) = _ from by rw [wrap64 (by omega) (by omega)]; omega), rfl⟩, _, rfl, _, rfl, .p (.bool false), ⟨fun t ht => by rw [ht, List.length_map, decide_eq_false (by omega)]⟩, _, rfl, _, rfl, false, rfl, fun h => (by cases h), fun _ h => absurd h hk1⟩
    obtain ⟨b, hv, hb1, hb2⟩ := hφ
    injection hv with hv
    subst hv
    cases b with
    | true =>
      obtain ⟨hk1, hj⟩ := hb1 rfl
      refine ⟨k + 1, wrap64 (by first | omega | (simp only [List.length_map, List.length_append, List.length_cons, List.length_nil] at *; omega)) (by first | omega | (simp only [List.length_map, List.length_append, List.length_cons, List.length_nil] at *; omega)), roundG (i, k + 1, shift, out, pe) (show PInv a l n i (k + 1) shift out pe from ⟨hP.o, by omega, by omega, fun j hjl c d => ?_, fun e => absurd e (by omega)⟩) (by simp only; omega) rfl ⟨Weak.refl _, Weak.refl _, Weak.refl _, Weak.refl _, Weak.refl _, Weak.refl _, trivial⟩ ⟨hasO_one rfl, hasO_one rfl, hasO_one rfl, hasO_one rfl, trivial⟩ ⟨rfl, ⟨Weak.refl _, Weak.refl _, Weak.refl _, Weak.refl _, trivial⟩, trivial⟩ trivial⟩
      by_cases e : j < k
      · exact hP.j j hjl c e
      · obtain rfl : j = k := by omega
        exact hj
    | false =>
      have hno := hb2 rfl
      have hg : groupsL n (l.drop i) = seg l i (k + 1) :: groupsL n (l.drop (k + 1)) :=
        groups_step (k - i) i (k + 1) (by omega) hlt (fun j hj c d => hP.j j hj c (by omega)) (fun h' => by simpa using hno h')
      obtain ⟨gne, p, e, hp, he, hc, hel, hpe, hps, hol, hnl, hN⟩ := hP.o.step hn0 (by omega) hg hlt
      have hll : (seg l i (k + 1)).length ≤ l.length := by unfold seg; simp; omega
      have hgs : hSum (seg l i (k + 1)) ≤ hSum l := by
        have h1 : hSum (l.take (k + 1)) ≤ hSum l := sum_take_le hLen l (k + 1)
        have h2 := congrArg (fun x => (x.map hLen).sum) (List.take_append_drop i (l.take (k + 1)))
        simp only [List.map_append, List.sum_append] at h2
        unfold hSum seg at *
        omega
      have htg : TinyH (seg l i (k + 1)) := ⟨by omega, by omega, fun x hx => ht.each x (List.mem_of_mem_take (List.mem_of_mem_drop hx))⟩
      refine ⟨((k + 1 : Nat) : Int), (show IntKind.i64.wrap ((k : Int) + 1) = _ from by rw [wrap64 (by omega) (by omega)]; omega), k + 1, rfl, i, rfl, by omega, by rw [List.length_map]; exact hlt, all_enc (f := encHunk) (n := 3) (fun _ => rfl) l, _, seg_map encHunk l i (k + 1), rfl, ?_⟩
      have hN' : PInv a l n (k + 1) (k + 1) (shift + (blockR a e p (seg l i (k + 1)) (p + shift)).newLen - (blockR a e p (seg l i (k + 1)) (p + shift)).oldLen) (out ++ [blockR a e p (seg l i (k + 1)) (p + shift)]) (min a.length (gend (seg l i (k + 1)) + n)) :=
        ⟨hN, Nat.le_refl _, hlt, fun j _ c d => absurd d (by omega), fun e => e⟩
      have w1 := hP.o.lo
      have w2 := hP.o.hi
      have w3 := hP.o.pele
      have w4 := hP.o.len
      have w5 := hN.hi
      have w6 := newTotal_seg (l := l) (i := i) (k := k + 1) (by omega)
      have hsub : ∀ x, x ∈ seg l i (k + 1) → x ∈ l := fun x hx => List.mem_of_mem_take (List.mem_of_mem_drop hx)
      generalize hgg : seg l i (k + 1) = g at *
      have hgl : g.length - 1 < g.length := by have := List.length_pos_iff.2 gne; omega
      have hgp : 0 < g.length := by omega
      have hend := gend_last gne
      obtain ⟨q0, z1, z2⟩ := gbeg_nat hc gne
      have hg0 : g[0].at_ = gbeg g := by
        cases g with
        | nil => exact absurd rfl gne
        | cons x r => rfl
      have z3 := (htg.each _ (List.getElem_mem hgl)).1.len
      have z4 := newSeg_len hel hc
      have z7 := fit_mem (happly_fit h).1 _ (hsub _ (List.getElem_mem hgl))
      have z5 : gend g ≤ a.length := by omega
      have z6 := newTotal_le g
      have z8 := htg.sum
      refine ⟨((g.length - 1 : Nat) : Int), by rw [List.length_map, wrap64 (by omega) (by omega)]; omega, by omega, _, idx_map rfl hgl, rfl, ?_⟩
      refine ⟨.lex 5, by kernel_rfl, _, rfl, _, ⟨Int.le_refl 0, _, idx_map (k := 0) rfl hgp, rfl, rfl⟩, _, rfl, _, rfl, _, rfl, _, wrap64 (by first | omega | (simp only [List.length_map, List.length_append, List.length_cons, List.length_nil] at *; omega)) (by first | omega | (simp only [List.length_map, List.length_append, List.length_cons, List.length_nil] at *; omega)), (p : Int), by rw [hg0]; split <;> omega, ?_⟩
      refine ⟨_, wrap64 (by first | omega | (simp only [List.length_map, List.length_append, List.length_cons, List.length_nil] at *; omega)) (by first | omega | (simp only [List.length_map, List.length_append, List.length_cons, List.length_nil] at *; omega)), _, wrap64 (by first | omega | (simp only [List.length_map, List.length_append, List.length_cons, List.length_nil] at *; omega)) (by first | omega | (simp only [List.length_map, List.length_append, List.length_cons, List.length_nil] at *; omega)), (e : Int), by simp only [List.length_map]; split <;> omega, (blockR a e p g (p + shift)).oldLen, by rw [wrap64 (by omega) (by omega)]; omega, (p : Int) + shift, (show IntKind.i64.wrap ((p : Int) + shift) = _ from wrap64 (by omega) (by omega)), ?_⟩
      refine loopG 134 2000 (fun x : Nat × List Bytes × Nat × Int => [(3, .ptr 3 0), (5, .ptr 5 0), (10, .ptr 10 0), (11, .ptr 11 0), (14, .p (.int .i64 x.2.2.1)), (15, .p (.int .i64 e)), (16, .ptr 2016 0), (70, .p (encHs g)), (71, .p (.int .i64 (g.map encHunk).length)), (72, .p (.int .i64 x.1))])
        (fun x => [(3, [.p (encS a)]), (5, [.p (.int .i64 n)]), (10, [.tip 2132 48 5 (out.map encBlock)]), (11, [.p (.int .i64 x.2.2.2)]), (2016, [.p (.int .i64 p), .p (.int .i64 (blockR a e p g (p + shift)).oldLen), .p (.int .i64 (p + shift)), .p (.int .i64 0), .tip 2091 9 1 (x.2.1.map enc1)])])
        (fun _ => [(51, 1000, [(0, .yld 1000000), (1, .p (.imp [encHs l])), (2, .p (.imp [.int .i64 n])), (4, .p (.int .i64 i)), (5, .p (.int .i64 k)), (7, .p (.int .i64 (l.map encHunk).length)), (8, .p (.int .i64 k))]), (134, 0, [(3, .ptr 3 0), (5, .ptr 5 0), (10, .ptr 10 0), (11, .ptr 11 0)])]) [.busy] (fun _ => [])
        (fun x => GInv a e p g x.1 x.2.1 x.2.2.1 ∧ x.2.2.2 = shift + newTotal (g.take x.1) - oldTotal (g.take x.1)) (fun x => g.length - x.1) (0, [], p, shift) ⟨GInv.zero gne hc, by simp [newTotal, oldTotal]⟩
        rfl ⟨Weak.refl _, Weak.refl _, Weak.refl _, Weak.refl _, Weak.refl _, Weak.refl _, Weak.refl _, Weak.refl _, Weak.refl _, Weak.refl _, trivial⟩ ⟨hasO_one rfl, hasO_one rfl, hasO_one rfl, hasO_one rfl, ⟨_, rfl, rfl, ?_⟩, trivial⟩ ⟨rfl, ⟨Weak.refl _, Weak.refl _, Weak.refl _, Weak.refl _, Weak.refl _, Weak.refl _, Weak.refl _, trivial⟩, rfl, ⟨Weak.refl _, Weak.refl _, Weak.refl _, Weak.refl _, trivial⟩, trivial⟩ trivial ?_
      · intro i x y hx hy
        match i, hx, hy with
        | 0, hx, hy => cases hx; cases hy; exact Weak.refl _
        | 1, hx, hy => cases hx; cases hy; exact Weak.refl _
        | 2, hx, hy => cases hx; cases hy; exact Weak.refl _
        | 3, hx, hy => cases hx; cases hy; exact Weak.refl _
        | 4, hx, hy => cases hx; cases hy; exact Weak.full_tip _ _ _
      rintro ⟨j, o, pos, sh⟩ ⟨hI, hsh⟩
      simp only at hI hsh
      refine ⟨ltc (fun hlj => ?_) (fun hgj => ?_)⟩
      · have hlj : j < g.length := hlj
        obtain ⟨q, h1, h2, h3, hJ⟩ := hI.facts hlj
        obtain ⟨t1, t2⟩ := htg.each _ (List.getElem_mem hlj)
        have y1 := t1.len
        have y2 := t2.len
        have y3 := hI.len
        have y4 := sum_take_le hLen g j
        have y5 := sum_take_le hLen g (j + 1)
        have y6 := hJ.len
        have y7 := sum_take (fun h : Hunk => h.new.length) g j hlj
        have y8 := sum_take (fun h : Hunk => h.old.length) g j hlj
        have y9 := newTotal_le (g.take j)
        have ya : oldTotal (g.take j) ≤ hSum (g.take j) := by
          unfold oldTotal hSum
          clear y9 y8 y7 y6 y5 y4 y3 hJ hI hsh
          induction (g.take j) with
          | nil => simp
          | cons x l ih => simp only [List.map_cons, List.sum_cons, hLen] at *; omega
        have hsl : (seg a pos q).length ≤ q - pos := by unfold seg; simp; omega
        unfold hSum at y3 y6 ya y9 z8 hgs hsz
        have hflat : [o, marked 32 (seg a pos q), marked 45 g[j].old, marked 43 g[j].new].flatten = o ++ marked 32 (seg a pos q) ++ marked 45 g[j].old ++ marked 43 g[j].new := by simp
        have hcat := concat_ok [o, marked 32 (seg a pos q), marked 45 g[j].old, marked 43 g[j].new] (by simp) (by rw [hflat]; omega)
        rw [hflat] at hcat
        refine ⟨by omega, _, idx_map rfl hlj, rfl, .lex 15, by kernel_rfl, _, rfl, _, rfl, _, rfl, _, rfl, _, rfl, _, rfl, .p (encS (seg a pos q)), ⟨q, h1, pos, rfl, h2, by rw [List.length_map]; omega, all_enc1 _, _, seg_map enc1 a _ _, rfl⟩, .p (encS (marked 32 (seg a pos q))), ⟨_, signed_ok 32 _ (tiny_seg hs pos q), fun r hr => by subst hr; rfl⟩, _, rfl, _, rfl, .p (encS (marked 45 g[j].old)), ⟨_, signed_ok 45 _ t1, fun r hr => by subst hr; rfl⟩, _, rfl, _, rfl, .p (encS (marked 43 g[j].new)), ⟨_, signed_ok 43 _ t2, fun r hr => by subst hr; rfl⟩, _, rfl, _, hcat, ?_⟩
        rintro r rfl
        refine ⟨((q + g[j].old.length : Nat) : Int), by rw [List.length_map, wrap64 (by omega) (by omega)]; omega, ((g[j].new.length : Int) - g[j].old.length), by simp only [List.length_map]; exact wrap64 (by omega) (by omega), sh + ((g[j].new.length : Int) - g[j].old.length), (show IntKind.i64.wrap (sh + _) = _ from wrap64 (by omega) (by omega)), ?_⟩
        exact ⟨j + 1, wrap64 (by first | omega | (simp only [List.length_map, List.length_append, List.length_cons, List.length_nil] at *; omega)) (by first | omega | (simp only [List.length_map, List.length_append, List.length_cons, List.length_nil] at *; omega)), roundG (j + 1, o ++ marked 32 (seg a pos q) ++ marked 45 g[j].old ++ marked 43 g[j].new, q + g[j].old.length, sh + ((g[j].new.length : Int) - g[j].old.length)) ⟨hJ, by unfold newTotal oldTotal at *; simp only at y7 y8 ⊢; omega⟩ (by simp only; omega) rfl ⟨Weak.refl _, Weak.refl _, Weak.refl _, Weak.refl _, Weak.refl _, Weak.refl _, Weak.refl _, Weak.refl _, Weak.refl _, Weak.refl _, trivial⟩ ⟨hasO_one rfl, hasO_one rfl, hasO_one rfl, hasO_one rfl, hasO_one rfl, trivial⟩ ⟨rfl, ⟨Weak.refl _, Weak.refl _, Weak.refl _, Weak.refl _, Weak.refl _, Weak.refl _, Weak.refl _, trivial⟩, rfl, ⟨Weak.refl _, Weak.refl _, Weak.refl _, Weak.refl _, trivial⟩, trivial⟩ trivial⟩
      · obtain ⟨d1, d2, d3⟩ := hI.done hgj
        have y3 := hI.len
        have y4 := sum_take_le hLen g j
        have hjl : j = g.length := by have := hI.le; simp only at hgj; omega
        have hsh' : sh = shift + newTotal g - oldTotal g := by rw [hsh, hjl, List.take_length]
        have hsl : (seg a pos e).length ≤ e - pos := by unfold seg; simp; omega
        have hse : shift + (blockR a e p g (p + shift)).newLen - (blockR a e p g (p + shift)).oldLen = sh := by omega
        rw [hse] at hN'
        have hkk : (seg a pos e).length ≤ 2 ^ 40 := by omega
        unfold hSum at y3 z8 hgs hsz
        refine ⟨.lex 7, by kernel_rfl, _, rfl, _, rfl, _, rfl, _, rfl, _, rfl, .p (encS (seg a pos e)), ⟨e, rfl, pos, rfl, d2, by rw [List.length_map]; omega, all_enc1 _, _, seg_map enc1 a _ _, rfl⟩, .p (encS (marked 32 (seg a pos e))), ⟨_, signed_ok 32 _ (tiny_seg hs pos e), fun r hr => by subst hr; rfl⟩, all_enc1 _, all_enc1 _, ?_, (blockLines a e p g).map enc1, by rw [← d1, List.map_append], ?_⟩
        · simp only [List.length_map, marked]; omega
        refine ⟨(p : Int) + (blockR a e p g (p + shift)).oldLen, (show IntKind.i64.wrap ((p : Int) + (blockR a e p g (p + shift)).oldLen) = _ from wrap64 (by omega) (by omega)), (p : Int) + (blockR a e p g (p + shift)).oldLen + sh, (show IntKind.i64.wrap ((p : Int) + (blockR a e p g (p + shift)).oldLen + sh) = _ from wrap64 (by omega) (by omega)), (blockR a e p g (p + shift)).newLen, (show IntKind.i64.wrap ((p : Int) + (blockR a e p g (p + shift)).oldLen + sh - (p + shift)) = _ from by rw [wrap64 (by omega) (by omega)]; omega), ?_⟩
        refine ⟨all_enc (f := encBlock) (n := 5) (fun _ => rfl) out, all_one rfl, ?_, (out ++ [blockR a e p g (p + shift)]).map encBlock, by rw [List.map_append]; rfl, ?_⟩
        · simp only [List.length_map, chunk, List.length_singleton]; omega
        refine ⟨fun u hu => ?_⟩
        subst hu
        refine ⟨((k + 1 : Nat) : Int), (show IntKind.i64.wrap ((k : Int) + 1) = _ from by rw [wrap64 (by omega) (by omega)]; omega), ((k + 1 : Nat) : Int), (show IntKind.i64.wrap ((k : Int) + 1) = _ from by rw [wrap64 (by omega) (by omega)]; omega), ?_⟩
        exact roundG (k + 1, k + 1, sh, out ++ [blockR a e p g (p + shift)], min a.length (gend g + n)) hN' (by simp only; omega) rfl ⟨Weak.refl _, Weak.refl _, Weak.refl _, Weak.refl _, Weak.refl _, Weak.refl _, trivial⟩ ⟨hasO_one rfl, hasO_one rfl, hasO_one rfl, hasO_one rfl, trivial⟩ ⟨rfl, ⟨Weak.refl _, Weak.refl _, Weak.refl _, Weak.refl _, trivial⟩, trivial⟩ trivial
  · have hk : k = l.length := by have := hP.le; simp only at hge; omega
    have hi := hP.fin hk
    have he := hP.o.eq
    rw [hblk]
    rw [List.drop_of_length_le (by omega)] at he
    simp only [groupsL, blocksF, List.append_nil] at he
    rw [← he]
    exact rfl

end Qv
end

section
/- Contracts: distances, lines chosen, the nearest place in the program. No condition. -/
set_option linter.unusedVariables false
set_option linter.unusedSimpArgs false
open Go Go.Proofs
namespace Qv

theorem distance_ok (a b : Int) (ha : -1 ≤ a ∧ a ≤ 2305843009213693952) (hb : -2305843009213693952 ≤ b ∧ b ≤ 2305843009213693952) : CallsTo C 51 [.int .i64 a, .int .i64 b] (fun r => r = .val (.int .i64 (dist a b))) := by
  refine callsTo_of_ev' Tryz.func51 rfl rfl rfl ?_
  refine ⟨_, rfl, _, rfl, dist a b, ?_, rfl⟩
  unfold dist
  rw [wrap64 (by split <;> split <;> omega) (by split <;> split <;> omega)]
  split <;> split <;> split <;> omega

theorem flatMap_take {α β : Type} (f : α → List β) (l : List α) (k : Nat) (h : k < l.length) : (l.take (k + 1)).flatMap f = (l.take k).flatMap f ++ f l[k] := by
  have : l.take (k + 1) = l.take k ++ [l[k]] := (List.take_append_getElem h).symm
  rw [this, List.flatMap_append]
  simp

theorem chosenL_le (g : UInt8) (l : List Bytes) : (chosenL g l).length ≤ l.length := by
  induction l with
  | nil => simp [chosenL]
  | cons s l ih =>
    unfold chosenL at *
    rw [List.flatMap_cons, List.length_append, List.length_cons]
    have : (chosen1 g s).length ≤ 1 := by unfold chosen1; split <;> simp
    omega

theorem chosen_ok (g : UInt8) (l : List Bytes) (hne : ∀ s, s ∈ l → s ≠ []) (hlen : l.length ≤ 2 ^ 40) : CallsTo C 31 [encS l, .int .u8 g.toNat] (fun r => r = .fresh 9 1 ((chosenL g l).map enc1)) := by
  refine callsTo_of_ev' Tryz.func31 rfl rfl rfl ?_
  refine loopR 30 (fun k : Nat => [(1, .p (.int .u8 g.toNat)), (5, .tip 27 9 1 ((chosenL g (l.take k)).map enc1)), (8, .p (encS l)), (9, .p (.int .i64 (l.map enc1).length)), (10, .p (.int .i64 k))]) (fun _ => []) (fun k => k ≤ l.length) (fun k => l.length - k) 0 (Nat.zero_le _) rfl ⟨Weak.refl _, Weak.full_tip _ _ _, Weak.refl _, Weak.refl _, Weak.refl _, trivial⟩ trivial ?_
  intro k hk
  refine ⟨ltc (fun hlt => ?_) (fun hge => ?_)⟩
  · obtain ⟨c, s, hs⟩ : ∃ c s, l[k] = c :: s := List.exists_cons_of_ne_nil (hne _ (List.getElem_mem hlt))
    have ho := flatMap_take (chosen1 g) _ _ hlt
    have hl := chosenL_le g (l.take k)
    refine ⟨by omega, _, idx_map rfl hlt, rfl, none, Int.le_refl 0, c, by rw [hs]; rfl, ⟨eqc (fun ht => ?_) (fun ht => ?_)⟩⟩
    · have hc : c = 32 := u8_eq ht
      have h1 : chosen1 g l[k] = [s] := by simp [chosen1, hs, hc]
      rw [h1] at ho
      refine ⟨1, rfl, by rw [hs]; simp, Nat.le_refl _, s, by rw [hs]; simp, all_enc1 _, all_one rfl, ?_, (chosenL g (l.take (k + 1))).map enc1, ?_, ?_⟩
      · simp [chunk] at hl ⊢; omega
      · unfold chosenL; rw [ho]; simp [chunk, enc1]
      · exact ⟨k + 1, wrap64 (by omega) (by omega), roundR (k + 1) hlt (by omega) rfl ⟨Weak.refl _, Weak.refl _, Weak.refl _, Weak.refl _, Weak.refl _, trivial⟩ trivial⟩
    · have hc : c ≠ 32 := fun e => ht (by rw [e]; rfl)
      refine ⟨Int.le_refl 0, c, by rw [hs]; rfl, ⟨eqc (fun ht2 => ?_) (fun ht2 => ?_)⟩⟩
      · have hg : c = g := u8_eq ht2
        have h1 : chosen1 g l[k] = [s] := by simp [chosen1, hs, hg]
        rw [h1] at ho
        refine ⟨1, rfl, by rw [hs]; simp, Nat.le_refl _, s, by rw [hs]; simp, all_enc1 _, all_one rfl, ?_, (chosenL g (l.take (k + 1))).map enc1, ?_, ?_⟩
        · simp [chunk] at hl ⊢; omega
        · unfold chosenL; rw [ho]; simp [chunk, enc1]
        · exact ⟨k + 1, wrap64 (by omega) (by omega), roundR (k + 1) hlt (by omega) rfl ⟨Weak.refl _, Weak.refl _, Weak.refl _, Weak.refl _, Weak.refl _, trivial⟩ trivial⟩
      · have hg : c ≠ g := fun e => ht2 (by rw [e])
        have h1 : chosen1 g l[k] = [] := by simp [chosen1, hs, hc, hg]
        rw [h1, List.append_nil] at ho
        exact ⟨k + 1, wrap64 (by omega) (by omega), roundR (k + 1) hlt (by omega) rfl ⟨Weak.refl _, Weak.eq (by unfold chosenL; rw [ho]; rfl), Weak.refl _, Weak.refl _, Weak.refl _, trivial⟩ trivial⟩
  · obtain rfl : k = l.length := by omega
    rw [List.take_length]
    exact .inl rfl

def bestI : Option Nat → Int
  | none => 0
  | some b => b

/-- The state of the search: the next place, the best till now. -/
structure NInv (a old : List Bytes) (fr : Nat) (want reach : Int) (p : Nat) (best : Option Nat) : Prop where
  le : fr ≤ p
  pos : p ≤ a.length + 1 ∨ p = fr
  eq : nearF a old want reach best p (a.length + 1 - old.length - fr - (p - fr)) = near a old fr want reach
  bound : ∀ b, best = some b → b ≤ a.length

theorem NInv.next {a old : List Bytes} {fr : Nat} {want reach : Int} {p : Nat} {best : Option Nat} (h : NInv a old fr want reach p best) (hp : p + old.length ≤ a.length) : NInv a old fr want reach (p + 1) (near1 a old want reach best p) := by
  obtain ⟨h1, h2, h3, h4⟩ := h
  refine ⟨by omega, by omega, ?_, fun b hb => ?_⟩
  · rw [← h3, show a.length + 1 - old.length - fr - (p - fr) = (a.length + 1 - old.length - fr - (p + 1 - fr)) + 1 by omega]
    rfl
  · unfold near1 at hb
    split at hb
    · obtain rfl := Option.some.inj hb; omega
    · exact h4 b hb

theorem NInv.done {a old : List Bytes} {fr : Nat} {want reach : Int} {p : Nat} {best : Option Nat} (h : NInv a old fr want reach p best) (hp : ¬ p + old.length ≤ a.length) : near a old fr want reach = best := by
  have h3 := h.eq
  have h1 := h.le
  rw [show a.length + 1 - old.length - fr - (p - fr) = 0 by omega] at h3
  exact h3.symm

theorem near1_no {a old : List Bytes} {want reach : Int} {best : Option Nat} {p : Nat} (h : ¬ (fitsB a old p = true ∧ dist p want ≤ reach ∧ betterB best p want = true)) : near1 a old want reach best p = best := by
  unfold near1; rw [if_neg h]
theorem near1_yes {a old : List Bytes} {want reach : Int} {best : Option Nat} {p : Nat} (h : fitsB a old p = true ∧ dist p want ≤ reach ∧ betterB best p want = true) : near1 a old want reach best p = some p := by
  unfold near1; rw [if_pos h]

set_option maxHeartbeats 1000000 in
theorem nearest_ok (a old : List Bytes) (fr : Nat) (want reach : Int) (ha : a.length ≤ 2 ^ 40) (ho : old.length ≤ 2 ^ 40) (hfr : fr ≤ 2 ^ 41) (hw : -2 ^ 44 ≤ want ∧ want ≤ 2 ^ 44) :
    CallsTo C 30 [encS a, encS old, .int .i64 fr, .int .i64 want, .int .i64 reach] (fun r => r = .val (.tup [.int .i64 (bestI (near a old fr want reach)), .bool (near a old fr want reach).isSome])) := by
  refine callsTo_of_ev' Tryz.func30 rfl rfl rfl ?_
  refine loopR 57 (fun x : Nat × Option Nat => [(0, .p (encS a)), (1, .p (encS old)), (3, .p (.int .i64 want)), (4, .p (.int .i64 reach)), (12, .p (.int .i64 (bestI x.2))), (13, .p (.bool x.2.isSome)), (14, .p (.int .i64 x.1))]) (fun _ => []) (fun x => NInv a old fr want reach x.1 x.2) (fun x => a.length + 1 - x.1) (fr, none) ⟨Nat.le_refl _, .inr rfl, by simp [near], fun b h => by cases h⟩ rfl ⟨Weak.refl _, Weak.refl _, Weak.refl _, Weak.refl _, Weak.refl _, Weak.refl _, Weak.refl _, trivial⟩ trivial ?_
  rintro ⟨p, best⟩ hI
  simp only at hI
  have g1 := hI.pos
  have hadd : IntKind.i64.wrap ((p : Int) + ((old.map enc1).length : Int)) = (p : Int) + old.length := by rw [List.length_map, wrap64 (by omega) (by omega)]
  refine ⟨(p : Int) + old.length, hadd, ⟨dc (fun hle => ?_) (fun hgt => ?_)⟩⟩
  · simp only [List.length_map] at hle
    have hle : p + old.length ≤ a.length := by omega
    have hN := hI.next hle
    have hb := hI.bound
    have hsl : (seg a p (p + old.length)).length = old.length := by rw [seg_length a _ _ hle]; omega
    have heq := (equal_ok (seg a p (p + old.length)) old (by omega) ho).bool
    refine ⟨_, distance_ok p want (by omega) (by omega), ?_⟩
    rintro r rfl
    cases best with
    | none =>
      refine ⟨none, ⟨dc (fun hd => ?_) (fun hd => ?_)⟩⟩
      · refine ⟨fun u hu => ?_⟩
        subst hu
        refine ⟨(p : Int) + old.length, hadd, p + old.length, by omega, p, rfl, by omega, by rw [List.length_map]; omega, all_enc1 _, _, seg_map enc1 a _ _, _, heq, ?_⟩
        rintro r ⟨t, htt, rfl⟩
        cases t with
        | true =>
          have hf := of_decide_eq_true htt.symm
          rw [near1_yes ⟨by simp [fitsB, hle, hf], hd, rfl⟩] at hN
          exact ⟨_, wrap64 (by first | omega | (simp only [List.length_map, List.length_append, List.length_cons, List.length_nil] at *; omega)) (by first | omega | (simp only [List.length_map, List.length_append, List.length_cons, List.length_nil] at *; omega)), roundR (p + 1, some p) hN (by simp only; omega) rfl ⟨Weak.refl _, Weak.refl _, Weak.refl _, Weak.refl _, Weak.refl _, Weak.refl _, Weak.refl _, trivial⟩ trivial⟩
        | false =>
          have hf := of_decide_eq_false htt.symm
          rw [near1_no (fun h => hf (fitsB_le h.1).2)] at hN
          exact ⟨_, wrap64 (by first | omega | (simp only [List.length_map, List.length_append, List.length_cons, List.length_nil] at *; omega)) (by first | omega | (simp only [List.length_map, List.length_append, List.length_cons, List.length_nil] at *; omega)), roundR (p + 1, none) hN (by simp only; omega) rfl ⟨Weak.refl _, Weak.refl _, Weak.refl _, Weak.refl _, Weak.refl _, Weak.refl _, Weak.refl _, trivial⟩ trivial⟩
      · rw [near1_no (fun h => hd h.2.1)] at hN
        exact ⟨_, wrap64 (by first | omega | (simp only [List.length_map, List.length_append, List.length_cons, List.length_nil] at *; omega)) (by first | omega | (simp only [List.length_map, List.length_append, List.length_cons, List.length_nil] at *; omega)), roundR (p + 1, none) hN (by simp only; omega) rfl ⟨Weak.refl _, Weak.refl _, Weak.refl _, Weak.refl _, Weak.refl _, Weak.refl _, Weak.refl _, trivial⟩ trivial⟩
    | some b =>
      have hbl := hb b rfl
      refine ⟨none, ⟨dc (fun hd => ?_) (fun hd => ?_)⟩⟩
      · refine ⟨fun u hu => ?_⟩
        subst hu
        refine ⟨_, distance_ok b want (by omega) (by omega), ?_⟩
        rintro r rfl
        refine ⟨dc (fun hlt => ?_) (fun hge => ?_)⟩
        · refine ⟨(p : Int) + old.length, hadd, p + old.length, by omega, p, rfl, by omega, by rw [List.length_map]; omega, all_enc1 _, _, seg_map enc1 a _ _, _, heq, ?_⟩
          rintro r ⟨t, htt, rfl⟩
          cases t with
          | true =>
            have hf := of_decide_eq_true htt.symm
            have hy : near1 a old want reach (some b) p = some p := near1_yes ⟨by simp [fitsB, hle, hf], hd, show betterB (some b) p want = true from decide_eq_true hlt⟩
            rw [hy] at hN
            exact ⟨_, wrap64 (by first | omega | (simp only [List.length_map, List.length_append, List.length_cons, List.length_nil] at *; omega)) (by first | omega | (simp only [List.length_map, List.length_append, List.length_cons, List.length_nil] at *; omega)), roundR (p + 1, some p) hN (by simp only; omega) rfl ⟨Weak.refl _, Weak.refl _, Weak.refl _, Weak.refl _, Weak.refl _, Weak.refl _, Weak.refl _, trivial⟩ trivial⟩
          | false =>
            have hf := of_decide_eq_false htt.symm
            rw [near1_no (fun h => hf (fitsB_le h.1).2)] at hN
            exact ⟨_, wrap64 (by first | omega | (simp only [List.length_map, List.length_append, List.length_cons, List.length_nil] at *; omega)) (by first | omega | (simp only [List.length_map, List.length_append, List.length_cons, List.length_nil] at *; omega)), roundR (p + 1, some b) hN (by simp only; omega) rfl ⟨Weak.refl _, Weak.refl _, Weak.refl _, Weak.refl _, Weak.refl _, Weak.refl _, Weak.refl _, trivial⟩ trivial⟩
        · have hx : near1 a old want reach (some b) p = some b := near1_no (fun h => hge (by have h2 : decide (dist p want < dist b want) = true := h.2.2; exact of_decide_eq_true h2))
          rw [hx] at hN
          exact ⟨_, wrap64 (by first | omega | (simp only [List.length_map, List.length_append, List.length_cons, List.length_nil] at *; omega)) (by first | omega | (simp only [List.length_map, List.length_append, List.length_cons, List.length_nil] at *; omega)), roundR (p + 1, some b) hN (by simp only; omega) rfl ⟨Weak.refl _, Weak.refl _, Weak.refl _, Weak.refl _, Weak.refl _, Weak.refl _, Weak.refl _, trivial⟩ trivial⟩
      · rw [near1_no (fun h => hd h.2.1)] at hN
        exact ⟨_, wrap64 (by first | omega | (simp only [List.length_map, List.length_append, List.length_cons, List.length_nil] at *; omega)) (by first | omega | (simp only [List.length_map, List.length_append, List.length_cons, List.length_nil] at *; omega)), roundR (p + 1, some b) hN (by simp only; omega) rfl ⟨Weak.refl _, Weak.refl _, Weak.refl _, Weak.refl _, Weak.refl _, Weak.refl _, Weak.refl _, trivial⟩ trivial⟩
  · simp only [List.length_map] at hgt
    rw [hI.done (by omega)]
    exact rfl

end Qv
end

section
/- Contracts: blocks applied, in the program. No condition. -/
set_option linter.unusedVariables false
set_option linter.unusedSimpArgs false
open Go Go.Proofs
namespace Qv

/-- What is done already ahead of what is to come. -/
def preA (o : List Bytes) (ps : List Int) : Option (List Bytes × List Int) → Option (List Bytes × List Int)
  | none => none
  | some (m, qs) => some (o ++ m, ps ++ qs)

theorem applyF_step (a : List Bytes) (reach : Int) (fr : Nat) (sh : Int) (l : List Block) (k : Nat) (h : k < l.length) : applyF a reach fr sh (l.drop k) =
    match near a (chosenL 45 l[k].lines) fr (l[k].oldAt + sh) reach with
    | none => none
    | some p => preA (seg a fr p ++ chosenL 43 l[k].lines) [(p : Int)] (applyF a reach (p + l[k].oldLen.toNat) (p - l[k].oldAt) (l.drop (k + 1))) := by
  rw [List.drop_eq_getElem_cons h, applyF]
  cases near a (chosenL 45 l[k].lines) fr (l[k].oldAt + sh) reach with
  | none => rfl
  | some p =>
    simp only
    cases applyF a reach (p + l[k].oldLen.toNat) (p - l[k].oldAt) (l.drop (k + 1)) with
    | none => rfl
    | some q => obtain ⟨m, qs⟩ := q; rfl

theorem preA_preA (o o' : List Bytes) (ps ps' : List Int) (r : Option (List Bytes × List Int)) : preA o ps (preA o' ps' r) = preA (o ++ o') (ps ++ ps') r := by
  cases r with
  | none => rfl
  | some q => obtain ⟨m, qs⟩ := q; simp [preA]

/-- The state of the loop over the blocks. -/
structure AInv (a : List Bytes) (l : List Block) (reach : Int) (k fr : Nat) (sh : Int) (o : List Bytes) (ps : List Int) : Prop where
  le : k ≤ l.length
  eq : preA o ps (applyF a reach fr sh (l.drop k)) = applyF a reach 0 0 l
  frle : fr ≤ a.length
  lo : -2 ^ 41 ≤ sh
  hi : sh ≤ 2 ^ 41
  len : o.length ≤ fr + k * 2 ^ 20
  plen : ps.length ≤ k

theorem AInv.zero (a : List Bytes) (l : List Block) (reach : Int) : AInv a l reach 0 0 0 [] [] :=
  ⟨Nat.zero_le _, by cases h : applyF a reach 0 0 l with
    | none => simp [preA, h]
    | some q => obtain ⟨m, qs⟩ := q; simp [preA, h], Nat.zero_le _, by omega, by omega, by simp, by simp⟩

theorem AInv.none_ {a : List Bytes} {l : List Block} {reach : Int} {k fr : Nat} {sh : Int} {o : List Bytes} {ps : List Int} (h : AInv a l reach k fr sh o ps) (hk : k < l.length) (hn : near a (chosenL 45 l[k].lines) fr (l[k].oldAt + sh) reach = none) : applyF a reach 0 0 l = none := by
  have he := h.eq
  rw [applyF_step a reach fr sh l k hk, hn] at he
  exact he.symm

theorem AInv.some_ {a : List Bytes} {l : List Block} {reach : Int} {k fr : Nat} {sh : Int} {o : List Bytes} {ps : List Int} (h : AInv a l reach k fr sh o ps) (ha : a.length ≤ 2 ^ 38) (hk : k < l.length) (hb : BOK l[k]) (hl : l[k].lines.length ≤ 2 ^ 20) {p : Nat} (hn : near a (chosenL 45 l[k].lines) fr (l[k].oldAt + sh) reach = some p) :
    fr ≤ p ∧ p + l[k].oldLen.toNat ≤ a.length ∧ 0 ≤ l[k].oldLen ∧ AInv a l reach (k + 1) (p + l[k].oldLen.toNat) (p - l[k].oldAt) (o ++ seg a fr p ++ chosenL 43 l[k].lines) (ps ++ [(p : Int)]) := by
  have hg := near_good a (chosenL 45 l[k].lines) fr (l[k].oldAt + sh) reach
  rw [hn] at hg
  obtain ⟨g1, -, g2, -⟩ := hg
  have g3 := (fitsB_le g2).1
  have g4 := hb.old
  have g5 := hb.at_
  have he := h.eq
  rw [applyF_step a reach fr sh l k hk, hn] at he
  simp only [preA_preA] at he
  have g6 := chosenL_le 43 l[k].lines
  have g7 := h.len
  have g8 := h.plen
  refine ⟨g1, by omega, by omega, hk, by rw [List.append_assoc]; exact he, by omega, by omega, by omega, ?_, by simp; omega⟩
  simp only [List.length_append, seg_length a fr p (by omega)]
  omega

theorem AInv.done {a : List Bytes} {l : List Block} {reach : Int} {k fr : Nat} {sh : Int} {o : List Bytes} {ps : List Int} (h : AInv a l reach k fr sh o ps) (hk : ¬ k < l.length) : applyF a reach 0 0 l = some (o ++ a.drop fr, ps) := by
  have he := h.eq
  rw [List.drop_of_length_le (by omega)] at he
  rw [← he]
  simp [applyF, preA]

theorem uapply_bad {a : List Bytes} {l : List Block} {reach : Int} (h : ¬ (checkL l).2 = 0) : uapply a l reach = ([], [], (checkL l).2) := by
  unfold uapply; rw [if_neg h]
theorem uapply_range {a : List Bytes} {l : List Block} {reach : Int} (h : (checkL l).2 = 0) (h' : inR reach = false) : uapply a l reach = ([], [], 2) := by
  unfold uapply; rw [if_pos h, h']; rfl
theorem uapply_go {a : List Bytes} {l : List Block} {reach : Int} (h : (checkL l).2 = 0) (h' : inR reach = true) : uapply a l reach = resA (applyF a reach 0 0 l) := by
  unfold uapply; rw [if_pos h, if_pos h']

set_option maxHeartbeats 1000000 in
theorem uapply_ok (a : List Bytes) (l : List Block) (reach : Int) (ha : a.length ≤ 2 ^ 38) (ht : TinyB l) (hl : l.length ≤ 2 ^ 18) :
    CallsTo C 10 [encS a, encBs l, .int .i64 reach] (fun r => r = .val (.tup [encS (uapply a l reach).1, encIs (uapply a l reach).2.1, .int .i64 (uapply a l reach).2.2])) := by
  refine callsTo_of_ev' Tryz.func10 rfl rfl rfl ?_
  refine ⟨_, check_ok l ht, ?_⟩
  rintro r rfl
  refine ⟨nec (fun h => ?_) (fun h => ?_)⟩
  · rw [uapply_bad h]
    exact rfl
  refine ⟨_, inRange_ok reach, ?_⟩
  rintro r ⟨t, htt, rfl⟩
  refine ⟨fun u hu => ?_⟩
  subst hu
  cases t with
  | false =>
    rw [uapply_range h htt.symm]
    exact rfl
  | true =>
  rw [uapply_go h htt.symm]
  have hBOK := checkF_ok h
  refine loopR 81 (fun x : Nat × Nat × Int × List Bytes × List Int => [(0, .p (encS a)), (2, .p (.int .i64 reach)), (11, .tip 61 9 1 (x.2.2.2.1.map enc1)), (12, .tip 73 3 1 (x.2.2.2.2.map encI)), (13, .p (.int .i64 x.2.1)), (14, .p (.int .i64 x.2.2.1)), (30, .p (encBs l)), (31, .p (.int .i64 (l.map encBlock).length)), (32, .p (.int .i64 x.1))]) (fun _ => [])
    (fun x => AInv a l reach x.1 x.2.1 x.2.2.1 x.2.2.2.1 x.2.2.2.2) (fun x => l.length - x.1) (0, 0, 0, [], []) (AInv.zero a l reach) rfl ⟨Weak.refl _, Weak.refl _, Weak.full_tip _ _ _, Weak.full_tip _ _ _, Weak.refl _, Weak.refl _, Weak.refl _, Weak.refl _, Weak.refl _, trivial⟩ trivial ?_
  rintro ⟨k, fr, sh, o, ps⟩ hI
  simp only at hI
  refine ⟨ltc (fun hlt => ?_) (fun hge => ?_)⟩
  · have hlt : k < l.length := hlt
    have hb := hBOK _ (List.getElem_mem hlt)
    have hll := ht.each _ (List.getElem_mem hlt)
    have g1 := hI.frle
    have g2 := hI.lo
    have g3 := hI.hi
    have g4 := hI.len
    have g5 := hI.plen
    have g6 := hb.at_
    have g7 := chosenL_le 45 l[k].lines
    have g8 := chosenL_le 43 l[k].lines
    have hne := signs_ne hb.signs
    have hc45 := chosen_ok 45 l[k].lines hne (by omega)
    have hc43 := chosen_ok 43 l[k].lines hne (by omega)
    have hnr := nearest_ok a (chosenL 45 l[k].lines) fr (l[k].oldAt + sh) reach (by omega) (by omega) (by omega) (by omega)
    refine ⟨by omega, _, idx_map rfl hlt, rfl, ?_⟩
    cases hq : near a (chosenL 45 l[k].lines) fr (l[k].oldAt + sh) reach with
    | none =>
      rw [hq] at hnr
      refine ⟨.lex 15, by kernel_rfl, _, rfl, _, rfl, _, rfl, .p (encS (chosenL 45 l[k].lines)), ⟨_, hc45, fun r hr => by subst hr; rfl⟩, _, rfl, _, rfl, _, rfl, _, rfl, .p (.int .i64 (l[k].oldAt + sh)), ⟨_, (show IntKind.i64.wrap (l[k].oldAt + sh) = _ from wrap64 (by omega) (by omega)), rfl⟩, _, rfl, .p (.tup [.int .i64 0, .bool false]), ⟨_, hnr, fun r hr => by subst hr; rfl⟩, _, rfl, _, rfl, _, rfl, _, rfl, ?_⟩
      refine ⟨fun u hu => ?_⟩
      subst hu
      rw [hI.none_ hlt hq]
      exact rfl
    | some p =>
      rw [hq] at hnr
      obtain ⟨f1, f2, f3, hN⟩ := hI.some_ ha hlt hb hll hq
      have n1 := hN.len
      have n2 : (seg a fr p).length = p - fr := seg_length a fr p (by omega)
      have hflat : [o, seg a fr p, chosenL 43 l[k].lines].flatten = o ++ seg a fr p ++ chosenL 43 l[k].lines := by simp
      have hcat := concat_ok [o, seg a fr p, chosenL 43 l[k].lines] (by simp) (by rw [hflat]; omega)
      rw [hflat] at hcat
      refine ⟨.lex 15, by kernel_rfl, _, rfl, _, rfl, _, rfl, .p (encS (chosenL 45 l[k].lines)), ⟨_, hc45, fun r hr => by subst hr; rfl⟩, _, rfl, _, rfl, _, rfl, _, rfl, .p (.int .i64 (l[k].oldAt + sh)), ⟨_, (show IntKind.i64.wrap (l[k].oldAt + sh) = _ from wrap64 (by omega) (by omega)), rfl⟩, _, rfl, .p (.tup [.int .i64 p, .bool true]), ⟨_, hnr, fun r hr => by subst hr; rfl⟩, _, rfl, _, rfl, _, rfl, _, rfl, ?_⟩
      refine ⟨fun u hu => ?_⟩
      subst hu
      refine ⟨.lex 8, by kernel_rfl, _, rfl, _, rfl, _, rfl, _, rfl, .p (encS (seg a fr p)), ⟨p, rfl, fr, rfl, f1, by rw [List.length_map]; omega, all_enc1 _, _, seg_map enc1 a _ _, rfl⟩, _, rfl, _, rfl, .p (encS (chosenL 43 l[k].lines)), ⟨_, hc43, fun r hr => by subst hr; rfl⟩, _, hcat, ?_⟩
      rintro r rfl
      refine ⟨.lex 9, by kernel_rfl, _, rfl, _, rfl, _, rfl, .p (.int .i64 ((p + l[k].oldLen.toNat : Nat) : Int)), ⟨_, (show IntKind.i64.wrap ((p : Int) + l[k].oldLen) = ((p + l[k].oldLen.toNat : Nat) : Int) from by rw [wrap64 (by omega) (by omega)]; omega), rfl⟩, _, rfl, _, rfl, _, rfl, .p (.int .i64 ((p : Int) - l[k].oldAt)), ⟨_, (show IntKind.i64.wrap ((p : Int) - l[k].oldAt) = _ from wrap64 (by omega) (by omega)), rfl⟩, _, rfl, all_enc (f := encI) (n := 1) (fun _ => rfl) ps, all_one rfl, ?_, (ps ++ [(p : Int)]).map encI, by rw [List.map_append]; rfl, ?_⟩
      · simp only [List.length_map, chunk, List.length_singleton]; omega
      exact ⟨_, wrap64 (by first | omega | (simp only [List.length_map, List.length_append, List.length_cons, List.length_nil] at *; omega)) (by first | omega | (simp only [List.length_map, List.length_append, List.length_cons, List.length_nil] at *; omega)), roundR (k + 1, p + l[k].oldLen.toNat, (p : Int) - l[k].oldAt, o ++ seg a fr p ++ chosenL 43 l[k].lines, ps ++ [(p : Int)]) hN (by simp only; omega) rfl ⟨Weak.refl _, Weak.refl _, Weak.refl _, Weak.refl _, Weak.refl _, Weak.refl _, Weak.refl _, Weak.refl _, Weak.refl _, trivial⟩ trivial⟩
  · have hd := hI.done hge
    have g1 := hI.frle
    have g4 := hI.len
    have g9 := hI.le
    rw [hd]
    refine ⟨fr, rfl, by rw [List.length_map]; exact g1, Nat.le_refl _, all_enc1 _, _, drop_map enc1 a fr, all_enc1 _, all_enc1 _, ?_, (o ++ a.drop fr).map enc1, by simp, ?_⟩
    · simp only [List.length_map, List.length_drop]; omega
    · exact rfl

end Qv
end

section
/- Contracts: the text of blocks in the program. No condition. -/
set_option linter.unusedVariables false
set_option linter.unusedSimpArgs false
open Go Go.Proofs
namespace Qv

def placeS (at_ n : Int) : Bytes := Lib.itoa (if n > 0 then at_ + 1 else at_) ++ [44] ++ Lib.itoa n

theorem itoa_len (n : Int) (h0 : -2 ^ 62 ≤ n) (h1 : n ≤ 2 ^ 62) : (Lib.itoa n).length ≤ 21 := Lib.itoa_length_le n (by omega) (by omega)

theorem place_ok (at_ n : Int) (ha : 0 ≤ at_ ∧ at_ ≤ 2 ^ 60) (hn : 0 ≤ n ∧ n ≤ 2 ^ 60) : CallsTo C 26 [.int .i64 at_, .int .i64 n] (fun r => r = .val (.str (placeS at_ n))) := by
  have l1 := itoa_len at_ (by omega) (by omega)
  have l2 := itoa_len (at_ + 1) (by omega) (by omega)
  have l3 := itoa_len n (by omega) (by omega)
  refine callsTo_of_ev' Tryz.func26 rfl rfl rfl ?_
  refine ⟨dc (fun h => ?_) (fun h => ?_)⟩
  · refine ⟨_, wrap64 (by first | omega | (simp only [List.length_map, List.length_append, List.length_cons, List.length_nil] at *; omega)) (by first | omega | (simp only [List.length_map, List.length_append, List.length_cons, List.length_nil] at *; omega)), _, itoa_ok (at_ + 1) (by omega) (by omega), ?_⟩
    rintro r rfl
    refine ⟨by simp only [List.length_cons, List.length_nil]; omega, _, itoa_ok n (by omega) (by omega), ?_⟩
    rintro r rfl
    refine ⟨by simp only [List.length_append, List.length_cons, List.length_nil]; omega, ?_⟩
    show Ret.val _ = _
    unfold placeS
    rw [if_pos h]
  · refine ⟨_, itoa_ok at_ (by omega) (by omega), ?_⟩
    rintro r rfl
    refine ⟨by simp only [List.length_cons, List.length_nil]; omega, _, itoa_ok n (by omega) (by omega), ?_⟩
    rintro r rfl
    refine ⟨by simp only [List.length_append, List.length_cons, List.length_nil]; omega, ?_⟩
    show Ret.val _ = _
    unfold placeS
    rw [if_neg h]

theorem placeS_len (at_ n : Int) (ha : 0 ≤ at_ ∧ at_ ≤ 2 ^ 60) (hn : 0 ≤ n ∧ n ≤ 2 ^ 60) : (placeS at_ n).length ≤ 43 := by
  have l1 := itoa_len at_ (by omega) (by omega)
  have l2 := itoa_len (at_ + 1) (by omega) (by omega)
  have l3 := itoa_len n (by omega) (by omega)
  unfold placeS
  simp only [List.length_append, List.length_cons, List.length_nil]
  split <;> omega

def headS (b : Block) : Bytes := [64, 64, 32, 45] ++ placeS b.oldAt b.oldLen ++ [32, 43] ++ placeS b.newAt b.newLen ++ [32, 64, 64, 10]

def hasLF (s : Bytes) : Bool := decide (0 ≤ Lib.indexByte s 10)

def linesF : List Bytes → Option Bytes
  | [] => some []
  | s :: r => if hasLF s = true then none else match linesF r with
    | none => none
    | some t => some (s ++ [10] ++ t)

def formatF : List Block → Option Bytes
  | [] => some []
  | b :: l => match linesF b.lines with
    | none => none
    | some t => match formatF l with
      | none => none
      | some u => some (headS b ++ t ++ u)

def resF : Option Bytes → Bytes × Int
  | none => ([], 3)
  | some s => (s, 0)

def uformat (l : List Block) : Bytes × Int := if (checkL l).2 = 0 then resF (formatF l) else ([], (checkL l).2)

def preB (o : Bytes) : Option Bytes → Option Bytes
  | none => none
  | some s => some (o ++ s)

theorem preB_preB (o o' : Bytes) (r : Option Bytes) : preB o (preB o' r) = preB (o ++ o') r := by
  cases r <;> simp [preB]

theorem preB_some {o x : Bytes} (r : Option Bytes) : preB o (match r with | none => none | some t => some (x ++ t)) = preB (o ++ x) r := by
  cases r <;> simp [preB]

/-- What a block's text comes to, ahead of the text of the others. -/
theorem formatF_step (l : List Block) (k : Nat) (h : k < l.length) : formatF (l.drop k) = preB (headS l[k]) (match linesF l[k].lines with | none => none | some t => preB t (formatF (l.drop (k + 1)))) := by
  rw [List.drop_eq_getElem_cons h, formatF]
  cases linesF l[k].lines with
  | none => rfl
  | some t =>
    simp only
    cases formatF (l.drop (k + 1)) with
    | none => rfl
    | some u => simp [preB]

theorem linesF_step (l : List Bytes) (k : Nat) (h : k < l.length) : linesF (l.drop k) = if hasLF l[k] = true then none else preB (l[k] ++ [10]) (linesF (l.drop (k + 1))) := by
  rw [List.drop_eq_getElem_cons h, linesF]
  split
  · rfl
  · cases linesF (l.drop (k + 1)) <;> rfl

/-- How long the text is at most. -/
def textLen (l : List Block) : Nat := (l.map fun b => 200 + sumLen b.lines + b.lines.length).sum

theorem textLen_take (l : List Block) (k : Nat) (h : k < l.length) : textLen (l.take (k + 1)) = textLen (l.take k) + (200 + sumLen l[k].lines + l[k].lines.length) := sum_take _ l k h
theorem textLen_le (l : List Block) (k : Nat) : textLen (l.take k) ≤ textLen l := sum_take_le _ l k

theorem headS_len {b : Block} (h : BOK b) (hl : b.lines.length ≤ 2 ^ 20) : (headS b).length ≤ 100 := by
  have h1 := bok_len h hl
  have h2 := h.at_
  have h3 := h.at'
  have := placeS_len b.oldAt b.oldLen (by omega) (by omega)
  have := placeS_len b.newAt b.newLen (by omega) (by omega)
  unfold headS
  simp only [List.length_append, List.length_cons, List.length_nil]
  omega

set_option maxHeartbeats 1000000 in
theorem format_ok (l : List Block) (ht : TinyB l) (hT : textLen l ≤ 2 ^ 40) : CallsTo C 9 [encBs l] (fun r => r = .val (.tup [.str (uformat l).1, .int .i64 (uformat l).2])) := by
  have hlen := ht.len
  refine callsTo_of_ev' Tryz.func9 rfl rfl rfl ?_
  refine ⟨_, check_ok l ht, ?_⟩
  rintro r rfl
  refine ⟨nec (fun h => ?_) (fun h => ?_)⟩
  · unfold uformat
    rw [if_neg h]
    exact rfl
  have hu : uformat l = resF (formatF l) := by unfold uformat; rw [if_pos h]
  have hBOK := checkF_ok h
  rw [hu]
  refine loopB 55 (fun x : Nat × Bytes => [(6, .ptr 6 0), (19, .p (encBs l)), (20, .p (.int .i64 (l.map encBlock).length)), (21, .p (.int .i64 x.1))]) (fun _ => []) (fun x => [(6, x.2)])
    (fun x => x.1 ≤ l.length ∧ preB x.2 (formatF (l.drop x.1)) = formatF l ∧ x.2.length ≤ textLen (l.take x.1)) (fun x => l.length - x.1) (0, []) ⟨Nat.zero_le _, by show preB [] (formatF l) = formatF l; cases formatF l <;> rfl, Nat.zero_le _⟩ rfl ⟨Weak.refl _, Weak.refl _, Weak.refl _, Weak.refl _, trivial⟩ trivial ⟨rfl, trivial⟩ ?_
  rintro ⟨k, bs⟩ ⟨hk, he, hbl⟩
  simp only at hk he hbl
  refine ⟨ltc (fun hlt => ?_) (fun hge => ?_)⟩
  · have hlt : k < l.length := hlt
    have hb := hBOK _ (List.getElem_mem hlt)
    have hll := ht.each _ (List.getElem_mem hlt)
    have b1 := bok_len hb hll
    have b2 := hb.at_
    have b3 := hb.at'
    have t1 := textLen_take l k hlt
    have t2 := textLen_le l (k + 1)
    have p1 := place_ok l[k].oldAt l[k].oldLen (by omega) (by omega)
    have p2 := place_ok l[k].newAt l[k].newLen (by omega) (by omega)
    have n1 := placeS_len l[k].oldAt l[k].oldLen (by omega) (by omega)
    have n2 := placeS_len l[k].newAt l[k].newLen (by omega) (by omega)
    have n3 := headS_len hb hll
    rw [formatF_step l k hlt, preB_preB] at he
    refine ⟨by omega, _, idx_map rfl hlt, rfl, .lex 14, by kernel_rfl, _, rfl, _, rfl, _, rfl, _, rfl, .p (.str (placeS l[k].oldAt l[k].oldLen)), ⟨_, p1, fun r hr => by subst hr; rfl⟩, .p (.str ([64, 64, 32, 45] ++ placeS l[k].oldAt l[k].oldLen)), ⟨by simp only [List.length_cons, List.length_nil]; omega, rfl⟩, .p (.str ([64, 64, 32, 45] ++ placeS l[k].oldAt l[k].oldLen ++ [32, 43])), ⟨by simp only [List.length_append, List.length_cons, List.length_nil]; omega, rfl⟩, _, rfl, _, rfl, _, rfl, _, rfl, .p (.str (placeS l[k].newAt l[k].newLen)), ⟨_, p2, fun r hr => by subst hr; rfl⟩, .p (.str ([64, 64, 32, 45] ++ placeS l[k].oldAt l[k].oldLen ++ [32, 43] ++ placeS l[k].newAt l[k].newLen)), ⟨by simp only [List.length_append, List.length_cons, List.length_nil]; omega, rfl⟩, .p (.str (headS l[k])), ⟨by simp only [List.length_append, List.length_cons, List.length_nil]; omega, rfl⟩, rfl, some (bs ++ headS l[k]), _, write_ok (by simp only; omega), ?_⟩
    refine loopB 55 (fun x : Nat × Bytes => [(6, .ptr 6 0), (19, .p (encBs l)), (20, .p (.int .i64 (l.map encBlock).length)), (21, .p (.int .i64 k)), (41, .p (encS l[k].lines)), (42, .p (.int .i64 (l[k].lines.map enc1).length)), (43, .p (.int .i64 x.1))]) (fun _ => []) (fun x => [(6, x.2)])
      (fun x => x.1 ≤ l[k].lines.length ∧ preB x.2 (match linesF (l[k].lines.drop x.1) with | none => none | some t => preB t (formatF (l.drop (k + 1)))) = formatF l ∧ x.2.length ≤ textLen (l.take k) + 100 + sumLen (l[k].lines.take x.1) + x.1) (fun x => l[k].lines.length - x.1) (0, bs ++ headS l[k]) ⟨Nat.zero_le _, he, by simp only [List.length_append]; omega⟩ rfl ⟨Weak.refl _, Weak.refl _, Weak.refl _, Weak.refl _, Weak.refl _, Weak.refl _, Weak.refl _, trivial⟩ trivial ⟨rfl, trivial⟩ ?_
    rintro ⟨j, cs⟩ ⟨hj, hje, hcl⟩
    simp only at hj hje hcl
    refine ⟨ltc (fun hlj => ?_) (fun hgj => ?_)⟩
    · have hlj : j < l[k].lines.length := hlj
      have s1 := sumLen_take l[k].lines j hlj
      have s2 : sumLen (l[k].lines.take (j + 1)) ≤ sumLen l[k].lines := sum_take_le _ _ _
      rw [linesF_step l[k].lines j hlj] at hje
      refine ⟨by omega, _, idx_map rfl hlj, rfl, _, (contains1_ok l[k].lines[j] 10).bool, ?_⟩
      rintro r ⟨t, htt, rfl⟩
      cases t with
      | true =>
        rw [if_pos (show hasLF l[k].lines[j] = true from htt.symm)] at hje
        rw [← hje]
        exact rfl
      | false =>
        rw [if_neg (show ¬ hasLF l[k].lines[j] = true from by unfold hasLF; rw [← htt]; simp)] at hje
        refine ⟨by simp only [List.length_cons, List.length_nil]; omega, rfl, some (cs ++ (l[k].lines[j] ++ [10])), _, write_ok (by simp only [List.length_append, List.length_cons, List.length_nil]; omega), ?_⟩
        refine ⟨_, wrap64 (by first | omega | (simp only [List.length_map, List.length_append, List.length_cons, List.length_nil] at *; omega)) (by first | omega | (simp only [List.length_map, List.length_append, List.length_cons, List.length_nil] at *; omega)), endB (j + 1, cs ++ (l[k].lines[j] ++ [10])) ⟨hlj, ?_, ?_⟩ (by simp only; omega) rfl ⟨Weak.refl _, Weak.refl _, Weak.refl _, Weak.refl _, Weak.refl _, Weak.refl _, Weak.refl _, trivial⟩ trivial ⟨rfl, trivial⟩⟩
        · rw [← hje]
          cases linesF (l[k].lines.drop (j + 1)) with
          | none => rfl
          | some t => simp only [preB]; cases formatF (l.drop (k + 1)) <;> simp [preB]
        · simp only [List.length_append, List.length_cons, List.length_nil]; omega
    · have hjl : j = l[k].lines.length := by simp only at hgj; omega
      rw [hjl, List.drop_length] at hje
      rw [hjl, List.take_length] at hcl
      refine ⟨_, wrap64 (by first | omega | (simp only [List.length_map, List.length_append, List.length_cons, List.length_nil] at *; omega)) (by first | omega | (simp only [List.length_map, List.length_append, List.length_cons, List.length_nil] at *; omega)), endB (k + 1, cs) ⟨hlt, ?_, ?_⟩ (by simp only; omega) rfl ⟨Weak.refl _, Weak.refl _, Weak.refl _, Weak.refl _, trivial⟩ trivial ⟨rfl, trivial⟩⟩
      · rw [← hje]
        simp only [linesF]
        cases formatF (l.drop (k + 1)) <;> simp [preB]
      · simp only; omega
  · rw [List.drop_of_length_le (by simp only at hge; omega)] at he
    rw [← he]
    refine ⟨rfl, none, _, string_ok, ?_⟩
    simp only [formatF, preB, List.append_nil, resF]
    exact rfl

end Qv
end

section
/- Contracts: the law's closed example. -/
set_option linter.unusedVariables false
set_option linter.unusedSimpArgs false
open Go Go.Proofs
namespace Qv

def exA : List Bytes := [[97], [98], [99]]
def exH : List Hunk := [⟨1, [[98]], [[120], [121]]⟩]
def exB : List Block := [⟨0, 3, 0, 4, [[32, 97], [45, 98], [43, 120], [43, 121], [32, 99]]⟩]
def exT : Bytes := [64, 64, 32, 45, 49, 44, 51, 32, 43, 49, 44, 52, 32, 64, 64, 10, 32, 97, 10, 45, 98, 10, 43, 120, 10, 43, 121, 10, 32, 99, 10]
def exZ : List Bytes := [[122], [97], [98], [99]]
def exM : List Bytes := [[122], [97], [120], [121], [99]]

theorem ex_blocks : blocksL exA exH 1 = (exB, 0) := by decide +kernel
theorem ex_text : uformat exB = (exT, 0) := by decide +kernel
theorem ex_apply : uapply exZ exB 1 = (exM, [1], 0) := by decide +kernel

theorem tinyS_exA : TinyS exA := ⟨by decide, by decide⟩
theorem tinyH_exH : TinyH exH := ⟨by decide, by decide, by
  intro h hh
  rw [List.mem_singleton.mp hh]
  exact ⟨⟨by decide, by decide⟩, ⟨by decide, by decide⟩⟩⟩
theorem tinyB_exB : TinyB exB := ⟨by decide, by
  intro h hh
  rw [List.mem_singleton.mp hh]
  decide⟩

theorem ex1 : CallsTo C 8 [encS exA, encHs exH, .int .i64 1] (fun r => r = .val (.tup [encBs exB, .int .i64 0])) := by
  have h := blocks_ok exA exH 1 tinyS_exA tinyH_exH (by decide)
  rw [ex_blocks] at h
  exact h
theorem ex2 : CallsTo C 9 [encBs exB] (fun r => r = .val (.tup [.str exT, .int .i64 0])) := by
  have h := format_ok exB tinyB_exB (by decide)
  rw [ex_text] at h
  exact h
theorem ex3 : CallsTo C 10 [encS exZ, encBs exB, .int .i64 1] (fun r => r = .val (.tup [encS exM, encIs [1], .int .i64 0])) := by
  have h := uapply_ok exZ exB 1 (by decide) tinyB_exB (by decide)
  rw [ex_apply] at h
  exact h
theorem ex4 : CallsTo C 11 [encS exM, encS exM] (fun r => r = .val (.bool true)) := same_ok exM exM (by decide) (by decide)
theorem ex5 : CallsTo C 12 [encIs [1], encIs [1]] (fun r => r = .val (.bool true)) := sameInts_ok [1] [1] (by decide) (by decide)

set_option maxRecDepth 100000 in
set_option maxHeartbeats 4000000 in
theorem awake_ok : CallsTo C 4 [] (fun r => r = .val (.bool true)) := by
  refine callsTo_of_ev' Tryz.func4 rfl rfl rfl ?_
  refine ⟨_, ex1, ?_⟩
  rintro r rfl
  refine ⟨_, ex2, ?_⟩
  rintro r rfl
  refine ⟨_, ex3, ?_⟩
  rintro r rfl
  refine ⟨none, ⟨eqc (fun _ => ?_) (fun h => absurd rfl h)⟩⟩
  refine ⟨eqc (fun _ => ?_) (fun h => absurd rfl h)⟩
  refine ⟨eqc (fun _ => ?_) (fun h => absurd rfl h)⟩
  refine ⟨eqc (fun _ => ?_) (fun h => absurd rfl h)⟩
  refine ⟨_, ex4, ?_⟩
  rintro r rfl
  refine ⟨_, ex5, ?_⟩
  rintro r rfl
  exact rfl

end Qv
end
