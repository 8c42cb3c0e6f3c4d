/- Contract: access.Parse. No condition. -/
import Derived.Test.YtikckhebddimoaaGreatDoorND
set_option linter.unusedVariables false
set_option linter.unusedSimpArgs false
open Go Go.Proofs Go.RowKit
namespace Qv
theorem mapsAll_ok (ks vs : List AV) : CallsTo C 94 [.mp ks vs] (fun r => r = .val (.fn (.func 127) [] [.imp [.mp ks vs]])) := by
  refine callsTo_of_ev' Tryz.func94 rfl rfl rfl ?_
  refine ⟨[1], frz_one (cells := [.p (.mp ks vs)]) (ys := [.mp ks vs]) rfl rfl rfl ?_⟩
  exact rfl
def psF (st : PS) : List FV := [.tip 1057 44 2 (st.groups.map encGroup), .tip 1076 33 5 (st.rules.map encRule), .p (.int .i64 st.votes), .p (.bool st.voted), .tip 1087 3 1 (st.lines.map fun (n : Nat) => [AV.int .i64 (n : Int)])]
theorem hasO_five {objs : List (Nat × List FV)} {o : Nat} {x1 x2 x3 x4 x5 y1 y2 y3 y4 y5 : FV} (h : Qv.getObj objs o = some [x1, x2, x3, x4, x5]) (h1 : Weak x1 y1) (h2 : Weak x2 y2) (h3 : Weak x3 y3) (h4 : Weak x4 y4) (h5 : Weak x5 y5) :
    ∃ ys, Qv.getObj objs o = some ys ∧ ys.length = [y1, y2, y3, y4, y5].length ∧ ∀ (i : Nat) (a b : FV), ys[i]? = some a → [y1, y2, y3, y4, y5][i]? = some b → Weak a b :=
  ⟨_, h, rfl, fun i a b q1 q2 => by
    match i, q1, q2 with
    | 0, q1, q2 => cases q1; cases q2; exact h1
    | 1, q1, q2 => cases q1; cases q2; exact h2
    | 2, q1, q2 => cases q1; cases q2; exact h3
    | 3, q1, q2 => cases q1; cases q2; exact h4
    | 4, q1, q2 => cases q1; cases q2; exact h5⟩
def formV (g : Nat) : FV := .fn (.func g) [.ptr 17 0] []
def formsL : List (AV × FV) := [(.str wVotes, formV 61), (.str wGroup, formV 62), (.str wAllow, formV 63), (.str wDeny, formV 63)]
theorem sameA_str (a b : Bytes) : sameA (.str a) (.str b) = (a == b) := rfl
theorem forms_none {w : Bytes} (h : findM (.str w) formsL = none) : w ≠ wVotes ∧ w ≠ wGroup ∧ w ≠ wAllow ∧ w ≠ wDeny := by
  unfold formsL at h
  simp only [findM, sameA_str] at h
  refine ⟨?_, ?_, ?_, ?_⟩
  all_goals
    intro e
    subst e
    revert h
    decide
theorem forms_some {w : Bytes} {v : FV} (h : findM (.str w) formsL = some v) : (w = wVotes ∧ v = formV 61) ∨ (w = wGroup ∧ v = formV 62) ∨ ((w = wAllow ∨ w = wDeny) ∧ v = formV 63) := by
  unfold formsL at h
  simp only [findM, sameA_str] at h
  split at h
  · rename_i h1
    exact .inl ⟨by simpa using h1, (Option.some.inj h).symm⟩
  split at h
  · rename_i h1
    exact .inr (.inl ⟨by simpa using h1, (Option.some.inj h).symm⟩)
  split at h
  · rename_i h1
    exact .inr (.inr ⟨.inl (by simpa using h1), (Option.some.inj h).symm⟩)
  split at h
  · rename_i h1
    exact .inr (.inr ⟨.inr (by simpa using h1), (Option.some.inj h).symm⟩)
  · cases h
abbrev pzObj : List FV := [.full [], .full [], .p (.int .i64 0)]
abbrev pSlots (L : List Bytes) (k : Nat) (more : List (Nat × FV)) : List (Nat × FV) :=
  (2, .ptr 2 0) :: (5, .ptr 17 0) :: (19, .p (encS L)) :: (20, .p (.int .i64 (L.map enc1).length)) :: (21, .p (.int .i64 k)) :: more
def _root_.Qv.AState.wMaps (S : AState) (m : List (Nat × List (AV × FV))) : AState := { S with maps := m }
theorem atS {K : AState → Prop} {S : AState} (T : AState) (h : S = T) (k : K T) : K S := by rw [h]; exact k
theorem colon_suffix (s : Bytes) : Lib.hasSuffix s [58] = colonF s ∧ (colonF s = true → Lib.trimSuffix s [58] = s.dropLast) := by
  have h1 : Lib.hasSuffix s [58] = colonF s := by
    rw [Bool.eq_iff_iff]
    unfold colonF
    rw [decide_eq_true_eq]
    unfold Lib.hasSuffix
    rw [List.isSuffixOf_iff_suffix, List.getLast?_eq_some_iff]
    exact ⟨fun ⟨t, h⟩ => ⟨t, h.symm⟩, fun ⟨t, h⟩ => ⟨t, h.symm⟩⟩
  refine ⟨h1, fun h => ?_⟩
  unfold Lib.trimSuffix
  rw [h1, if_pos h, List.dropLast_eq_take]
  rfl
def rgA (l : List Nat) : List (AV × AV) := l.map fun (i : Nat) => (.int .i64 (i : Int), .str (rightW i))
theorem next_rg {l : List Nat} {A : List (AV × AV)} {p : AV × AV} {B : List (AV × AV)} (h : rgA l = A ++ p :: B) : ∃ (l1 : List Nat) (i : Nat) (l2 : List Nat), l = l1 ++ i :: l2 ∧ A = rgA l1 ∧ p = (.int .i64 (i : Int), .str (rightW i)) ∧ B = rgA l2 := by
  obtain ⟨l1, l2, h1, h2, h3⟩ := List.map_eq_append_iff.1 h
  obtain ⟨i, l3, h4, h5, h6⟩ := List.map_eq_cons_iff.1 h3
  exact ⟨l1, i, l3, by rw [h1, h4], h2.symm, h5.symm, h6.symm⟩
theorem rgA_append (l1 l2 : List Nat) : rgA l1 ++ rgA l2 = rgA (l1 ++ l2) := by simp [rgA]
theorem kind_right {w : Bytes} {i : Nat} (h1 : 1 ≤ i) (h2 : i ≤ 4) : rightW i = w ↔ kindF w = i := by
  have : i = 1 ∨ i = 2 ∨ i = 3 ∨ i = 4 := by omega
  constructor
  · rintro rfl
    rcases this with rfl | rfl | rfl | rfl <;> decide
  · intro h
    unfold kindF at h
    split at h
    · rename_i e; rw [← h, e]
    split at h
    · rename_i e; rw [← h, e]
    split at h
    · rename_i e; rw [← h, e]
    split at h
    · rename_i e; rw [← h, e]
    · omega
set_option maxRecDepth 100000 in
set_option maxHeartbeats 8000000 in
theorem aparse_ok (s : Bytes) (hs : s.length ≤ 2 ^ 20) : CallsTo C 12 [.str s] (fun r => r = .val (encRes (parseA s))) := by
  refine callsTo_of_evO ⟨[], [], false, [], [], []⟩ [7] Tryz.func12 rfl rfl rfl ?_
  refine ⟨_, (split_ok s [10] (by omega) (by simp)).opn, fun r hr => ?_⟩
  rw [split_parts] at hr
  subst hr
  have hLl := parts_length 10 s
  have hLm := parts_mem 10 s
  unfold parseA
  generalize parts 10 s = L at hLl hLm ⊢
  have hX : linesF (L.drop 0) 0 ps0 = linesF L 0 ps0 := rfl
  generalize linesF L 0 ps0 = X at hX ⊢
  refine loopR 105 (fun x : Nat × PS => pSlots L x.1 []) (fun x => [(2, pzObj), (17, psF x.2)]) (fun x => x.1 ≤ L.length ∧ linesF (L.drop x.1) x.1 x.2 = X ∧ PSInv (2 ^ 21) x.2) (fun x => L.length - x.1) (0, ps0)
    ⟨Nat.zero_le _, hX, PSInv.zero _⟩ rfl ⟨Weak.refl _, Weak.refl _, Weak.refl _, Weak.refl _, Weak.refl _, trivial⟩ ⟨hasO_one rfl, hasO_five rfl (Weak.full_tip _ _ _) (Weak.full_tip _ _ _) (Weak.refl _) (Weak.refl _) (Weak.full_tip _ _ _), trivial⟩ ?_
  clear hX
  rintro ⟨k, st⟩ ⟨hk, hX, hI⟩
  have hk : k ≤ L.length := hk
  have hX : linesF (L.drop k) k st = X := hX
  have hI : PSInv (2 ^ 21) st := hI
  refine al_lt (fun hlt => ?_) (fun hge => ?_)
  · have hlt : k < L.length := hlt
    have hll := hLm _ (List.getElem_mem hlt)
    have hw : IntKind.i64.wrap ((k : Int) + 1) = ((k + 1 : Nat) : Int) := by rw [wrap64 (by omega) (by omega)]; omega
    refine ⟨by omega, _, idx_map rfl hlt, rfl, ?_⟩
    refine ⟨_, (fields_ok L[k] (by omega)).opn, fun r hr => ?_⟩
    subst hr
    rw [List.drop_eq_getElem_cons hlt] at hX
    unfold linesF at hX
    have hI' := lineS_inv (n := k + 1) hI (l := L[k]) (by omega)
    have hWm : ∀ x, x ∈ wordsF L[k] → x ≠ [] ∧ x.length ≤ 2 ^ 20 := fun x hx => ⟨(words_mem hx).1, by have := (words_mem hx).2; omega⟩
    have hWl := words_len L[k]
    have hLS : lineS st L[k] (k + 1) = if idleF (wordsF L[k]) = true then (0, st) else stepS st (wordsF L[k]) (k + 1) := rfl
    generalize wordsF L[k] = W at hWm hWl hLS ⊢
    refine ⟨none, ?_⟩
    have idle : idleF W = true → linesF (L.drop (k + 1)) (k + 1) st = X := fun h => by
      rw [hLS, if_pos h] at hX
      rw [if_neg (by simp)] at hX
      exact hX
    refine al_eq (fun h0 => ?_) (fun h0 => ?_)
    · have h0 : W = [] := by
        have h0 : ((W.map enc1).length : Int) = 0 := h0
        rw [List.length_map] at h0
        exact List.length_eq_zero_iff.1 (by omega)
      exact ⟨_, hw, roundR (k + 1, st) ⟨hlt, idle (by simp [idleF, h0]), hI⟩ (by show L.length - (k + 1) < L.length - k; omega) rfl ⟨Weak.refl _, Weak.refl _, Weak.refl _, Weak.refl _, Weak.refl _, trivial⟩ ⟨hasO_one rfl, hasO_one rfl, trivial⟩⟩
    · have hW0 : 0 < W.length := by
        cases W with
        | nil => exact absurd rfl h0
        | cons _ _ => simp
      obtain ⟨hw0n, hw0l⟩ := hWm _ (List.getElem_mem hW0)
      have hn0 : nth W 0 = W[0] := nth_eq hW0
      obtain ⟨c, hc⟩ : ∃ c, (W[0])[0]? = some c := by
        cases hq : W[0] with
        | nil => exact absurd hq hw0n
        | cons c r => exact ⟨c, rfl⟩
      refine ⟨by omega, _, idx_map rfl hW0, rfl, by omega, c, hc, ?_⟩
      refine al_eq (fun h35 => ?_) (fun h35 => ?_)
      · have h35 : c = 35 := u8_eq h35
        have : idleF W = true := by
          have : (nth W 0).head? = some 35 := by rw [hn0, List.head?_eq_getElem?, hc, h35]
          simp [idleF, this]
        exact ⟨_, hw, roundR (k + 1, st) ⟨hlt, idle this, hI⟩ (by show L.length - (k + 1) < L.length - k; omega) rfl ⟨Weak.refl _, Weak.refl _, Weak.refl _, Weak.refl _, Weak.refl _, trivial⟩ ⟨hasO_one rfl, hasO_one rfl, trivial⟩⟩
      · have hno : ¬ idleF W = true := by
          have h1 : W ≠ [] := fun e => by rw [e] at hW0; simp at hW0
          have h2 : (nth W 0).head? ≠ some 35 := by
            rw [hn0, List.head?_eq_getElem?, hc]
            intro e
            exact h35 (by rw [Option.some.inj e]; rfl)
          simp [idleF, h1, h2]
        rw [if_neg hno] at hLS
        rw [hLS] at hX hI'
        have errX : ∀ e st', stepS st W (k + 1) = (e, st') → e ≠ 0 → X = .inl (k + 1, e) := fun e st' h1 h2 => by
          rw [h1, if_pos h2] at hX
          exact hX.symm
        have okX : ∀ st', stepS st W (k + 1) = (0, st') → linesF (L.drop (k + 1)) (k + 1) st' = X ∧ PSInv (2 ^ 21) st' := fun st' h1 => by
          rw [h1] at hX hI'
          rw [if_neg (by simp)] at hX
          exact ⟨hX, hI'⟩
        clear hX hI' hLS idle hno h35 h0 hLl hLm
        refine cutR 105 (pSlots L k [(6, .p (.int .i64 k)), (8, .p (encS W))]) [(2, pzObj), (17, psF st)] rfl ⟨Weak.refl _, Weak.refl _, Weak.refl _, Weak.refl _, Weak.refl _, Weak.refl _, Weak.refl _, trivial⟩ ⟨hasO_one rfl, hasO_one rfl, trivial⟩ ?_
        rcases hres : findM (.str W[0]) formsL with _ | v
        · refine ⟨.plan ⟨[], [], [1], []⟩ (.one 0 (.alt 1 (.one 2 (.one 3 (.one 4 (.one 5 (.one 6 (.one 7 (.one 8 (.one 9 (.one 10 .fin))))))))) (.alt 2 (.alt 1 (.one 3 (.one 4 (.one 5 (.one 6 (.one 7 (.one 8 (.one 9 (.one 10 .fin)))))))) (.alt 3 (.alt 1 (.one 4 (.one 5 (.one 6 (.one 7 (.one 8 (.one 9 (.one 10 .fin))))))) (.alt 4 (.alt 1 (.one 5 (.one 6 (.one 7 (.one 8 (.one 9 (.one 10 .fin)))))) .stop) .stop)) .stop)) .stop)))
            (some (mkS 105 0 (pSlots L k [(6, .p (.int .i64 k)), (8, .p (encS W)), (9, (.p .nilf)), (10, .p (.bool false))]) [(2, pzObj), (17, psF st)] [] [])), by kernel_rfl, ⟨_, rfl, ?_, _, rfl, ?_, .p (.imp (enc1 W[0])), ⟨by omega, _, idx_map rfl hW0, rfl, rfl⟩, ?_, _, rfl, ?_⟩, ?_⟩
          · refine .inl ?_
            refine ⟨Tryz.f31, Tryz.func31, rfl, rfl, rfl, ?_⟩
            refine ⟨[], ?_⟩
            refine ⟨[.str], by kernel_rfl, ?_⟩
            refine ⟨rfl, ?_⟩
            refine ⟨fitsAll rfl, ?_⟩
            refine ⟨[(.str wVotes, formV 61)], ?_⟩
            refine ⟨rfl, ?_⟩
            refine atS ((((((((((mkS 105 0 (pSlots L k [(6, .p (.int .i64 k)), (8, .p (encS W))]) [(2, pzObj), (17, psF st)] [] []).put (some 39) (.ptr 17 0)).enter 13 (argTmps [.ptr 17 0])).put (some 2) (.p .nilm)).kill 1003).put (some 3) (.mapr 1003)).put (some 4) (.ptr 17 0)).put (some 5) (formV 61))).wMaps [(1003, [(.str wVotes, formV 61)])]) (by kernel_rfl) ?_
            refine ⟨[], ?_⟩
            refine ⟨[.str], by kernel_rfl, ?_⟩
            refine ⟨rfl, ?_⟩
            refine ⟨fitsAll rfl, ?_⟩
            refine ⟨[(.str wVotes, formV 61), (.str wGroup, formV 62)], ?_⟩
            refine ⟨by kernel_rfl, ?_⟩
            refine atS ((((((((((((mkS 105 0 (pSlots L k [(6, .p (.int .i64 k)), (8, .p (encS W))]) [(2, pzObj), (17, psF st)] [] []).put (some 39) (.ptr 17 0)).enter 13 (argTmps [.ptr 17 0])).put (some 2) (.p .nilm)).kill 1003).put (some 3) (.mapr 1003)).put (some 4) (.ptr 17 0)).put (some 5) (formV 61)).put (some 6) (.ptr 17 0)).put (some 7) (formV 62))).wMaps [(1003, [(.str wVotes, formV 61), (.str wGroup, formV 62)])]) (by kernel_rfl) ?_
            refine ⟨[], ?_⟩
            refine ⟨[.str], by kernel_rfl, ?_⟩
            refine ⟨rfl, ?_⟩
            refine ⟨fitsAll rfl, ?_⟩
            refine ⟨[(.str wVotes, formV 61), (.str wGroup, formV 62), (.str wAllow, formV 63)], ?_⟩
            refine ⟨by kernel_rfl, ?_⟩
            refine atS ((((((((((((((mkS 105 0 (pSlots L k [(6, .p (.int .i64 k)), (8, .p (encS W))]) [(2, pzObj), (17, psF st)] [] []).put (some 39) (.ptr 17 0)).enter 13 (argTmps [.ptr 17 0])).put (some 2) (.p .nilm)).kill 1003).put (some 3) (.mapr 1003)).put (some 4) (.ptr 17 0)).put (some 5) (formV 61)).put (some 6) (.ptr 17 0)).put (some 7) (formV 62)).put (some 8) (.ptr 17 0)).put (some 9) (formV 63))).wMaps [(1003, [(.str wVotes, formV 61), (.str wGroup, formV 62), (.str wAllow, formV 63)])]) (by kernel_rfl) ?_
            refine ⟨[], ?_⟩
            refine ⟨[.str], by kernel_rfl, ?_⟩
            refine ⟨rfl, ?_⟩
            refine ⟨fitsAll rfl, ?_⟩
            refine ⟨formsL, ?_⟩
            refine ⟨by kernel_rfl, ?_⟩
            refine atS ((((((((((((((((mkS 105 0 (pSlots L k [(6, .p (.int .i64 k)), (8, .p (encS W))]) [(2, pzObj), (17, psF st)] [] []).put (some 39) (.ptr 17 0)).enter 13 (argTmps [.ptr 17 0])).put (some 2) (.p .nilm)).kill 1003).put (some 3) (.mapr 1003)).put (some 4) (.ptr 17 0)).put (some 5) (formV 61)).put (some 6) (.ptr 17 0)).put (some 7) (formV 62)).put (some 8) (.ptr 17 0)).put (some 9) (formV 63)).put (some 10) (.ptr 17 0)).put (some 11) (formV 63))).wMaps [(1003, formsL)]) (by kernel_rfl) ?_
            refine ⟨_, rfl, ?_⟩
            refine atS ((((((mkS 105 0 (pSlots L k [(6, .p (.int .i64 k)), (8, .p (encS W))]) [(2, pzObj), (17, psF st)] [] []).put (some 39) (.ptr 17 0)).kill 1003).wMaps [(1003, formsL)]).put (some 40) (.mapr 1003)).put (some 41) (.p (encS W))) (by kernel_rfl) ?_
            refine ⟨.p (.imp (enc1 W[0])), ?_⟩
            refine ⟨⟨by omega, _, idx_map rfl hW0, rfl, rfl⟩, ?_⟩
            refine ⟨_, rfl, ?_⟩
            refine ⟨.tup [.p .nilf, .p (.bool false)], ?_⟩
            refine ⟨?_, ?_⟩
            · refine ⟨[.str], by kernel_rfl, rfl, fitsAll rfl, none, hres, .nilFunc, by kernel_rfl, rfl⟩
            refine ⟨_, rfl, ?_⟩
            refine ⟨_, rfl, ?_⟩
            refine ⟨_, rfl, ?_⟩
            refine ⟨_, rfl, ?_⟩
            refine ⟨_, rfl, ?_⟩
            exact weaken_mk rfl ⟨Weak.refl _, Weak.refl _, Weak.refl _, Weak.refl _, Weak.refl _, Weak.refl _, Weak.refl _, Weak.refl _, Weak.refl _, trivial⟩ ⟨hasO_one rfl, hasO_one rfl, trivial⟩ trivial trivial
          · refine .inl ?_
            refine ⟨Tryz.f31, Tryz.func31, rfl, rfl, rfl, ?_⟩
            refine ⟨[], ?_⟩
            refine ⟨[.str], by kernel_rfl, ?_⟩
            refine ⟨rfl, ?_⟩
            refine ⟨fitsAll rfl, ?_⟩
            refine ⟨[(.str wVotes, formV 61)], ?_⟩
            refine ⟨rfl, ?_⟩
            refine atS (((((((((((mkS 105 0 (pSlots L k [(6, .p (.int .i64 k)), (8, .p (encS W))]) [(2, pzObj), (17, psF st)] [] []).put (some 39) (.ptr 17 0)).put (some 41) (.p (encS W))).enter 13 (argTmps [.ptr 17 0])).put (some 2) (.p .nilm)).kill 1003).put (some 3) (.mapr 1003)).put (some 4) (.ptr 17 0)).put (some 5) (formV 61))).wMaps [(1003, [(.str wVotes, formV 61)])]) (by kernel_rfl) ?_
            refine ⟨[], ?_⟩
            refine ⟨[.str], by kernel_rfl, ?_⟩
            refine ⟨rfl, ?_⟩
            refine ⟨fitsAll rfl, ?_⟩
            refine ⟨[(.str wVotes, formV 61), (.str wGroup, formV 62)], ?_⟩
            refine ⟨by kernel_rfl, ?_⟩
            refine atS (((((((((((((mkS 105 0 (pSlots L k [(6, .p (.int .i64 k)), (8, .p (encS W))]) [(2, pzObj), (17, psF st)] [] []).put (some 39) (.ptr 17 0)).put (some 41) (.p (encS W))).enter 13 (argTmps [.ptr 17 0])).put (some 2) (.p .nilm)).kill 1003).put (some 3) (.mapr 1003)).put (some 4) (.ptr 17 0)).put (some 5) (formV 61)).put (some 6) (.ptr 17 0)).put (some 7) (formV 62))).wMaps [(1003, [(.str wVotes, formV 61), (.str wGroup, formV 62)])]) (by kernel_rfl) ?_
            refine ⟨[], ?_⟩
            refine ⟨[.str], by kernel_rfl, ?_⟩
            refine ⟨rfl, ?_⟩
            refine ⟨fitsAll rfl, ?_⟩
            refine ⟨[(.str wVotes, formV 61), (.str wGroup, formV 62), (.str wAllow, formV 63)], ?_⟩
            refine ⟨by kernel_rfl, ?_⟩
            refine atS (((((((((((((((mkS 105 0 (pSlots L k [(6, .p (.int .i64 k)), (8, .p (encS W))]) [(2, pzObj), (17, psF st)] [] []).put (some 39) (.ptr 17 0)).put (some 41) (.p (encS W))).enter 13 (argTmps [.ptr 17 0])).put (some 2) (.p .nilm)).kill 1003).put (some 3) (.mapr 1003)).put (some 4) (.ptr 17 0)).put (some 5) (formV 61)).put (some 6) (.ptr 17 0)).put (some 7) (formV 62)).put (some 8) (.ptr 17 0)).put (some 9) (formV 63))).wMaps [(1003, [(.str wVotes, formV 61), (.str wGroup, formV 62), (.str wAllow, formV 63)])]) (by kernel_rfl) ?_
            refine ⟨[], ?_⟩
            refine ⟨[.str], by kernel_rfl, ?_⟩
            refine ⟨rfl, ?_⟩
            refine ⟨fitsAll rfl, ?_⟩
            refine ⟨formsL, ?_⟩
            refine ⟨by kernel_rfl, ?_⟩
            refine atS (((((((((((((((((mkS 105 0 (pSlots L k [(6, .p (.int .i64 k)), (8, .p (encS W))]) [(2, pzObj), (17, psF st)] [] []).put (some 39) (.ptr 17 0)).put (some 41) (.p (encS W))).enter 13 (argTmps [.ptr 17 0])).put (some 2) (.p .nilm)).kill 1003).put (some 3) (.mapr 1003)).put (some 4) (.ptr 17 0)).put (some 5) (formV 61)).put (some 6) (.ptr 17 0)).put (some 7) (formV 62)).put (some 8) (.ptr 17 0)).put (some 9) (formV 63)).put (some 10) (.ptr 17 0)).put (some 11) (formV 63))).wMaps [(1003, formsL)]) (by kernel_rfl) ?_
            refine ⟨.p (.imp (enc1 W[0])), ?_⟩
            refine ⟨⟨by omega, _, idx_map rfl hW0, rfl, rfl⟩, ?_⟩
            refine atS (((((((mkS 105 0 (pSlots L k [(6, .p (.int .i64 k)), (8, .p (encS W))]) [(2, pzObj), (17, psF st)] [] []).put (some 39) (.ptr 17 0)).put (some 41) (.p (encS W))).kill 1003).wMaps [(1003, formsL)]).put (some 40) (.mapr 1003)).put (some 42) (.p (.imp (enc1 W[0])))) (by kernel_rfl) ?_
            refine ⟨_, rfl, ?_⟩
            refine ⟨.tup [.p .nilf, .p (.bool false)], ?_⟩
            refine ⟨?_, ?_⟩
            · refine ⟨[.str], by kernel_rfl, rfl, fitsAll rfl, none, hres, .nilFunc, by kernel_rfl, rfl⟩
            refine ⟨_, rfl, ?_⟩
            refine ⟨_, rfl, ?_⟩
            refine ⟨_, rfl, ?_⟩
            refine ⟨_, rfl, ?_⟩
            refine ⟨_, rfl, ?_⟩
            exact weaken_mk rfl ⟨Weak.refl _, Weak.refl _, Weak.refl _, Weak.refl _, Weak.refl _, Weak.refl _, Weak.refl _, Weak.refl _, Weak.refl _, trivial⟩ ⟨hasO_one rfl, hasO_one rfl, trivial⟩ trivial trivial
          · refine .inl ?_
            refine ⟨Tryz.f31, Tryz.func31, rfl, rfl, rfl, ?_⟩
            refine ⟨[], ?_⟩
            refine ⟨[.str], by kernel_rfl, ?_⟩
            refine ⟨rfl, ?_⟩
            refine ⟨fitsAll rfl, ?_⟩
            refine ⟨[(.str wVotes, formV 61)], ?_⟩
            refine ⟨rfl, ?_⟩
            refine atS ((((((((((((mkS 105 0 (pSlots L k [(6, .p (.int .i64 k)), (8, .p (encS W))]) [(2, pzObj), (17, psF st)] [] []).put (some 39) (.ptr 17 0)).put (some 41) (.p (encS W))).put (some 42) (.p (.imp (enc1 W[0])))).enter 13 (argTmps [.ptr 17 0])).put (some 2) (.p .nilm)).kill 1003).put (some 3) (.mapr 1003)).put (some 4) (.ptr 17 0)).put (some 5) (formV 61))).wMaps [(1003, [(.str wVotes, formV 61)])]) (by kernel_rfl) ?_
            refine ⟨[], ?_⟩
            refine ⟨[.str], by kernel_rfl, ?_⟩
            refine ⟨rfl, ?_⟩
            refine ⟨fitsAll rfl, ?_⟩
            refine ⟨[(.str wVotes, formV 61), (.str wGroup, formV 62)], ?_⟩
            refine ⟨by kernel_rfl, ?_⟩
            refine atS ((((((((((((((mkS 105 0 (pSlots L k [(6, .p (.int .i64 k)), (8, .p (encS W))]) [(2, pzObj), (17, psF st)] [] []).put (some 39) (.ptr 17 0)).put (some 41) (.p (encS W))).put (some 42) (.p (.imp (enc1 W[0])))).enter 13 (argTmps [.ptr 17 0])).put (some 2) (.p .nilm)).kill 1003).put (some 3) (.mapr 1003)).put (some 4) (.ptr 17 0)).put (some 5) (formV 61)).put (some 6) (.ptr 17 0)).put (some 7) (formV 62))).wMaps [(1003, [(.str wVotes, formV 61), (.str wGroup, formV 62)])]) (by kernel_rfl) ?_
            refine ⟨[], ?_⟩
            refine ⟨[.str], by kernel_rfl, ?_⟩
            refine ⟨rfl, ?_⟩
            refine ⟨fitsAll rfl, ?_⟩
            refine ⟨[(.str wVotes, formV 61), (.str wGroup, formV 62), (.str wAllow, formV 63)], ?_⟩
            refine ⟨by kernel_rfl, ?_⟩
            refine atS ((((((((((((((((mkS 105 0 (pSlots L k [(6, .p (.int .i64 k)), (8, .p (encS W))]) [(2, pzObj), (17, psF st)] [] []).put (some 39) (.ptr 17 0)).put (some 41) (.p (encS W))).put (some 42) (.p (.imp (enc1 W[0])))).enter 13 (argTmps [.ptr 17 0])).put (some 2) (.p .nilm)).kill 1003).put (some 3) (.mapr 1003)).put (some 4) (.ptr 17 0)).put (some 5) (formV 61)).put (some 6) (.ptr 17 0)).put (some 7) (formV 62)).put (some 8) (.ptr 17 0)).put (some 9) (formV 63))).wMaps [(1003, [(.str wVotes, formV 61), (.str wGroup, formV 62), (.str wAllow, formV 63)])]) (by kernel_rfl) ?_
            refine ⟨[], ?_⟩
            refine ⟨[.str], by kernel_rfl, ?_⟩
            refine ⟨rfl, ?_⟩
            refine ⟨fitsAll rfl, ?_⟩
            refine ⟨formsL, ?_⟩
            refine ⟨by kernel_rfl, ?_⟩
            refine atS ((((((((((((((((((mkS 105 0 (pSlots L k [(6, .p (.int .i64 k)), (8, .p (encS W))]) [(2, pzObj), (17, psF st)] [] []).put (some 39) (.ptr 17 0)).put (some 41) (.p (encS W))).put (some 42) (.p (.imp (enc1 W[0])))).enter 13 (argTmps [.ptr 17 0])).put (some 2) (.p .nilm)).kill 1003).put (some 3) (.mapr 1003)).put (some 4) (.ptr 17 0)).put (some 5) (formV 61)).put (some 6) (.ptr 17 0)).put (some 7) (formV 62)).put (some 8) (.ptr 17 0)).put (some 9) (formV 63)).put (some 10) (.ptr 17 0)).put (some 11) (formV 63))).wMaps [(1003, formsL)]) (by kernel_rfl) ?_
            refine ⟨_, rfl, ?_⟩
            refine atS ((((((((mkS 105 0 (pSlots L k [(6, .p (.int .i64 k)), (8, .p (encS W))]) [(2, pzObj), (17, psF st)] [] []).put (some 39) (.ptr 17 0)).put (some 41) (.p (encS W))).put (some 42) (.p (.imp (enc1 W[0])))).kill 1003).wMaps [(1003, formsL)]).put (some 40) (.mapr 1003)).put (some 43) (.p (.str W[0]))) (by kernel_rfl) ?_
            refine ⟨.tup [.p .nilf, .p (.bool false)], ?_⟩
            refine ⟨?_, ?_⟩
            · refine ⟨[.str], by kernel_rfl, rfl, fitsAll rfl, none, hres, .nilFunc, by kernel_rfl, rfl⟩
            refine ⟨_, rfl, ?_⟩
            refine ⟨_, rfl, ?_⟩
            refine ⟨_, rfl, ?_⟩
            refine ⟨_, rfl, ?_⟩
            refine ⟨_, rfl, ?_⟩
            exact weaken_mk rfl ⟨Weak.refl _, Weak.refl _, Weak.refl _, Weak.refl _, Weak.refl _, Weak.refl _, Weak.refl _, Weak.refl _, Weak.refl _, trivial⟩ ⟨hasO_one rfl, hasO_one rfl, trivial⟩ trivial trivial
          · refine .inl ?_
            refine ⟨Tryz.f31, Tryz.func31, rfl, rfl, rfl, ?_⟩
            refine ⟨[], ?_⟩
            refine ⟨[.str], by kernel_rfl, ?_⟩
            refine ⟨rfl, ?_⟩
            refine ⟨fitsAll rfl, ?_⟩
            refine ⟨[(.str wVotes, formV 61)], ?_⟩
            refine ⟨rfl, ?_⟩
            refine atS (((((((((((((mkS 105 0 (pSlots L k [(6, .p (.int .i64 k)), (8, .p (encS W))]) [(2, pzObj), (17, psF st)] [] []).put (some 39) (.ptr 17 0)).put (some 41) (.p (encS W))).put (some 42) (.p (.imp (enc1 W[0])))).put (some 43) (.p (.str W[0]))).enter 13 (argTmps [.ptr 17 0])).put (some 2) (.p .nilm)).kill 1003).put (some 3) (.mapr 1003)).put (some 4) (.ptr 17 0)).put (some 5) (formV 61))).wMaps [(1003, [(.str wVotes, formV 61)])]) (by kernel_rfl) ?_
            refine ⟨[], ?_⟩
            refine ⟨[.str], by kernel_rfl, ?_⟩
            refine ⟨rfl, ?_⟩
            refine ⟨fitsAll rfl, ?_⟩
            refine ⟨[(.str wVotes, formV 61), (.str wGroup, formV 62)], ?_⟩
            refine ⟨by kernel_rfl, ?_⟩
            refine atS (((((((((((((((mkS 105 0 (pSlots L k [(6, .p (.int .i64 k)), (8, .p (encS W))]) [(2, pzObj), (17, psF st)] [] []).put (some 39) (.ptr 17 0)).put (some 41) (.p (encS W))).put (some 42) (.p (.imp (enc1 W[0])))).put (some 43) (.p (.str W[0]))).enter 13 (argTmps [.ptr 17 0])).put (some 2) (.p .nilm)).kill 1003).put (some 3) (.mapr 1003)).put (some 4) (.ptr 17 0)).put (some 5) (formV 61)).put (some 6) (.ptr 17 0)).put (some 7) (formV 62))).wMaps [(1003, [(.str wVotes, formV 61), (.str wGroup, formV 62)])]) (by kernel_rfl) ?_
            refine ⟨[], ?_⟩
            refine ⟨[.str], by kernel_rfl, ?_⟩
            refine ⟨rfl, ?_⟩
            refine ⟨fitsAll rfl, ?_⟩
            refine ⟨[(.str wVotes, formV 61), (.str wGroup, formV 62), (.str wAllow, formV 63)], ?_⟩
            refine ⟨by kernel_rfl, ?_⟩
            refine atS (((((((((((((((((mkS 105 0 (pSlots L k [(6, .p (.int .i64 k)), (8, .p (encS W))]) [(2, pzObj), (17, psF st)] [] []).put (some 39) (.ptr 17 0)).put (some 41) (.p (encS W))).put (some 42) (.p (.imp (enc1 W[0])))).put (some 43) (.p (.str W[0]))).enter 13 (argTmps [.ptr 17 0])).put (some 2) (.p .nilm)).kill 1003).put (some 3) (.mapr 1003)).put (some 4) (.ptr 17 0)).put (some 5) (formV 61)).put (some 6) (.ptr 17 0)).put (some 7) (formV 62)).put (some 8) (.ptr 17 0)).put (some 9) (formV 63))).wMaps [(1003, [(.str wVotes, formV 61), (.str wGroup, formV 62), (.str wAllow, formV 63)])]) (by kernel_rfl) ?_
            refine ⟨[], ?_⟩
            refine ⟨[.str], by kernel_rfl, ?_⟩
            refine ⟨rfl, ?_⟩
            refine ⟨fitsAll rfl, ?_⟩
            refine ⟨formsL, ?_⟩
            refine ⟨by kernel_rfl, ?_⟩
            refine atS (((((((((((((((((((mkS 105 0 (pSlots L k [(6, .p (.int .i64 k)), (8, .p (encS W))]) [(2, pzObj), (17, psF st)] [] []).put (some 39) (.ptr 17 0)).put (some 41) (.p (encS W))).put (some 42) (.p (.imp (enc1 W[0])))).put (some 43) (.p (.str W[0]))).enter 13 (argTmps [.ptr 17 0])).put (some 2) (.p .nilm)).kill 1003).put (some 3) (.mapr 1003)).put (some 4) (.ptr 17 0)).put (some 5) (formV 61)).put (some 6) (.ptr 17 0)).put (some 7) (formV 62)).put (some 8) (.ptr 17 0)).put (some 9) (formV 63)).put (some 10) (.ptr 17 0)).put (some 11) (formV 63))).wMaps [(1003, formsL)]) (by kernel_rfl) ?_
            refine ⟨.tup [.p .nilf, .p (.bool false)], ?_⟩
            refine ⟨?_, ?_⟩
            · refine ⟨[.str], by kernel_rfl, rfl, fitsAll rfl, none, hres, .nilFunc, by kernel_rfl, rfl⟩
            refine ⟨_, rfl, ?_⟩
            refine ⟨_, rfl, ?_⟩
            refine ⟨_, rfl, ?_⟩
            refine ⟨_, rfl, ?_⟩
            refine ⟨_, rfl, ?_⟩
            exact weaken_mk rfl ⟨Weak.refl _, Weak.refl _, Weak.refl _, Weak.refl _, Weak.refl _, Weak.refl _, Weak.refl _, Weak.refl _, Weak.refl _, trivial⟩ ⟨hasO_one rfl, hasO_one rfl, trivial⟩ trivial trivial
          obtain ⟨n1, n2, n3, n4⟩ := forms_none hres
          refine al_not ?_
          refine ⟨_, hw, ?_⟩
          have hst : stepS st W (k + 1) = (3, st) := by
            unfold stepS
            rw [hn0, if_neg n1, if_neg n2, if_neg (fun h => h.elim n3 n4)]
          rw [errX 3 st hst (by decide)]
          exact rfl
        · rcases forms_some hres with ⟨hw1, rfl⟩ | ⟨hw1, rfl⟩ | ⟨hw1, rfl⟩
          · refine ⟨.plan ⟨[], [], [1], []⟩ (.one 0 (.alt 1 (.one 2 (.one 3 (.one 4 (.one 5 (.one 6 (.one 7 (.one 8 (.one 9 (.one 10 .fin))))))))) (.alt 2 (.alt 1 (.one 3 (.one 4 (.one 5 (.one 6 (.one 7 (.one 8 (.one 9 (.one 10 .fin)))))))) (.alt 3 (.alt 1 (.one 4 (.one 5 (.one 6 (.one 7 (.one 8 (.one 9 (.one 10 .fin))))))) (.alt 4 (.alt 1 (.one 5 (.one 6 (.one 7 (.one 8 (.one 9 (.one 10 .fin)))))) .stop) .stop)) .stop)) .stop)))
              (some (mkS 105 0 (pSlots L k [(6, .p (.int .i64 k)), (8, .p (encS W)), (9, (formV 61)), (10, .p (.bool true))]) [(2, pzObj), (17, psF st)] [] [])), by kernel_rfl, ⟨_, rfl, ?_, _, rfl, ?_, .p (.imp (enc1 W[0])), ⟨by omega, _, idx_map rfl hW0, rfl, rfl⟩, ?_, _, rfl, ?_⟩, ?_⟩
            · refine .inl ?_
              refine ⟨Tryz.f31, Tryz.func31, rfl, rfl, rfl, ?_⟩
              refine ⟨[], ?_⟩
              refine ⟨[.str], by kernel_rfl, ?_⟩
              refine ⟨rfl, ?_⟩
              refine ⟨fitsAll rfl, ?_⟩
              refine ⟨[(.str wVotes, formV 61)], ?_⟩
              refine ⟨rfl, ?_⟩
              refine atS ((((((((((mkS 105 0 (pSlots L k [(6, .p (.int .i64 k)), (8, .p (encS W))]) [(2, pzObj), (17, psF st)] [] []).put (some 39) (.ptr 17 0)).enter 13 (argTmps [.ptr 17 0])).put (some 2) (.p .nilm)).kill 1003).put (some 3) (.mapr 1003)).put (some 4) (.ptr 17 0)).put (some 5) (formV 61))).wMaps [(1003, [(.str wVotes, formV 61)])]) (by kernel_rfl) ?_
              refine ⟨[], ?_⟩
              refine ⟨[.str], by kernel_rfl, ?_⟩
              refine ⟨rfl, ?_⟩
              refine ⟨fitsAll rfl, ?_⟩
              refine ⟨[(.str wVotes, formV 61), (.str wGroup, formV 62)], ?_⟩
              refine ⟨by kernel_rfl, ?_⟩
              refine atS ((((((((((((mkS 105 0 (pSlots L k [(6, .p (.int .i64 k)), (8, .p (encS W))]) [(2, pzObj), (17, psF st)] [] []).put (some 39) (.ptr 17 0)).enter 13 (argTmps [.ptr 17 0])).put (some 2) (.p .nilm)).kill 1003).put (some 3) (.mapr 1003)).put (some 4) (.ptr 17 0)).put (some 5) (formV 61)).put (some 6) (.ptr 17 0)).put (some 7) (formV 62))).wMaps [(1003, [(.str wVotes, formV 61), (.str wGroup, formV 62)])]) (by kernel_rfl) ?_
              refine ⟨[], ?_⟩
              refine ⟨[.str], by kernel_rfl, ?_⟩
              refine ⟨rfl, ?_⟩
              refine ⟨fitsAll rfl, ?_⟩
              refine ⟨[(.str wVotes, formV 61), (.str wGroup, formV 62), (.str wAllow, formV 63)], ?_⟩
              refine ⟨by kernel_rfl, ?_⟩
              refine atS ((((((((((((((mkS 105 0 (pSlots L k [(6, .p (.int .i64 k)), (8, .p (encS W))]) [(2, pzObj), (17, psF st)] [] []).put (some 39) (.ptr 17 0)).enter 13 (argTmps [.ptr 17 0])).put (some 2) (.p .nilm)).kill 1003).put (some 3) (.mapr 1003)).put (some 4) (.ptr 17 0)).put (some 5) (formV 61)).put (some 6) (.ptr 17 0)).put (some 7) (formV 62)).put (some 8) (.ptr 17 0)).put (some 9) (formV 63))).wMaps [(1003, [(.str wVotes, formV 61), (.str wGroup, formV 62), (.str wAllow, formV 63)])]) (by kernel_rfl) ?_
              refine ⟨[], ?_⟩
              refine ⟨[.str], by kernel_rfl, ?_⟩
              refine ⟨rfl, ?_⟩
              refine ⟨fitsAll rfl, ?_⟩
              refine ⟨formsL, ?_⟩
              refine ⟨by kernel_rfl, ?_⟩
              refine atS ((((((((((((((((mkS 105 0 (pSlots L k [(6, .p (.int .i64 k)), (8, .p (encS W))]) [(2, pzObj), (17, psF st)] [] []).put (some 39) (.ptr 17 0)).enter 13 (argTmps [.ptr 17 0])).put (some 2) (.p .nilm)).kill 1003).put (some 3) (.mapr 1003)).put (some 4) (.ptr 17 0)).put (some 5) (formV 61)).put (some 6) (.ptr 17 0)).put (some 7) (formV 62)).put (some 8) (.ptr 17 0)).put (some 9) (formV 63)).put (some 10) (.ptr 17 0)).put (some 11) (formV 63))).wMaps [(1003, formsL)]) (by kernel_rfl) ?_
              refine ⟨_, rfl, ?_⟩
              refine atS ((((((mkS 105 0 (pSlots L k [(6, .p (.int .i64 k)), (8, .p (encS W))]) [(2, pzObj), (17, psF st)] [] []).put (some 39) (.ptr 17 0)).kill 1003).wMaps [(1003, formsL)]).put (some 40) (.mapr 1003)).put (some 41) (.p (encS W))) (by kernel_rfl) ?_
              refine ⟨.p (.imp (enc1 W[0])), ?_⟩
              refine ⟨⟨by omega, _, idx_map rfl hW0, rfl, rfl⟩, ?_⟩
              refine ⟨_, rfl, ?_⟩
              refine ⟨.tup [formV 61, .p (.bool true)], ?_⟩
              refine ⟨?_, ?_⟩
              · refine ⟨[.str], by kernel_rfl, rfl, fitsAll rfl, some (formV 61), hres, rfl⟩
              refine ⟨_, rfl, ?_⟩
              refine ⟨_, rfl, ?_⟩
              refine ⟨_, rfl, ?_⟩
              refine ⟨_, rfl, ?_⟩
              refine ⟨_, rfl, ?_⟩
              exact weaken_mk rfl ⟨Weak.refl _, Weak.refl _, Weak.refl _, Weak.refl _, Weak.refl _, Weak.refl _, Weak.refl _, Weak.refl _, Weak.refl _, trivial⟩ ⟨hasO_one rfl, hasO_one rfl, trivial⟩ trivial trivial
            · refine .inl ?_
              refine ⟨Tryz.f31, Tryz.func31, rfl, rfl, rfl, ?_⟩
              refine ⟨[], ?_⟩
              refine ⟨[.str], by kernel_rfl, ?_⟩
              refine ⟨rfl, ?_⟩
              refine ⟨fitsAll rfl, ?_⟩
              refine ⟨[(.str wVotes, formV 61)], ?_⟩
              refine ⟨rfl, ?_⟩
              refine atS (((((((((((mkS 105 0 (pSlots L k [(6, .p (.int .i64 k)), (8, .p (encS W))]) [(2, pzObj), (17, psF st)] [] []).put (some 39) (.ptr 17 0)).put (some 41) (.p (encS W))).enter 13 (argTmps [.ptr 17 0])).put (some 2) (.p .nilm)).kill 1003).put (some 3) (.mapr 1003)).put (some 4) (.ptr 17 0)).put (some 5) (formV 61))).wMaps [(1003, [(.str wVotes, formV 61)])]) (by kernel_rfl) ?_
              refine ⟨[], ?_⟩
              refine ⟨[.str], by kernel_rfl, ?_⟩
              refine ⟨rfl, ?_⟩
              refine ⟨fitsAll rfl, ?_⟩
              refine ⟨[(.str wVotes, formV 61), (.str wGroup, formV 62)], ?_⟩
              refine ⟨by kernel_rfl, ?_⟩
              refine atS (((((((((((((mkS 105 0 (pSlots L k [(6, .p (.int .i64 k)), (8, .p (encS W))]) [(2, pzObj), (17, psF st)] [] []).put (some 39) (.ptr 17 0)).put (some 41) (.p (encS W))).enter 13 (argTmps [.ptr 17 0])).put (some 2) (.p .nilm)).kill 1003).put (some 3) (.mapr 1003)).put (some 4) (.ptr 17 0)).put (some 5) (formV 61)).put (some 6) (.ptr 17 0)).put (some 7) (formV 62))).wMaps [(1003, [(.str wVotes, formV 61), (.str wGroup, formV 62)])]) (by kernel_rfl) ?_
              refine ⟨[], ?_⟩
              refine ⟨[.str], by kernel_rfl, ?_⟩
              refine ⟨rfl, ?_⟩
              refine ⟨fitsAll rfl, ?_⟩
              refine ⟨[(.str wVotes, formV 61), (.str wGroup, formV 62), (.str wAllow, formV 63)], ?_⟩
              refine ⟨by kernel_rfl, ?_⟩
              refine atS (((((((((((((((mkS 105 0 (pSlots L k [(6, .p (.int .i64 k)), (8, .p (encS W))]) [(2, pzObj), (17, psF st)] [] []).put (some 39) (.ptr 17 0)).put (some 41) (.p (encS W))).enter 13 (argTmps [.ptr 17 0])).put (some 2) (.p .nilm)).kill 1003).put (some 3) (.mapr 1003)).put (some 4) (.ptr 17 0)).put (some 5) (formV 61)).put (some 6) (.ptr 17 0)).put (some 7) (formV 62)).put (some 8) (.ptr 17 0)).put (some 9) (formV 63))).wMaps [(1003, [(.str wVotes, formV 61), (.str wGroup, formV 62), (.str wAllow, formV 63)])]) (by kernel_rfl) ?_
              refine ⟨[], ?_⟩
              refine ⟨[.str], by kernel_rfl, ?_⟩
              refine ⟨rfl, ?_⟩
              refine ⟨fitsAll rfl, ?_⟩
              refine ⟨formsL, ?_⟩
              refine ⟨by kernel_rfl, ?_⟩
              refine atS (((((((((((((((((mkS 105 0 (pSlots L k [(6, .p (.int .i64 k)), (8, .p (encS W))]) [(2, pzObj), (17, psF st)] [] []).put (some 39) (.ptr 17 0)).put (some 41) (.p (encS W))).enter 13 (argTmps [.ptr 17 0])).put (some 2) (.p .nilm)).kill 1003).put (some 3) (.mapr 1003)).put (some 4) (.ptr 17 0)).put (some 5) (formV 61)).put (some 6) (.ptr 17 0)).put (some 7) (formV 62)).put (some 8) (.ptr 17 0)).put (some 9) (formV 63)).put (some 10) (.ptr 17 0)).put (some 11) (formV 63))).wMaps [(1003, formsL)]) (by kernel_rfl) ?_
              refine ⟨.p (.imp (enc1 W[0])), ?_⟩
              refine ⟨⟨by omega, _, idx_map rfl hW0, rfl, rfl⟩, ?_⟩
              refine atS (((((((mkS 105 0 (pSlots L k [(6, .p (.int .i64 k)), (8, .p (encS W))]) [(2, pzObj), (17, psF st)] [] []).put (some 39) (.ptr 17 0)).put (some 41) (.p (encS W))).kill 1003).wMaps [(1003, formsL)]).put (some 40) (.mapr 1003)).put (some 42) (.p (.imp (enc1 W[0])))) (by kernel_rfl) ?_
              refine ⟨_, rfl, ?_⟩
              refine ⟨.tup [formV 61, .p (.bool true)], ?_⟩
              refine ⟨?_, ?_⟩
              · refine ⟨[.str], by kernel_rfl, rfl, fitsAll rfl, some (formV 61), hres, rfl⟩
              refine ⟨_, rfl, ?_⟩
              refine ⟨_, rfl, ?_⟩
              refine ⟨_, rfl, ?_⟩
              refine ⟨_, rfl, ?_⟩
              refine ⟨_, rfl, ?_⟩
              exact weaken_mk rfl ⟨Weak.refl _, Weak.refl _, Weak.refl _, Weak.refl _, Weak.refl _, Weak.refl _, Weak.refl _, Weak.refl _, Weak.refl _, trivial⟩ ⟨hasO_one rfl, hasO_one rfl, trivial⟩ trivial trivial
            · refine .inl ?_
              refine ⟨Tryz.f31, Tryz.func31, rfl, rfl, rfl, ?_⟩
              refine ⟨[], ?_⟩
              refine ⟨[.str], by kernel_rfl, ?_⟩
              refine ⟨rfl, ?_⟩
              refine ⟨fitsAll rfl, ?_⟩
              refine ⟨[(.str wVotes, formV 61)], ?_⟩
              refine ⟨rfl, ?_⟩
              refine atS ((((((((((((mkS 105 0 (pSlots L k [(6, .p (.int .i64 k)), (8, .p (encS W))]) [(2, pzObj), (17, psF st)] [] []).put (some 39) (.ptr 17 0)).put (some 41) (.p (encS W))).put (some 42) (.p (.imp (enc1 W[0])))).enter 13 (argTmps [.ptr 17 0])).put (some 2) (.p .nilm)).kill 1003).put (some 3) (.mapr 1003)).put (some 4) (.ptr 17 0)).put (some 5) (formV 61))).wMaps [(1003, [(.str wVotes, formV 61)])]) (by kernel_rfl) ?_
              refine ⟨[], ?_⟩
              refine ⟨[.str], by kernel_rfl, ?_⟩
              refine ⟨rfl, ?_⟩
              refine ⟨fitsAll rfl, ?_⟩
              refine ⟨[(.str wVotes, formV 61), (.str wGroup, formV 62)], ?_⟩
              refine ⟨by kernel_rfl, ?_⟩
              refine atS ((((((((((((((mkS 105 0 (pSlots L k [(6, .p (.int .i64 k)), (8, .p (encS W))]) [(2, pzObj), (17, psF st)] [] []).put (some 39) (.ptr 17 0)).put (some 41) (.p (encS W))).put (some 42) (.p (.imp (enc1 W[0])))).enter 13 (argTmps [.ptr 17 0])).put (some 2) (.p .nilm)).kill 1003).put (some 3) (.mapr 1003)).put (some 4) (.ptr 17 0)).put (some 5) (formV 61)).put (some 6) (.ptr 17 0)).put (some 7) (formV 62))).wMaps [(1003, [(.str wVotes, formV 61), (.str wGroup, formV 62)])]) (by kernel_rfl) ?_
              refine ⟨[], ?_⟩
              refine ⟨[.str], by kernel_rfl, ?_⟩
              refine ⟨rfl, ?_⟩
              refine ⟨fitsAll rfl, ?_⟩
              refine ⟨[(.str wVotes, formV 61), (.str wGroup, formV 62), (.str wAllow, formV 63)], ?_⟩
              refine ⟨by kernel_rfl, ?_⟩
              refine atS ((((((((((((((((mkS 105 0 (pSlots L k [(6, .p (.int .i64 k)), (8, .p (encS W))]) [(2, pzObj), (17, psF st)] [] []).put (some 39) (.ptr 17 0)).put (some 41) (.p (encS W))).put (some 42) (.p (.imp (enc1 W[0])))).enter 13 (argTmps [.ptr 17 0])).put (some 2) (.p .nilm)).kill 1003).put (some 3) (.mapr 1003)).put (some 4) (.ptr 17 0)).put (some 5) (formV 61)).put (some 6) (.ptr 17 0)).put (some 7) (formV 62)).put (some 8) (.ptr 17 0)).put (some 9) (formV 63))).wMaps [(1003, [(.str wVotes, formV 61), (.str wGroup, formV 62), (.str wAllow, formV 63)])]) (by kernel_rfl) ?_
              refine ⟨[], ?_⟩
              refine ⟨[.str], by kernel_rfl, ?_⟩
              refine ⟨rfl, ?_⟩
              refine ⟨fitsAll rfl, ?_⟩
              refine ⟨formsL, ?_⟩
              refine ⟨by kernel_rfl, ?_⟩
              refine atS ((((((((((((((((((mkS 105 0 (pSlots L k [(6, .p (.int .i64 k)), (8, .p (encS W))]) [(2, pzObj), (17, psF st)] [] []).put (some 39) (.ptr 17 0)).put (some 41) (.p (encS W))).put (some 42) (.p (.imp (enc1 W[0])))).enter 13 (argTmps [.ptr 17 0])).put (some 2) (.p .nilm)).kill 1003).put (some 3) (.mapr 1003)).put (some 4) (.ptr 17 0)).put (some 5) (formV 61)).put (some 6) (.ptr 17 0)).put (some 7) (formV 62)).put (some 8) (.ptr 17 0)).put (some 9) (formV 63)).put (some 10) (.ptr 17 0)).put (some 11) (formV 63))).wMaps [(1003, formsL)]) (by kernel_rfl) ?_
              refine ⟨_, rfl, ?_⟩
              refine atS ((((((((mkS 105 0 (pSlots L k [(6, .p (.int .i64 k)), (8, .p (encS W))]) [(2, pzObj), (17, psF st)] [] []).put (some 39) (.ptr 17 0)).put (some 41) (.p (encS W))).put (some 42) (.p (.imp (enc1 W[0])))).kill 1003).wMaps [(1003, formsL)]).put (some 40) (.mapr 1003)).put (some 43) (.p (.str W[0]))) (by kernel_rfl) ?_
              refine ⟨.tup [formV 61, .p (.bool true)], ?_⟩
              refine ⟨?_, ?_⟩
              · refine ⟨[.str], by kernel_rfl, rfl, fitsAll rfl, some (formV 61), hres, rfl⟩
              refine ⟨_, rfl, ?_⟩
              refine ⟨_, rfl, ?_⟩
              refine ⟨_, rfl, ?_⟩
              refine ⟨_, rfl, ?_⟩
              refine ⟨_, rfl, ?_⟩
              exact weaken_mk rfl ⟨Weak.refl _, Weak.refl _, Weak.refl _, Weak.refl _, Weak.refl _, Weak.refl _, Weak.refl _, Weak.refl _, Weak.refl _, trivial⟩ ⟨hasO_one rfl, hasO_one rfl, trivial⟩ trivial trivial
            · refine .inl ?_
              refine ⟨Tryz.f31, Tryz.func31, rfl, rfl, rfl, ?_⟩
              refine ⟨[], ?_⟩
              refine ⟨[.str], by kernel_rfl, ?_⟩
              refine ⟨rfl, ?_⟩
              refine ⟨fitsAll rfl, ?_⟩
              refine ⟨[(.str wVotes, formV 61)], ?_⟩
              refine ⟨rfl, ?_⟩
              refine atS (((((((((((((mkS 105 0 (pSlots L k [(6, .p (.int .i64 k)), (8, .p (encS W))]) [(2, pzObj), (17, psF st)] [] []).put (some 39) (.ptr 17 0)).put (some 41) (.p (encS W))).put (some 42) (.p (.imp (enc1 W[0])))).put (some 43) (.p (.str W[0]))).enter 13 (argTmps [.ptr 17 0])).put (some 2) (.p .nilm)).kill 1003).put (some 3) (.mapr 1003)).put (some 4) (.ptr 17 0)).put (some 5) (formV 61))).wMaps [(1003, [(.str wVotes, formV 61)])]) (by kernel_rfl) ?_
              refine ⟨[], ?_⟩
              refine ⟨[.str], by kernel_rfl, ?_⟩
              refine ⟨rfl, ?_⟩
              refine ⟨fitsAll rfl, ?_⟩
              refine ⟨[(.str wVotes, formV 61), (.str wGroup, formV 62)], ?_⟩
              refine ⟨by kernel_rfl, ?_⟩
              refine atS (((((((((((((((mkS 105 0 (pSlots L k [(6, .p (.int .i64 k)), (8, .p (encS W))]) [(2, pzObj), (17, psF st)] [] []).put (some 39) (.ptr 17 0)).put (some 41) (.p (encS W))).put (some 42) (.p (.imp (enc1 W[0])))).put (some 43) (.p (.str W[0]))).enter 13 (argTmps [.ptr 17 0])).put (some 2) (.p .nilm)).kill 1003).put (some 3) (.mapr 1003)).put (some 4) (.ptr 17 0)).put (some 5) (formV 61)).put (some 6) (.ptr 17 0)).put (some 7) (formV 62))).wMaps [(1003, [(.str wVotes, formV 61), (.str wGroup, formV 62)])]) (by kernel_rfl) ?_
              refine ⟨[], ?_⟩
              refine ⟨[.str], by kernel_rfl, ?_⟩
              refine ⟨rfl, ?_⟩
              refine ⟨fitsAll rfl, ?_⟩
              refine ⟨[(.str wVotes, formV 61), (.str wGroup, formV 62), (.str wAllow, formV 63)], ?_⟩
              refine ⟨by kernel_rfl, ?_⟩
              refine atS (((((((((((((((((mkS 105 0 (pSlots L k [(6, .p (.int .i64 k)), (8, .p (encS W))]) [(2, pzObj), (17, psF st)] [] []).put (some 39) (.ptr 17 0)).put (some 41) (.p (encS W))).put (some 42) (.p (.imp (enc1 W[0])))).put (some 43) (.p (.str W[0]))).enter 13 (argTmps [.ptr 17 0])).put (some 2) (.p .nilm)).kill 1003).put (some 3) (.mapr 1003)).put (some 4) (.ptr 17 0)).put (some 5) (formV 61)).put (some 6) (.ptr 17 0)).put (some 7) (formV 62)).put (some 8) (.ptr 17 0)).put (some 9) (formV 63))).wMaps [(1003, [(.str wVotes, formV 61), (.str wGroup, formV 62), (.str wAllow, formV 63)])]) (by kernel_rfl) ?_
              refine ⟨[], ?_⟩
              refine ⟨[.str], by kernel_rfl, ?_⟩
              refine ⟨rfl, ?_⟩
              refine ⟨fitsAll rfl, ?_⟩
              refine ⟨formsL, ?_⟩
              refine ⟨by kernel_rfl, ?_⟩
              refine atS (((((((((((((((((((mkS 105 0 (pSlots L k [(6, .p (.int .i64 k)), (8, .p (encS W))]) [(2, pzObj), (17, psF st)] [] []).put (some 39) (.ptr 17 0)).put (some 41) (.p (encS W))).put (some 42) (.p (.imp (enc1 W[0])))).put (some 43) (.p (.str W[0]))).enter 13 (argTmps [.ptr 17 0])).put (some 2) (.p .nilm)).kill 1003).put (some 3) (.mapr 1003)).put (some 4) (.ptr 17 0)).put (some 5) (formV 61)).put (some 6) (.ptr 17 0)).put (some 7) (formV 62)).put (some 8) (.ptr 17 0)).put (some 9) (formV 63)).put (some 10) (.ptr 17 0)).put (some 11) (formV 63))).wMaps [(1003, formsL)]) (by kernel_rfl) ?_
              refine ⟨.tup [formV 61, .p (.bool true)], ?_⟩
              refine ⟨?_, ?_⟩
              · refine ⟨[.str], by kernel_rfl, rfl, fitsAll rfl, some (formV 61), hres, rfl⟩
              refine ⟨_, rfl, ?_⟩
              refine ⟨_, rfl, ?_⟩
              refine ⟨_, rfl, ?_⟩
              refine ⟨_, rfl, ?_⟩
              refine ⟨_, rfl, ?_⟩
              exact weaken_mk rfl ⟨Weak.refl _, Weak.refl _, Weak.refl _, Weak.refl _, Weak.refl _, Weak.refl _, Weak.refl _, Weak.refl _, Weak.refl _, trivial⟩ ⟨hasO_one rfl, hasO_one rfl, trivial⟩ trivial trivial
            refine al_not ?_
            have hS : stepS st W (k + 1) = votesS st W := by
              unfold stepS
              rw [hn0, if_pos hw1]
            refine ⟨_, hw, ?_⟩
            refine .inl ?_
            refine ⟨Tryz.f61, Tryz.func61, rfl, rfl, rfl, ?_⟩
            refine al_ne (fun h2 => ?_) (fun h2 => ?_)
            · have h2 : W.length ≠ 2 := by
                intro e
                apply h2
                show ((W.map enc1).length : Int) = 2
                rw [List.length_map, e]
                rfl
              refine al_ne (fun _ => ?_) (fun h => absurd h (by decide))
              refine ⟨_, hw, ?_⟩
              rw [errX 3 st (by rw [hS, votesS, if_pos h2]) (by decide)]
              exact rfl
            · have h2 : W.length = 2 := by
                have : ((W.map enc1).length : Int) = 2 := h2
                rw [List.length_map] at this
                omega
              refine ⟨by omega, _, idx_map rfl (show 1 < W.length by omega), rfl, ?_⟩
              have hn1 : nth W 1 = W[1] := nth_eq (by omega)
              obtain ⟨hw1n, hw1l⟩ := hWm _ (List.getElem_mem (show 1 < W.length by omega))
              refine ⟨none, ?_⟩
              refine ⟨_, (trimDg_ok W[1] (by omega)).opn, ?_⟩
              rintro r ⟨u, rfl, hu⟩
              have err3 : numOK (nth W 1) = false → X = .inl (k + 1, 3) := fun h => errX 3 st (by rw [hS, votesS, if_neg (fun h => h h2), if_pos h]) (by decide)
              refine al_nes (fun hne => ?_) (fun hne => ?_)
              · have : numOK (nth W 1) = false := by
                  have hd : ¬ W[1].all isDg = true := fun h => hne (hu.2 h)
                  rw [hn1, numOK, Bool.eq_false_iff.2 hd, Bool.and_false, Bool.false_and]
                refine al_ne (fun _ => ?_) (fun h => absurd h (by decide))
                refine ⟨_, hw, ?_⟩
                rw [err3 this]
                exact rfl
              · have hd : W[1].all isDg = true := hu.1 hne
                obtain ⟨c1, hc1⟩ : ∃ c, (W[1])[0]? = some c := by
                  cases hq : W[1] with
                  | nil => exact absurd hq hw1n
                  | cons c r => exact ⟨c, rfl⟩
                refine ⟨by omega, c1, hc1, ?_⟩
                refine al_eq (fun h48 => ?_) (fun h48 => ?_)
                · refine al_nes (fun h0 => ?_) (fun h0 => ?_)
                  · have h48 : c1 = 48 := u8_eq h48
                    have hl2 : 2 ≤ W[1].length := by
                      match hq : W[1], hw1n with
                      | [], h => exact absurd rfl h
                      | [c], _ =>
                        rw [hq] at hc1 h0
                        have hc1 : c = c1 := Option.some.inj hc1
                        exact absurd (show [c] = [48] by rw [hc1, h48]) h0
                      | _ :: _ :: _, _ => simp
                    have : numOK (nth W 1) = false := by
                      rw [hn1, numOK, hc1, h48]
                      simp [hl2]
                    refine al_ne (fun _ => ?_) (fun h => absurd h (by decide))
                    refine ⟨_, hw, ?_⟩
                    rw [err3 this]
                    exact rfl
                  · have h48 : c1 = 48 := u8_eq h48
                    have h0 : W[1] = [48] := h0
                    have hok : numOK W[1] = true := by rw [h0]; decide
                    rw [votesS, if_neg (fun h => h h2), hn1, if_neg (by rw [hok]; simp)] at hS
                    obtain ⟨gs, rs, vt, vd, ln⟩ := st
                    rw [show (⟨gs, rs, vt, vd, ln⟩ : PS).voted = vd from rfl] at hS
                    cases vd with
                    | true =>
                      refine ⟨_, Weaken.refl _, ?_⟩
                      refine al_ne (fun _ => ?_) (fun h => absurd h (by decide))
                      refine ⟨_, hw, ?_⟩
                      rw [errX 6 _ (by rw [hS, if_pos rfl]) (by decide)]
                      exact rfl
                    | false =>
                      rw [if_neg (by simp)] at hS
                      refine ⟨_, (atoi_ok W[1] (by omega)).opn, ?_⟩
                      rintro r (⟨v, hv, rfl⟩ | ⟨hv, nn, rfl⟩)
                      · have hvn : v = (numV W[1] : Int) := by
                          rcases atoi_dg hw1n hd with h | h
                          · rw [h] at hv; exact (Option.some.inj hv).symm
                          · rw [h.1] at hv; cases hv
                        subst hvn
                        refine ⟨none, ?_⟩
                        refine al_dec (fun hgt => ?_) (fun hgt => ?_)
                        · have hgt : 100 < numV W[1] := by
                            have : (numV W[1] : Int) > 100 := hgt
                            omega
                          rw [if_pos hgt] at hS
                          refine al_ne (fun _ => ?_) (fun h => absurd h (by decide))
                          refine ⟨_, hw, ?_⟩
                          rw [errX 2 _ hS (by decide)]
                          exact rfl
                        · have hgt : ¬ 100 < numV W[1] := by
                            have : ¬ (numV W[1] : Int) > 100 := hgt
                            omega
                          rw [if_neg hgt] at hS
                          refine al_ne (fun h => absurd rfl h) (fun _ => ?_)
                          refine ⟨_, hw, ?_⟩
                          exact roundR (k + 1, ⟨gs, rs, (numV W[1] : Int), true, ln⟩) ⟨hlt, (okX _ hS).1, (okX _ hS).2⟩ (by show L.length - (k + 1) < L.length - k; omega) rfl ⟨Weak.refl _, Weak.refl _, Weak.refl _, Weak.refl _, Weak.refl _, trivial⟩ ⟨hasO_one rfl, hasO_one rfl, trivial⟩
                      · have hgt : 100 < numV W[1] := by
                          rcases atoi_dg hw1n hd with h | h
                          · rw [h] at hv; cases hv
                          · exact h.2
                        rw [if_pos hgt] at hS
                        refine ⟨none, ?_⟩
                        refine al_ne (fun _ => ?_) (fun h => absurd h (by decide))
                        refine ⟨_, hw, ?_⟩
                        rw [errX 2 _ hS (by decide)]
                        exact rfl
                · have hok : numOK W[1] = true := by
                    have h48 : c1 ≠ 48 := fun e => h48 (by rw [e]; rfl)
                    have : decide ((W[1])[0]? = some 48) = false := by
                      rw [hc1]
                      simpa using h48
                    simp only [numOK, hd, this, Bool.and_false, Bool.not_false, Bool.and_true, decide_eq_true_eq]
                    exact hw1n
                  rw [votesS, if_neg (fun h => h h2), hn1, if_neg (by rw [hok]; simp)] at hS
                  obtain ⟨gs, rs, vt, vd, ln⟩ := st
                  rw [show (⟨gs, rs, vt, vd, ln⟩ : PS).voted = vd from rfl] at hS
                  cases vd with
                  | true =>
                    refine ⟨_, Weaken.refl _, ?_⟩
                    refine al_ne (fun _ => ?_) (fun h => absurd h (by decide))
                    refine ⟨_, hw, ?_⟩
                    rw [errX 6 _ (by rw [hS, if_pos rfl]) (by decide)]
                    exact rfl
                  | false =>
                    rw [if_neg (by simp)] at hS
                    refine ⟨_, (atoi_ok W[1] (by omega)).opn, ?_⟩
                    rintro r (⟨v, hv, rfl⟩ | ⟨hv, nn, rfl⟩)
                    · have hvn : v = (numV W[1] : Int) := by
                        rcases atoi_dg hw1n hd with h | h
                        · rw [h] at hv; exact (Option.some.inj hv).symm
                        · rw [h.1] at hv; cases hv
                      subst hvn
                      refine ⟨none, ?_⟩
                      refine al_dec (fun hgt => ?_) (fun hgt => ?_)
                      · have hgt : 100 < numV W[1] := by
                          have : (numV W[1] : Int) > 100 := hgt
                          omega
                        rw [if_pos hgt] at hS
                        refine al_ne (fun _ => ?_) (fun h => absurd h (by decide))
                        refine ⟨_, hw, ?_⟩
                        rw [errX 2 _ hS (by decide)]
                        exact rfl
                      · have hgt : ¬ 100 < numV W[1] := by
                          have : ¬ (numV W[1] : Int) > 100 := hgt
                          omega
                        rw [if_neg hgt] at hS
                        refine al_ne (fun h => absurd rfl h) (fun _ => ?_)
                        refine ⟨_, hw, ?_⟩
                        exact roundR (k + 1, ⟨gs, rs, (numV W[1] : Int), true, ln⟩) ⟨hlt, (okX _ hS).1, (okX _ hS).2⟩ (by show L.length - (k + 1) < L.length - k; omega) rfl ⟨Weak.refl _, Weak.refl _, Weak.refl _, Weak.refl _, Weak.refl _, trivial⟩ ⟨hasO_one rfl, hasO_one rfl, trivial⟩
                    · have hgt : 100 < numV W[1] := by
                        rcases atoi_dg hw1n hd with h | h
                        · rw [h] at hv; cases hv
                        · exact h.2
                      rw [if_pos hgt] at hS
                      refine ⟨none, ?_⟩
                      refine al_ne (fun _ => ?_) (fun h => absurd h (by decide))
                      refine ⟨_, hw, ?_⟩
                      rw [errX 2 _ hS (by decide)]
                      exact rfl
          · refine ⟨.plan ⟨[], [], [1], []⟩ (.one 0 (.alt 1 (.one 2 (.one 3 (.one 4 (.one 5 (.one 6 (.one 7 (.one 8 (.one 9 (.one 10 .fin))))))))) (.alt 2 (.alt 1 (.one 3 (.one 4 (.one 5 (.one 6 (.one 7 (.one 8 (.one 9 (.one 10 .fin)))))))) (.alt 3 (.alt 1 (.one 4 (.one 5 (.one 6 (.one 7 (.one 8 (.one 9 (.one 10 .fin))))))) (.alt 4 (.alt 1 (.one 5 (.one 6 (.one 7 (.one 8 (.one 9 (.one 10 .fin)))))) .stop) .stop)) .stop)) .stop)))
              (some (mkS 105 0 (pSlots L k [(6, .p (.int .i64 k)), (8, .p (encS W)), (9, (formV 62)), (10, .p (.bool true))]) [(2, pzObj), (17, psF st)] [] [])), by kernel_rfl, ⟨_, rfl, ?_, _, rfl, ?_, .p (.imp (enc1 W[0])), ⟨by omega, _, idx_map rfl hW0, rfl, rfl⟩, ?_, _, rfl, ?_⟩, ?_⟩
            · refine .inl ?_
              refine ⟨Tryz.f31, Tryz.func31, rfl, rfl, rfl, ?_⟩
              refine ⟨[], ?_⟩
              refine ⟨[.str], by kernel_rfl, ?_⟩
              refine ⟨rfl, ?_⟩
              refine ⟨fitsAll rfl, ?_⟩
              refine ⟨[(.str wVotes, formV 61)], ?_⟩
              refine ⟨rfl, ?_⟩
              refine atS ((((((((((mkS 105 0 (pSlots L k [(6, .p (.int .i64 k)), (8, .p (encS W))]) [(2, pzObj), (17, psF st)] [] []).put (some 39) (.ptr 17 0)).enter 13 (argTmps [.ptr 17 0])).put (some 2) (.p .nilm)).kill 1003).put (some 3) (.mapr 1003)).put (some 4) (.ptr 17 0)).put (some 5) (formV 61))).wMaps [(1003, [(.str wVotes, formV 61)])]) (by kernel_rfl) ?_
              refine ⟨[], ?_⟩
              refine ⟨[.str], by kernel_rfl, ?_⟩
              refine ⟨rfl, ?_⟩
              refine ⟨fitsAll rfl, ?_⟩
              refine ⟨[(.str wVotes, formV 61), (.str wGroup, formV 62)], ?_⟩
              refine ⟨by kernel_rfl, ?_⟩
              refine atS ((((((((((((mkS 105 0 (pSlots L k [(6, .p (.int .i64 k)), (8, .p (encS W))]) [(2, pzObj), (17, psF st)] [] []).put (some 39) (.ptr 17 0)).enter 13 (argTmps [.ptr 17 0])).put (some 2) (.p .nilm)).kill 1003).put (some 3) (.mapr 1003)).put (some 4) (.ptr 17 0)).put (some 5) (formV 61)).put (some 6) (.ptr 17 0)).put (some 7) (formV 62))).wMaps [(1003, [(.str wVotes, formV 61), (.str wGroup, formV 62)])]) (by kernel_rfl) ?_
              refine ⟨[], ?_⟩
              refine ⟨[.str], by kernel_rfl, ?_⟩
              refine ⟨rfl, ?_⟩
              refine ⟨fitsAll rfl, ?_⟩
              refine ⟨[(.str wVotes, formV 61), (.str wGroup, formV 62), (.str wAllow, formV 63)], ?_⟩
              refine ⟨by kernel_rfl, ?_⟩
              refine atS ((((((((((((((mkS 105 0 (pSlots L k [(6, .p (.int .i64 k)), (8, .p (encS W))]) [(2, pzObj), (17, psF st)] [] []).put (some 39) (.ptr 17 0)).enter 13 (argTmps [.ptr 17 0])).put (some 2) (.p .nilm)).kill 1003).put (some 3) (.mapr 1003)).put (some 4) (.ptr 17 0)).put (some 5) (formV 61)).put (some 6) (.ptr 17 0)).put (some 7) (formV 62)).put (some 8) (.ptr 17 0)).put (some 9) (formV 63))).wMaps [(1003, [(.str wVotes, formV 61), (.str wGroup, formV 62), (.str wAllow, formV 63)])]) (by kernel_rfl) ?_
              refine ⟨[], ?_⟩
              refine ⟨[.str], by kernel_rfl, ?_⟩
              refine ⟨rfl, ?_⟩
              refine ⟨fitsAll rfl, ?_⟩
              refine ⟨formsL, ?_⟩
              refine ⟨by kernel_rfl, ?_⟩
              refine atS ((((((((((((((((mkS 105 0 (pSlots L k [(6, .p (.int .i64 k)), (8, .p (encS W))]) [(2, pzObj), (17, psF st)] [] []).put (some 39) (.ptr 17 0)).enter 13 (argTmps [.ptr 17 0])).put (some 2) (.p .nilm)).kill 1003).put (some 3) (.mapr 1003)).put (some 4) (.ptr 17 0)).put (some 5) (formV 61)).put (some 6) (.ptr 17 0)).put (some 7) (formV 62)).put (some 8) (.ptr 17 0)).put (some 9) (formV 63)).put (some 10) (.ptr 17 0)).put (some 11) (formV 63))).wMaps [(1003, formsL)]) (by kernel_rfl) ?_
              refine ⟨_, rfl, ?_⟩
              refine atS ((((((mkS 105 0 (pSlots L k [(6, .p (.int .i64 k)), (8, .p (encS W))]) [(2, pzObj), (17, psF st)] [] []).put (some 39) (.ptr 17 0)).kill 1003).wMaps [(1003, formsL)]).put (some 40) (.mapr 1003)).put (some 41) (.p (encS W))) (by kernel_rfl) ?_
              refine ⟨.p (.imp (enc1 W[0])), ?_⟩
              refine ⟨⟨by omega, _, idx_map rfl hW0, rfl, rfl⟩, ?_⟩
              refine ⟨_, rfl, ?_⟩
              refine ⟨.tup [formV 62, .p (.bool true)], ?_⟩
              refine ⟨?_, ?_⟩
              · refine ⟨[.str], by kernel_rfl, rfl, fitsAll rfl, some (formV 62), hres, rfl⟩
              refine ⟨_, rfl, ?_⟩
              refine ⟨_, rfl, ?_⟩
              refine ⟨_, rfl, ?_⟩
              refine ⟨_, rfl, ?_⟩
              refine ⟨_, rfl, ?_⟩
              exact weaken_mk rfl ⟨Weak.refl _, Weak.refl _, Weak.refl _, Weak.refl _, Weak.refl _, Weak.refl _, Weak.refl _, Weak.refl _, Weak.refl _, trivial⟩ ⟨hasO_one rfl, hasO_one rfl, trivial⟩ trivial trivial
            · refine .inl ?_
              refine ⟨Tryz.f31, Tryz.func31, rfl, rfl, rfl, ?_⟩
              refine ⟨[], ?_⟩
              refine ⟨[.str], by kernel_rfl, ?_⟩
              refine ⟨rfl, ?_⟩
              refine ⟨fitsAll rfl, ?_⟩
              refine ⟨[(.str wVotes, formV 61)], ?_⟩
              refine ⟨rfl, ?_⟩
              refine atS (((((((((((mkS 105 0 (pSlots L k [(6, .p (.int .i64 k)), (8, .p (encS W))]) [(2, pzObj), (17, psF st)] [] []).put (some 39) (.ptr 17 0)).put (some 41) (.p (encS W))).enter 13 (argTmps [.ptr 17 0])).put (some 2) (.p .nilm)).kill 1003).put (some 3) (.mapr 1003)).put (some 4) (.ptr 17 0)).put (some 5) (formV 61))).wMaps [(1003, [(.str wVotes, formV 61)])]) (by kernel_rfl) ?_
              refine ⟨[], ?_⟩
              refine ⟨[.str], by kernel_rfl, ?_⟩
              refine ⟨rfl, ?_⟩
              refine ⟨fitsAll rfl, ?_⟩
              refine ⟨[(.str wVotes, formV 61), (.str wGroup, formV 62)], ?_⟩
              refine ⟨by kernel_rfl, ?_⟩
              refine atS (((((((((((((mkS 105 0 (pSlots L k [(6, .p (.int .i64 k)), (8, .p (encS W))]) [(2, pzObj), (17, psF st)] [] []).put (some 39) (.ptr 17 0)).put (some 41) (.p (encS W))).enter 13 (argTmps [.ptr 17 0])).put (some 2) (.p .nilm)).kill 1003).put (some 3) (.mapr 1003)).put (some 4) (.ptr 17 0)).put (some 5) (formV 61)).put (some 6) (.ptr 17 0)).put (some 7) (formV 62))).wMaps [(1003, [(.str wVotes, formV 61), (.str wGroup, formV 62)])]) (by kernel_rfl) ?_
              refine ⟨[], ?_⟩
              refine ⟨[.str], by kernel_rfl, ?_⟩
              refine ⟨rfl, ?_⟩
              refine ⟨fitsAll rfl, ?_⟩
              refine ⟨[(.str wVotes, formV 61), (.str wGroup, formV 62), (.str wAllow, formV 63)], ?_⟩
              refine ⟨by kernel_rfl, ?_⟩
              refine atS (((((((((((((((mkS 105 0 (pSlots L k [(6, .p (.int .i64 k)), (8, .p (encS W))]) [(2, pzObj), (17, psF st)] [] []).put (some 39) (.ptr 17 0)).put (some 41) (.p (encS W))).enter 13 (argTmps [.ptr 17 0])).put (some 2) (.p .nilm)).kill 1003).put (some 3) (.mapr 1003)).put (some 4) (.ptr 17 0)).put (some 5) (formV 61)).put (some 6) (.ptr 17 0)).put (some 7) (formV 62)).put (some 8) (.ptr 17 0)).put (some 9) (formV 63))).wMaps [(1003, [(.str wVotes, formV 61), (.str wGroup, formV 62), (.str wAllow, formV 63)])]) (by kernel_rfl) ?_
              refine ⟨[], ?_⟩
              refine ⟨[.str], by kernel_rfl, ?_⟩
              refine ⟨rfl, ?_⟩
              refine ⟨fitsAll rfl, ?_⟩
              refine ⟨formsL, ?_⟩
              refine ⟨by kernel_rfl, ?_⟩
              refine atS (((((((((((((((((mkS 105 0 (pSlots L k [(6, .p (.int .i64 k)), (8, .p (encS W))]) [(2, pzObj), (17, psF st)] [] []).put (some 39) (.ptr 17 0)).put (some 41) (.p (encS W))).enter 13 (argTmps [.ptr 17 0])).put (some 2) (.p .nilm)).kill 1003).put (some 3) (.mapr 1003)).put (some 4) (.ptr 17 0)).put (some 5) (formV 61)).put (some 6) (.ptr 17 0)).put (some 7) (formV 62)).put (some 8) (.ptr 17 0)).put (some 9) (formV 63)).put (some 10) (.ptr 17 0)).put (some 11) (formV 63))).wMaps [(1003, formsL)]) (by kernel_rfl) ?_
              refine ⟨.p (.imp (enc1 W[0])), ?_⟩
              refine ⟨⟨by omega, _, idx_map rfl hW0, rfl, rfl⟩, ?_⟩
              refine atS (((((((mkS 105 0 (pSlots L k [(6, .p (.int .i64 k)), (8, .p (encS W))]) [(2, pzObj), (17, psF st)] [] []).put (some 39) (.ptr 17 0)).put (some 41) (.p (encS W))).kill 1003).wMaps [(1003, formsL)]).put (some 40) (.mapr 1003)).put (some 42) (.p (.imp (enc1 W[0])))) (by kernel_rfl) ?_
              refine ⟨_, rfl, ?_⟩
              refine ⟨.tup [formV 62, .p (.bool true)], ?_⟩
              refine ⟨?_, ?_⟩
              · refine ⟨[.str], by kernel_rfl, rfl, fitsAll rfl, some (formV 62), hres, rfl⟩
              refine ⟨_, rfl, ?_⟩
              refine ⟨_, rfl, ?_⟩
              refine ⟨_, rfl, ?_⟩
              refine ⟨_, rfl, ?_⟩
              refine ⟨_, rfl, ?_⟩
              exact weaken_mk rfl ⟨Weak.refl _, Weak.refl _, Weak.refl _, Weak.refl _, Weak.refl _, Weak.refl _, Weak.refl _, Weak.refl _, Weak.refl _, trivial⟩ ⟨hasO_one rfl, hasO_one rfl, trivial⟩ trivial trivial
            · refine .inl ?_
              refine ⟨Tryz.f31, Tryz.func31, rfl, rfl, rfl, ?_⟩
              refine ⟨[], ?_⟩
              refine ⟨[.str], by kernel_rfl, ?_⟩
              refine ⟨rfl, ?_⟩
              refine ⟨fitsAll rfl, ?_⟩
              refine ⟨[(.str wVotes, formV 61)], ?_⟩
              refine ⟨rfl, ?_⟩
              refine atS ((((((((((((mkS 105 0 (pSlots L k [(6, .p (.int .i64 k)), (8, .p (encS W))]) [(2, pzObj), (17, psF st)] [] []).put (some 39) (.ptr 17 0)).put (some 41) (.p (encS W))).put (some 42) (.p (.imp (enc1 W[0])))).enter 13 (argTmps [.ptr 17 0])).put (some 2) (.p .nilm)).kill 1003).put (some 3) (.mapr 1003)).put (some 4) (.ptr 17 0)).put (some 5) (formV 61))).wMaps [(1003, [(.str wVotes, formV 61)])]) (by kernel_rfl) ?_
              refine ⟨[], ?_⟩
              refine ⟨[.str], by kernel_rfl, ?_⟩
              refine ⟨rfl, ?_⟩
              refine ⟨fitsAll rfl, ?_⟩
              refine ⟨[(.str wVotes, formV 61), (.str wGroup, formV 62)], ?_⟩
              refine ⟨by kernel_rfl, ?_⟩
              refine atS ((((((((((((((mkS 105 0 (pSlots L k [(6, .p (.int .i64 k)), (8, .p (encS W))]) [(2, pzObj), (17, psF st)] [] []).put (some 39) (.ptr 17 0)).put (some 41) (.p (encS W))).put (some 42) (.p (.imp (enc1 W[0])))).enter 13 (argTmps [.ptr 17 0])).put (some 2) (.p .nilm)).kill 1003).put (some 3) (.mapr 1003)).put (some 4) (.ptr 17 0)).put (some 5) (formV 61)).put (some 6) (.ptr 17 0)).put (some 7) (formV 62))).wMaps [(1003, [(.str wVotes, formV 61), (.str wGroup, formV 62)])]) (by kernel_rfl) ?_
              refine ⟨[], ?_⟩
              refine ⟨[.str], by kernel_rfl, ?_⟩
              refine ⟨rfl, ?_⟩
              refine ⟨fitsAll rfl, ?_⟩
              refine ⟨[(.str wVotes, formV 61), (.str wGroup, formV 62), (.str wAllow, formV 63)], ?_⟩
              refine ⟨by kernel_rfl, ?_⟩
              refine atS ((((((((((((((((mkS 105 0 (pSlots L k [(6, .p (.int .i64 k)), (8, .p (encS W))]) [(2, pzObj), (17, psF st)] [] []).put (some 39) (.ptr 17 0)).put (some 41) (.p (encS W))).put (some 42) (.p (.imp (enc1 W[0])))).enter 13 (argTmps [.ptr 17 0])).put (some 2) (.p .nilm)).kill 1003).put (some 3) (.mapr 1003)).put (some 4) (.ptr 17 0)).put (some 5) (formV 61)).put (some 6) (.ptr 17 0)).put (some 7) (formV 62)).put (some 8) (.ptr 17 0)).put (some 9) (formV 63))).wMaps [(1003, [(.str wVotes, formV 61), (.str wGroup, formV 62), (.str wAllow, formV 63)])]) (by kernel_rfl) ?_
              refine ⟨[], ?_⟩
              refine ⟨[.str], by kernel_rfl, ?_⟩
              refine ⟨rfl, ?_⟩
              refine ⟨fitsAll rfl, ?_⟩
              refine ⟨formsL, ?_⟩
              refine ⟨by kernel_rfl, ?_⟩
              refine atS ((((((((((((((((((mkS 105 0 (pSlots L k [(6, .p (.int .i64 k)), (8, .p (encS W))]) [(2, pzObj), (17, psF st)] [] []).put (some 39) (.ptr 17 0)).put (some 41) (.p (encS W))).put (some 42) (.p (.imp (enc1 W[0])))).enter 13 (argTmps [.ptr 17 0])).put (some 2) (.p .nilm)).kill 1003).put (some 3) (.mapr 1003)).put (some 4) (.ptr 17 0)).put (some 5) (formV 61)).put (some 6) (.ptr 17 0)).put (some 7) (formV 62)).put (some 8) (.ptr 17 0)).put (some 9) (formV 63)).put (some 10) (.ptr 17 0)).put (some 11) (formV 63))).wMaps [(1003, formsL)]) (by kernel_rfl) ?_
              refine ⟨_, rfl, ?_⟩
              refine atS ((((((((mkS 105 0 (pSlots L k [(6, .p (.int .i64 k)), (8, .p (encS W))]) [(2, pzObj), (17, psF st)] [] []).put (some 39) (.ptr 17 0)).put (some 41) (.p (encS W))).put (some 42) (.p (.imp (enc1 W[0])))).kill 1003).wMaps [(1003, formsL)]).put (some 40) (.mapr 1003)).put (some 43) (.p (.str W[0]))) (by kernel_rfl) ?_
              refine ⟨.tup [formV 62, .p (.bool true)], ?_⟩
              refine ⟨?_, ?_⟩
              · refine ⟨[.str], by kernel_rfl, rfl, fitsAll rfl, some (formV 62), hres, rfl⟩
              refine ⟨_, rfl, ?_⟩
              refine ⟨_, rfl, ?_⟩
              refine ⟨_, rfl, ?_⟩
              refine ⟨_, rfl, ?_⟩
              refine ⟨_, rfl, ?_⟩
              exact weaken_mk rfl ⟨Weak.refl _, Weak.refl _, Weak.refl _, Weak.refl _, Weak.refl _, Weak.refl _, Weak.refl _, Weak.refl _, Weak.refl _, trivial⟩ ⟨hasO_one rfl, hasO_one rfl, trivial⟩ trivial trivial
            · refine .inl ?_
              refine ⟨Tryz.f31, Tryz.func31, rfl, rfl, rfl, ?_⟩
              refine ⟨[], ?_⟩
              refine ⟨[.str], by kernel_rfl, ?_⟩
              refine ⟨rfl, ?_⟩
              refine ⟨fitsAll rfl, ?_⟩
              refine ⟨[(.str wVotes, formV 61)], ?_⟩
              refine ⟨rfl, ?_⟩
              refine atS (((((((((((((mkS 105 0 (pSlots L k [(6, .p (.int .i64 k)), (8, .p (encS W))]) [(2, pzObj), (17, psF st)] [] []).put (some 39) (.ptr 17 0)).put (some 41) (.p (encS W))).put (some 42) (.p (.imp (enc1 W[0])))).put (some 43) (.p (.str W[0]))).enter 13 (argTmps [.ptr 17 0])).put (some 2) (.p .nilm)).kill 1003).put (some 3) (.mapr 1003)).put (some 4) (.ptr 17 0)).put (some 5) (formV 61))).wMaps [(1003, [(.str wVotes, formV 61)])]) (by kernel_rfl) ?_
              refine ⟨[], ?_⟩
              refine ⟨[.str], by kernel_rfl, ?_⟩
              refine ⟨rfl, ?_⟩
              refine ⟨fitsAll rfl, ?_⟩
              refine ⟨[(.str wVotes, formV 61), (.str wGroup, formV 62)], ?_⟩
              refine ⟨by kernel_rfl, ?_⟩
              refine atS (((((((((((((((mkS 105 0 (pSlots L k [(6, .p (.int .i64 k)), (8, .p (encS W))]) [(2, pzObj), (17, psF st)] [] []).put (some 39) (.ptr 17 0)).put (some 41) (.p (encS W))).put (some 42) (.p (.imp (enc1 W[0])))).put (some 43) (.p (.str W[0]))).enter 13 (argTmps [.ptr 17 0])).put (some 2) (.p .nilm)).kill 1003).put (some 3) (.mapr 1003)).put (some 4) (.ptr 17 0)).put (some 5) (formV 61)).put (some 6) (.ptr 17 0)).put (some 7) (formV 62))).wMaps [(1003, [(.str wVotes, formV 61), (.str wGroup, formV 62)])]) (by kernel_rfl) ?_
              refine ⟨[], ?_⟩
              refine ⟨[.str], by kernel_rfl, ?_⟩
              refine ⟨rfl, ?_⟩
              refine ⟨fitsAll rfl, ?_⟩
              refine ⟨[(.str wVotes, formV 61), (.str wGroup, formV 62), (.str wAllow, formV 63)], ?_⟩
              refine ⟨by kernel_rfl, ?_⟩
              refine atS (((((((((((((((((mkS 105 0 (pSlots L k [(6, .p (.int .i64 k)), (8, .p (encS W))]) [(2, pzObj), (17, psF st)] [] []).put (some 39) (.ptr 17 0)).put (some 41) (.p (encS W))).put (some 42) (.p (.imp (enc1 W[0])))).put (some 43) (.p (.str W[0]))).enter 13 (argTmps [.ptr 17 0])).put (some 2) (.p .nilm)).kill 1003).put (some 3) (.mapr 1003)).put (some 4) (.ptr 17 0)).put (some 5) (formV 61)).put (some 6) (.ptr 17 0)).put (some 7) (formV 62)).put (some 8) (.ptr 17 0)).put (some 9) (formV 63))).wMaps [(1003, [(.str wVotes, formV 61), (.str wGroup, formV 62), (.str wAllow, formV 63)])]) (by kernel_rfl) ?_
              refine ⟨[], ?_⟩
              refine ⟨[.str], by kernel_rfl, ?_⟩
              refine ⟨rfl, ?_⟩
              refine ⟨fitsAll rfl, ?_⟩
              refine ⟨formsL, ?_⟩
              refine ⟨by kernel_rfl, ?_⟩
              refine atS (((((((((((((((((((mkS 105 0 (pSlots L k [(6, .p (.int .i64 k)), (8, .p (encS W))]) [(2, pzObj), (17, psF st)] [] []).put (some 39) (.ptr 17 0)).put (some 41) (.p (encS W))).put (some 42) (.p (.imp (enc1 W[0])))).put (some 43) (.p (.str W[0]))).enter 13 (argTmps [.ptr 17 0])).put (some 2) (.p .nilm)).kill 1003).put (some 3) (.mapr 1003)).put (some 4) (.ptr 17 0)).put (some 5) (formV 61)).put (some 6) (.ptr 17 0)).put (some 7) (formV 62)).put (some 8) (.ptr 17 0)).put (some 9) (formV 63)).put (some 10) (.ptr 17 0)).put (some 11) (formV 63))).wMaps [(1003, formsL)]) (by kernel_rfl) ?_
              refine ⟨.tup [formV 62, .p (.bool true)], ?_⟩
              refine ⟨?_, ?_⟩
              · refine ⟨[.str], by kernel_rfl, rfl, fitsAll rfl, some (formV 62), hres, rfl⟩
              refine ⟨_, rfl, ?_⟩
              refine ⟨_, rfl, ?_⟩
              refine ⟨_, rfl, ?_⟩
              refine ⟨_, rfl, ?_⟩
              refine ⟨_, rfl, ?_⟩
              exact weaken_mk rfl ⟨Weak.refl _, Weak.refl _, Weak.refl _, Weak.refl _, Weak.refl _, Weak.refl _, Weak.refl _, Weak.refl _, Weak.refl _, trivial⟩ ⟨hasO_one rfl, hasO_one rfl, trivial⟩ trivial trivial
            refine al_not ?_
            have hS : stepS st W (k + 1) = groupS st W := by
              unfold stepS
              rw [hn0, if_neg (by rw [hw1]; decide), if_pos hw1]
            refine ⟨_, hw, ?_⟩
            refine .inl ?_
            refine ⟨Tryz.f62, Tryz.func62, rfl, rfl, rfl, ?_⟩
            refine al_dec (fun h2 => ?_) (fun h2 => ?_)
            · have h2 : W.length < 2 := by
                have : ((W.map enc1).length : Int) < 2 := h2
                rw [List.length_map] at this
                omega
              refine al_ne (fun _ => ?_) (fun h => absurd h (by decide))
              refine ⟨_, hw, ?_⟩
              rw [errX 3 st (by rw [hS, groupS, if_pos h2]) (by decide)]
              exact rfl
            have h2 : ¬ W.length < 2 := by
              intro h
              apply h2
              show ((W.map enc1).length : Int) < 2
              rw [List.length_map]
              omega
            have hn1 : nth W 1 = W[1] := nth_eq (by omega)
            obtain ⟨hw1n, hw1l⟩ := hWm _ (List.getElem_mem (show 1 < W.length by omega))
            rw [groupS, if_neg h2, hn1] at hS
            refine ⟨by omega, _, idx_map rfl (show 1 < W.length by omega), rfl, ?_⟩
            refine ⟨_, (cutS_ok W[1] [58] (by omega)).opn, fun r hr => ?_⟩
            subst hr
            rw [(colon_suffix W[1]).1]
            have hdl := (colon_suffix W[1]).2
            refine al_not ?_
            cases hcol : colonF W[1] with
            | false =>
              rw [if_pos hcol] at hS
              refine al_ne (fun _ => ?_) (fun h => absurd h (by decide))
              refine ⟨_, hw, ?_⟩
              rw [errX 3 st hS (by decide)]
              exact rfl
            | true =>
              rw [if_neg (by rw [hcol]; simp)] at hS
              rw [hdl hcol]
              have hdll : (W[1].dropLast).length ≤ 2 ^ 20 := by rw [List.length_dropLast]; omega
              generalize W[1].dropLast = nm at hS hdll ⊢
              refine ⟨_, (isName_ok nm).opn, fun r hr => ?_⟩
              subst hr
              refine al_not ?_
              cases hnm : nameF nm with
              | false =>
                rw [if_pos hnm] at hS
                refine ⟨_, Weaken.refl _, ?_⟩
                refine al_ne (fun _ => ?_) (fun h => absurd h (by decide))
                refine ⟨_, hw, ?_⟩
                rw [errX 5 st hS (by decide)]
                exact rfl
              | true =>
                rw [if_neg (by rw [hnm]; simp)] at hS
                have hgl := hI.gl
                refine ⟨_, (find_ok st.groups nm (by omega)).opn, fun r hr => ?_⟩
                subst hr
                refine al_dec (fun hf => ?_) (fun hf => ?_)
                · have hf : 0 ≤ findG st.groups nm := hf
                  rw [if_pos hf] at hS
                  refine al_ne (fun _ => ?_) (fun h => absurd h (by decide))
                  refine ⟨_, hw, ?_⟩
                  rw [errX 6 st hS (by decide)]
                  exact rfl
                have hf : ¬ 0 ≤ findG st.groups nm := hf
                rw [if_neg hf] at hS
                refine al_dec (fun h100 => ?_) (fun h100 => ?_)
                · have h100 : 100 ≤ st.groups.length := by
                    have : ((st.groups.map encGroup).length : Int) ≥ 100 := h100
                    rw [List.length_map] at this
                    omega
                  rw [if_pos h100] at hS
                  refine al_ne (fun _ => ?_) (fun h => absurd h (by decide))
                  refine ⟨_, hw, ?_⟩
                  rw [errX 4 st hS (by decide)]
                  exact rfl
                have h100 : ¬ 100 ≤ st.groups.length := by
                  intro h
                  apply h100
                  show ((st.groups.map encGroup).length : Int) ≥ 100
                  rw [List.length_map]
                  omega
                rw [if_neg h100] at hS
                have hd2 : ((W.map enc1).take (W.map enc1).length).drop 2 = (W.drop 2).map enc1 := by rw [List.take_length, List.map_drop]
                have h2m : 2 ≤ (W.map enc1).length := by rw [List.length_map]; omega
                have hdlen : (W.drop 2).length ≤ 2 ^ 40 := by rw [List.length_drop]; omega
                refine ⟨2, rfl, h2m, Nat.le_refl _, all_enc1 _, _, hd2, ?_⟩
                refine ⟨_, (checkMembers_ok (W.drop 2) hdlen).opn, fun r hr => ?_⟩
                subst hr
                refine al_ne (fun hm => ?_) (fun hm => ?_)
                · have hm : membersF (W.drop 2) ≠ 0 := hm
                  rw [if_pos hm] at hS
                  refine al_ne (fun _ => ?_) (fun h => absurd h hm)
                  refine ⟨_, hw, ?_⟩
                  rw [errX _ st hS hm]
                  exact rfl
                have hm : membersF (W.drop 2) = 0 := hm
                rw [if_neg (fun h => h hm)] at hS
                refine ⟨.plan ⟨[0], [11], [15], [17]⟩ (.one 1 (.one 2 (.one 3 (.one 4 (.one 5 (.one 6 (.one 7 (.one 8 (.one 9 (.one 10 (.one 0 (.alt 11 (.one 12 (.one 13 (.one 14 (.alt 15 .fin .stop)))) .stop)))))))))))) none, by kernel_rfl, ?_⟩
                refine ⟨_, rfl, ?_⟩
                refine ⟨_, rfl, ?_⟩
                refine ⟨_, rfl, ?_⟩
                refine ⟨_, rfl, ?_⟩
                refine ⟨_, rfl, ?_⟩
                refine ⟨_, rfl, ?_⟩
                refine ⟨_, rfl, ?_⟩
                refine ⟨.p (encS (W.drop 2)), ⟨2, rfl, h2m, Nat.le_refl _, all_enc1 _, _, hd2, rfl⟩, ?_⟩
                refine ⟨_, rfl, ?_⟩
                refine ⟨_, rfl, ?_⟩
                refine ⟨_, rfl, rfl, ?_⟩
                refine ⟨rfl, ?_⟩
                have hall : ∀ zs, zs ∈ st.groups.map encGroup → zs.length = 2 := all_enc (f := encGroup) (n := 2) (fun _ => rfl) _
                refine ⟨hall, all_one rfl, ?_, (st.groups ++ [(⟨nm, W.drop 2⟩ : Group)]).map encGroup, by rw [List.map_append]; rfl, ?_⟩
                · show ((st.groups.map encGroup).length + 1) * 40 ≤ 140737488355328
                  rw [List.length_map]
                  omega
                refine ⟨_, rfl, ?_⟩
                refine ⟨_, rfl, ?_⟩
                refine ⟨_, rfl, ?_⟩
                refine al_ne (fun h => absurd rfl h) (fun _ => ?_)
                refine ⟨_, hw, ?_⟩
                exact roundR (k + 1, { st with groups := st.groups ++ [⟨nm, W.drop 2⟩] }) ⟨hlt, (okX _ hS).1, (okX _ hS).2⟩ (by show L.length - (k + 1) < L.length - k; omega) rfl ⟨Weak.refl _, Weak.refl _, Weak.refl _, Weak.refl _, Weak.refl _, trivial⟩ ⟨hasO_one rfl, hasO_one rfl, trivial⟩
          · refine ⟨.plan ⟨[], [], [1], []⟩ (.one 0 (.alt 1 (.one 2 (.one 3 (.one 4 (.one 5 (.one 6 (.one 7 (.one 8 (.one 9 (.one 10 .fin))))))))) (.alt 2 (.alt 1 (.one 3 (.one 4 (.one 5 (.one 6 (.one 7 (.one 8 (.one 9 (.one 10 .fin)))))))) (.alt 3 (.alt 1 (.one 4 (.one 5 (.one 6 (.one 7 (.one 8 (.one 9 (.one 10 .fin))))))) (.alt 4 (.alt 1 (.one 5 (.one 6 (.one 7 (.one 8 (.one 9 (.one 10 .fin)))))) .stop) .stop)) .stop)) .stop)))
              (some (mkS 105 0 (pSlots L k [(6, .p (.int .i64 k)), (8, .p (encS W)), (9, (formV 63)), (10, .p (.bool true))]) [(2, pzObj), (17, psF st)] [] [])), by kernel_rfl, ⟨_, rfl, ?_, _, rfl, ?_, .p (.imp (enc1 W[0])), ⟨by omega, _, idx_map rfl hW0, rfl, rfl⟩, ?_, _, rfl, ?_⟩, ?_⟩
            · refine .inl ?_
              refine ⟨Tryz.f31, Tryz.func31, rfl, rfl, rfl, ?_⟩
              refine ⟨[], ?_⟩
              refine ⟨[.str], by kernel_rfl, ?_⟩
              refine ⟨rfl, ?_⟩
              refine ⟨fitsAll rfl, ?_⟩
              refine ⟨[(.str wVotes, formV 61)], ?_⟩
              refine ⟨rfl, ?_⟩
              refine atS ((((((((((mkS 105 0 (pSlots L k [(6, .p (.int .i64 k)), (8, .p (encS W))]) [(2, pzObj), (17, psF st)] [] []).put (some 39) (.ptr 17 0)).enter 13 (argTmps [.ptr 17 0])).put (some 2) (.p .nilm)).kill 1003).put (some 3) (.mapr 1003)).put (some 4) (.ptr 17 0)).put (some 5) (formV 61))).wMaps [(1003, [(.str wVotes, formV 61)])]) (by kernel_rfl) ?_
              refine ⟨[], ?_⟩
              refine ⟨[.str], by kernel_rfl, ?_⟩
              refine ⟨rfl, ?_⟩
              refine ⟨fitsAll rfl, ?_⟩
              refine ⟨[(.str wVotes, formV 61), (.str wGroup, formV 62)], ?_⟩
              refine ⟨by kernel_rfl, ?_⟩
              refine atS ((((((((((((mkS 105 0 (pSlots L k [(6, .p (.int .i64 k)), (8, .p (encS W))]) [(2, pzObj), (17, psF st)] [] []).put (some 39) (.ptr 17 0)).enter 13 (argTmps [.ptr 17 0])).put (some 2) (.p .nilm)).kill 1003).put (some 3) (.mapr 1003)).put (some 4) (.ptr 17 0)).put (some 5) (formV 61)).put (some 6) (.ptr 17 0)).put (some 7) (formV 62))).wMaps [(1003, [(.str wVotes, formV 61), (.str wGroup, formV 62)])]) (by kernel_rfl) ?_
              refine ⟨[], ?_⟩
              refine ⟨[.str], by kernel_rfl, ?_⟩
              refine ⟨rfl, ?_⟩
              refine ⟨fitsAll rfl, ?_⟩
              refine ⟨[(.str wVotes, formV 61), (.str wGroup, formV 62), (.str wAllow, formV 63)], ?_⟩
              refine ⟨by kernel_rfl, ?_⟩
              refine atS ((((((((((((((mkS 105 0 (pSlots L k [(6, .p (.int .i64 k)), (8, .p (encS W))]) [(2, pzObj), (17, psF st)] [] []).put (some 39) (.ptr 17 0)).enter 13 (argTmps [.ptr 17 0])).put (some 2) (.p .nilm)).kill 1003).put (some 3) (.mapr 1003)).put (some 4) (.ptr 17 0)).put (some 5) (formV 61)).put (some 6) (.ptr 17 0)).put (some 7) (formV 62)).put (some 8) (.ptr 17 0)).put (some 9) (formV 63))).wMaps [(1003, [(.str wVotes, formV 61), (.str wGroup, formV 62), (.str wAllow, formV 63)])]) (by kernel_rfl) ?_
              refine ⟨[], ?_⟩
              refine ⟨[.str], by kernel_rfl, ?_⟩
              refine ⟨rfl, ?_⟩
              refine ⟨fitsAll rfl, ?_⟩
              refine ⟨formsL, ?_⟩
              refine ⟨by kernel_rfl, ?_⟩
              refine atS ((((((((((((((((mkS 105 0 (pSlots L k [(6, .p (.int .i64 k)), (8, .p (encS W))]) [(2, pzObj), (17, psF st)] [] []).put (some 39) (.ptr 17 0)).enter 13 (argTmps [.ptr 17 0])).put (some 2) (.p .nilm)).kill 1003).put (some 3) (.mapr 1003)).put (some 4) (.ptr 17 0)).put (some 5) (formV 61)).put (some 6) (.ptr 17 0)).put (some 7) (formV 62)).put (some 8) (.ptr 17 0)).put (some 9) (formV 63)).put (some 10) (.ptr 17 0)).put (some 11) (formV 63))).wMaps [(1003, formsL)]) (by kernel_rfl) ?_
              refine ⟨_, rfl, ?_⟩
              refine atS ((((((mkS 105 0 (pSlots L k [(6, .p (.int .i64 k)), (8, .p (encS W))]) [(2, pzObj), (17, psF st)] [] []).put (some 39) (.ptr 17 0)).kill 1003).wMaps [(1003, formsL)]).put (some 40) (.mapr 1003)).put (some 41) (.p (encS W))) (by kernel_rfl) ?_
              refine ⟨.p (.imp (enc1 W[0])), ?_⟩
              refine ⟨⟨by omega, _, idx_map rfl hW0, rfl, rfl⟩, ?_⟩
              refine ⟨_, rfl, ?_⟩
              refine ⟨.tup [formV 63, .p (.bool true)], ?_⟩
              refine ⟨?_, ?_⟩
              · refine ⟨[.str], by kernel_rfl, rfl, fitsAll rfl, some (formV 63), hres, rfl⟩
              refine ⟨_, rfl, ?_⟩
              refine ⟨_, rfl, ?_⟩
              refine ⟨_, rfl, ?_⟩
              refine ⟨_, rfl, ?_⟩
              refine ⟨_, rfl, ?_⟩
              exact weaken_mk rfl ⟨Weak.refl _, Weak.refl _, Weak.refl _, Weak.refl _, Weak.refl _, Weak.refl _, Weak.refl _, Weak.refl _, Weak.refl _, trivial⟩ ⟨hasO_one rfl, hasO_one rfl, trivial⟩ trivial trivial
            · refine .inl ?_
              refine ⟨Tryz.f31, Tryz.func31, rfl, rfl, rfl, ?_⟩
              refine ⟨[], ?_⟩
              refine ⟨[.str], by kernel_rfl, ?_⟩
              refine ⟨rfl, ?_⟩
              refine ⟨fitsAll rfl, ?_⟩
              refine ⟨[(.str wVotes, formV 61)], ?_⟩
              refine ⟨rfl, ?_⟩
              refine atS (((((((((((mkS 105 0 (pSlots L k [(6, .p (.int .i64 k)), (8, .p (encS W))]) [(2, pzObj), (17, psF st)] [] []).put (some 39) (.ptr 17 0)).put (some 41) (.p (encS W))).enter 13 (argTmps [.ptr 17 0])).put (some 2) (.p .nilm)).kill 1003).put (some 3) (.mapr 1003)).put (some 4) (.ptr 17 0)).put (some 5) (formV 61))).wMaps [(1003, [(.str wVotes, formV 61)])]) (by kernel_rfl) ?_
              refine ⟨[], ?_⟩
              refine ⟨[.str], by kernel_rfl, ?_⟩
              refine ⟨rfl, ?_⟩
              refine ⟨fitsAll rfl, ?_⟩
              refine ⟨[(.str wVotes, formV 61), (.str wGroup, formV 62)], ?_⟩
              refine ⟨by kernel_rfl, ?_⟩
              refine atS (((((((((((((mkS 105 0 (pSlots L k [(6, .p (.int .i64 k)), (8, .p (encS W))]) [(2, pzObj), (17, psF st)] [] []).put (some 39) (.ptr 17 0)).put (some 41) (.p (encS W))).enter 13 (argTmps [.ptr 17 0])).put (some 2) (.p .nilm)).kill 1003).put (some 3) (.mapr 1003)).put (some 4) (.ptr 17 0)).put (some 5) (formV 61)).put (some 6) (.ptr 17 0)).put (some 7) (formV 62))).wMaps [(1003, [(.str wVotes, formV 61), (.str wGroup, formV 62)])]) (by kernel_rfl) ?_
              refine ⟨[], ?_⟩
              refine ⟨[.str], by kernel_rfl, ?_⟩
              refine ⟨rfl, ?_⟩
              refine ⟨fitsAll rfl, ?_⟩
              refine ⟨[(.str wVotes, formV 61), (.str wGroup, formV 62), (.str wAllow, formV 63)], ?_⟩
              refine ⟨by kernel_rfl, ?_⟩
              refine atS (((((((((((((((mkS 105 0 (pSlots L k [(6, .p (.int .i64 k)), (8, .p (encS W))]) [(2, pzObj), (17, psF st)] [] []).put (some 39) (.ptr 17 0)).put (some 41) (.p (encS W))).enter 13 (argTmps [.ptr 17 0])).put (some 2) (.p .nilm)).kill 1003).put (some 3) (.mapr 1003)).put (some 4) (.ptr 17 0)).put (some 5) (formV 61)).put (some 6) (.ptr 17 0)).put (some 7) (formV 62)).put (some 8) (.ptr 17 0)).put (some 9) (formV 63))).wMaps [(1003, [(.str wVotes, formV 61), (.str wGroup, formV 62), (.str wAllow, formV 63)])]) (by kernel_rfl) ?_
              refine ⟨[], ?_⟩
              refine ⟨[.str], by kernel_rfl, ?_⟩
              refine ⟨rfl, ?_⟩
              refine ⟨fitsAll rfl, ?_⟩
              refine ⟨formsL, ?_⟩
              refine ⟨by kernel_rfl, ?_⟩
              refine atS (((((((((((((((((mkS 105 0 (pSlots L k [(6, .p (.int .i64 k)), (8, .p (encS W))]) [(2, pzObj), (17, psF st)] [] []).put (some 39) (.ptr 17 0)).put (some 41) (.p (encS W))).enter 13 (argTmps [.ptr 17 0])).put (some 2) (.p .nilm)).kill 1003).put (some 3) (.mapr 1003)).put (some 4) (.ptr 17 0)).put (some 5) (formV 61)).put (some 6) (.ptr 17 0)).put (some 7) (formV 62)).put (some 8) (.ptr 17 0)).put (some 9) (formV 63)).put (some 10) (.ptr 17 0)).put (some 11) (formV 63))).wMaps [(1003, formsL)]) (by kernel_rfl) ?_
              refine ⟨.p (.imp (enc1 W[0])), ?_⟩
              refine ⟨⟨by omega, _, idx_map rfl hW0, rfl, rfl⟩, ?_⟩
              refine atS (((((((mkS 105 0 (pSlots L k [(6, .p (.int .i64 k)), (8, .p (encS W))]) [(2, pzObj), (17, psF st)] [] []).put (some 39) (.ptr 17 0)).put (some 41) (.p (encS W))).kill 1003).wMaps [(1003, formsL)]).put (some 40) (.mapr 1003)).put (some 42) (.p (.imp (enc1 W[0])))) (by kernel_rfl) ?_
              refine ⟨_, rfl, ?_⟩
              refine ⟨.tup [formV 63, .p (.bool true)], ?_⟩
              refine ⟨?_, ?_⟩
              · refine ⟨[.str], by kernel_rfl, rfl, fitsAll rfl, some (formV 63), hres, rfl⟩
              refine ⟨_, rfl, ?_⟩
              refine ⟨_, rfl, ?_⟩
              refine ⟨_, rfl, ?_⟩
              refine ⟨_, rfl, ?_⟩
              refine ⟨_, rfl, ?_⟩
              exact weaken_mk rfl ⟨Weak.refl _, Weak.refl _, Weak.refl _, Weak.refl _, Weak.refl _, Weak.refl _, Weak.refl _, Weak.refl _, Weak.refl _, trivial⟩ ⟨hasO_one rfl, hasO_one rfl, trivial⟩ trivial trivial
            · refine .inl ?_
              refine ⟨Tryz.f31, Tryz.func31, rfl, rfl, rfl, ?_⟩
              refine ⟨[], ?_⟩
              refine ⟨[.str], by kernel_rfl, ?_⟩
              refine ⟨rfl, ?_⟩
              refine ⟨fitsAll rfl, ?_⟩
              refine ⟨[(.str wVotes, formV 61)], ?_⟩
              refine ⟨rfl, ?_⟩
              refine atS ((((((((((((mkS 105 0 (pSlots L k [(6, .p (.int .i64 k)), (8, .p (encS W))]) [(2, pzObj), (17, psF st)] [] []).put (some 39) (.ptr 17 0)).put (some 41) (.p (encS W))).put (some 42) (.p (.imp (enc1 W[0])))).enter 13 (argTmps [.ptr 17 0])).put (some 2) (.p .nilm)).kill 1003).put (some 3) (.mapr 1003)).put (some 4) (.ptr 17 0)).put (some 5) (formV 61))).wMaps [(1003, [(.str wVotes, formV 61)])]) (by kernel_rfl) ?_
              refine ⟨[], ?_⟩
              refine ⟨[.str], by kernel_rfl, ?_⟩
              refine ⟨rfl, ?_⟩
              refine ⟨fitsAll rfl, ?_⟩
              refine ⟨[(.str wVotes, formV 61), (.str wGroup, formV 62)], ?_⟩
              refine ⟨by kernel_rfl, ?_⟩
              refine atS ((((((((((((((mkS 105 0 (pSlots L k [(6, .p (.int .i64 k)), (8, .p (encS W))]) [(2, pzObj), (17, psF st)] [] []).put (some 39) (.ptr 17 0)).put (some 41) (.p (encS W))).put (some 42) (.p (.imp (enc1 W[0])))).enter 13 (argTmps [.ptr 17 0])).put (some 2) (.p .nilm)).kill 1003).put (some 3) (.mapr 1003)).put (some 4) (.ptr 17 0)).put (some 5) (formV 61)).put (some 6) (.ptr 17 0)).put (some 7) (formV 62))).wMaps [(1003, [(.str wVotes, formV 61), (.str wGroup, formV 62)])]) (by kernel_rfl) ?_
              refine ⟨[], ?_⟩
              refine ⟨[.str], by kernel_rfl, ?_⟩
              refine ⟨rfl, ?_⟩
              refine ⟨fitsAll rfl, ?_⟩
              refine ⟨[(.str wVotes, formV 61), (.str wGroup, formV 62), (.str wAllow, formV 63)], ?_⟩
              refine ⟨by kernel_rfl, ?_⟩
              refine atS ((((((((((((((((mkS 105 0 (pSlots L k [(6, .p (.int .i64 k)), (8, .p (encS W))]) [(2, pzObj), (17, psF st)] [] []).put (some 39) (.ptr 17 0)).put (some 41) (.p (encS W))).put (some 42) (.p (.imp (enc1 W[0])))).enter 13 (argTmps [.ptr 17 0])).put (some 2) (.p .nilm)).kill 1003).put (some 3) (.mapr 1003)).put (some 4) (.ptr 17 0)).put (some 5) (formV 61)).put (some 6) (.ptr 17 0)).put (some 7) (formV 62)).put (some 8) (.ptr 17 0)).put (some 9) (formV 63))).wMaps [(1003, [(.str wVotes, formV 61), (.str wGroup, formV 62), (.str wAllow, formV 63)])]) (by kernel_rfl) ?_
              refine ⟨[], ?_⟩
              refine ⟨[.str], by kernel_rfl, ?_⟩
              refine ⟨rfl, ?_⟩
              refine ⟨fitsAll rfl, ?_⟩
              refine ⟨formsL, ?_⟩
              refine ⟨by kernel_rfl, ?_⟩
              refine atS ((((((((((((((((((mkS 105 0 (pSlots L k [(6, .p (.int .i64 k)), (8, .p (encS W))]) [(2, pzObj), (17, psF st)] [] []).put (some 39) (.ptr 17 0)).put (some 41) (.p (encS W))).put (some 42) (.p (.imp (enc1 W[0])))).enter 13 (argTmps [.ptr 17 0])).put (some 2) (.p .nilm)).kill 1003).put (some 3) (.mapr 1003)).put (some 4) (.ptr 17 0)).put (some 5) (formV 61)).put (some 6) (.ptr 17 0)).put (some 7) (formV 62)).put (some 8) (.ptr 17 0)).put (some 9) (formV 63)).put (some 10) (.ptr 17 0)).put (some 11) (formV 63))).wMaps [(1003, formsL)]) (by kernel_rfl) ?_
              refine ⟨_, rfl, ?_⟩
              refine atS ((((((((mkS 105 0 (pSlots L k [(6, .p (.int .i64 k)), (8, .p (encS W))]) [(2, pzObj), (17, psF st)] [] []).put (some 39) (.ptr 17 0)).put (some 41) (.p (encS W))).put (some 42) (.p (.imp (enc1 W[0])))).kill 1003).wMaps [(1003, formsL)]).put (some 40) (.mapr 1003)).put (some 43) (.p (.str W[0]))) (by kernel_rfl) ?_
              refine ⟨.tup [formV 63, .p (.bool true)], ?_⟩
              refine ⟨?_, ?_⟩
              · refine ⟨[.str], by kernel_rfl, rfl, fitsAll rfl, some (formV 63), hres, rfl⟩
              refine ⟨_, rfl, ?_⟩
              refine ⟨_, rfl, ?_⟩
              refine ⟨_, rfl, ?_⟩
              refine ⟨_, rfl, ?_⟩
              refine ⟨_, rfl, ?_⟩
              exact weaken_mk rfl ⟨Weak.refl _, Weak.refl _, Weak.refl _, Weak.refl _, Weak.refl _, Weak.refl _, Weak.refl _, Weak.refl _, Weak.refl _, trivial⟩ ⟨hasO_one rfl, hasO_one rfl, trivial⟩ trivial trivial
            · refine .inl ?_
              refine ⟨Tryz.f31, Tryz.func31, rfl, rfl, rfl, ?_⟩
              refine ⟨[], ?_⟩
              refine ⟨[.str], by kernel_rfl, ?_⟩
              refine ⟨rfl, ?_⟩
              refine ⟨fitsAll rfl, ?_⟩
              refine ⟨[(.str wVotes, formV 61)], ?_⟩
              refine ⟨rfl, ?_⟩
              refine atS (((((((((((((mkS 105 0 (pSlots L k [(6, .p (.int .i64 k)), (8, .p (encS W))]) [(2, pzObj), (17, psF st)] [] []).put (some 39) (.ptr 17 0)).put (some 41) (.p (encS W))).put (some 42) (.p (.imp (enc1 W[0])))).put (some 43) (.p (.str W[0]))).enter 13 (argTmps [.ptr 17 0])).put (some 2) (.p .nilm)).kill 1003).put (some 3) (.mapr 1003)).put (some 4) (.ptr 17 0)).put (some 5) (formV 61))).wMaps [(1003, [(.str wVotes, formV 61)])]) (by kernel_rfl) ?_
              refine ⟨[], ?_⟩
              refine ⟨[.str], by kernel_rfl, ?_⟩
              refine ⟨rfl, ?_⟩
              refine ⟨fitsAll rfl, ?_⟩
              refine ⟨[(.str wVotes, formV 61), (.str wGroup, formV 62)], ?_⟩
              refine ⟨by kernel_rfl, ?_⟩
              refine atS (((((((((((((((mkS 105 0 (pSlots L k [(6, .p (.int .i64 k)), (8, .p (encS W))]) [(2, pzObj), (17, psF st)] [] []).put (some 39) (.ptr 17 0)).put (some 41) (.p (encS W))).put (some 42) (.p (.imp (enc1 W[0])))).put (some 43) (.p (.str W[0]))).enter 13 (argTmps [.ptr 17 0])).put (some 2) (.p .nilm)).kill 1003).put (some 3) (.mapr 1003)).put (some 4) (.ptr 17 0)).put (some 5) (formV 61)).put (some 6) (.ptr 17 0)).put (some 7) (formV 62))).wMaps [(1003, [(.str wVotes, formV 61), (.str wGroup, formV 62)])]) (by kernel_rfl) ?_
              refine ⟨[], ?_⟩
              refine ⟨[.str], by kernel_rfl, ?_⟩
              refine ⟨rfl, ?_⟩
              refine ⟨fitsAll rfl, ?_⟩
              refine ⟨[(.str wVotes, formV 61), (.str wGroup, formV 62), (.str wAllow, formV 63)], ?_⟩
              refine ⟨by kernel_rfl, ?_⟩
              refine atS (((((((((((((((((mkS 105 0 (pSlots L k [(6, .p (.int .i64 k)), (8, .p (encS W))]) [(2, pzObj), (17, psF st)] [] []).put (some 39) (.ptr 17 0)).put (some 41) (.p (encS W))).put (some 42) (.p (.imp (enc1 W[0])))).put (some 43) (.p (.str W[0]))).enter 13 (argTmps [.ptr 17 0])).put (some 2) (.p .nilm)).kill 1003).put (some 3) (.mapr 1003)).put (some 4) (.ptr 17 0)).put (some 5) (formV 61)).put (some 6) (.ptr 17 0)).put (some 7) (formV 62)).put (some 8) (.ptr 17 0)).put (some 9) (formV 63))).wMaps [(1003, [(.str wVotes, formV 61), (.str wGroup, formV 62), (.str wAllow, formV 63)])]) (by kernel_rfl) ?_
              refine ⟨[], ?_⟩
              refine ⟨[.str], by kernel_rfl, ?_⟩
              refine ⟨rfl, ?_⟩
              refine ⟨fitsAll rfl, ?_⟩
              refine ⟨formsL, ?_⟩
              refine ⟨by kernel_rfl, ?_⟩
              refine atS (((((((((((((((((((mkS 105 0 (pSlots L k [(6, .p (.int .i64 k)), (8, .p (encS W))]) [(2, pzObj), (17, psF st)] [] []).put (some 39) (.ptr 17 0)).put (some 41) (.p (encS W))).put (some 42) (.p (.imp (enc1 W[0])))).put (some 43) (.p (.str W[0]))).enter 13 (argTmps [.ptr 17 0])).put (some 2) (.p .nilm)).kill 1003).put (some 3) (.mapr 1003)).put (some 4) (.ptr 17 0)).put (some 5) (formV 61)).put (some 6) (.ptr 17 0)).put (some 7) (formV 62)).put (some 8) (.ptr 17 0)).put (some 9) (formV 63)).put (some 10) (.ptr 17 0)).put (some 11) (formV 63))).wMaps [(1003, formsL)]) (by kernel_rfl) ?_
              refine ⟨.tup [formV 63, .p (.bool true)], ?_⟩
              refine ⟨?_, ?_⟩
              · refine ⟨[.str], by kernel_rfl, rfl, fitsAll rfl, some (formV 63), hres, rfl⟩
              refine ⟨_, rfl, ?_⟩
              refine ⟨_, rfl, ?_⟩
              refine ⟨_, rfl, ?_⟩
              refine ⟨_, rfl, ?_⟩
              refine ⟨_, rfl, ?_⟩
              exact weaken_mk rfl ⟨Weak.refl _, Weak.refl _, Weak.refl _, Weak.refl _, Weak.refl _, Weak.refl _, Weak.refl _, Weak.refl _, Weak.refl _, trivial⟩ ⟨hasO_one rfl, hasO_one rfl, trivial⟩ trivial trivial
            refine al_not ?_
            have hS : stepS st W (k + 1) = ruleS st W (k + 1) := by
              unfold stepS
              rw [hn0, if_neg (by rcases hw1 with h | h <;> rw [h] <;> decide), if_neg (by rcases hw1 with h | h <;> rw [h] <;> decide), if_pos hw1]
            refine ⟨_, hw, ?_⟩
            refine .inl ?_
            refine ⟨Tryz.f63, Tryz.func63, rfl, rfl, rfl, ?_⟩
            refine al_ne (fun h5 => ?_) (fun h5 => ?_)
            · have h5 : W.length ≠ 5 := by
                intro e
                apply h5
                show ((W.map enc1).length : Int) = 5
                rw [List.length_map, e]
                rfl
              rw [ruleS, if_pos h5] at hS
              refine al_ne (fun _ => ?_) (fun h => absurd h (by decide))
              refine ⟨_, hw, ?_⟩
              rw [errX 3 st hS (by decide)]
              exact rfl
            have h5 : W.length = 5 := by
              have : ((W.map enc1).length : Int) = 5 := h5
              rw [List.length_map] at this
              omega
            rw [ruleS, if_neg (fun h => h h5)] at hS
            have hrl := hI.rl
            have hll := hI.ll
            refine al_dec (fun h100 => ?_) (fun h100 => ?_)
            · have h100 : 100 ≤ st.rules.length := by
                have : ((st.rules.map encRule).length : Int) ≥ 100 := h100
                rw [List.length_map] at this
                omega
              rw [if_pos h100] at hS
              refine al_ne (fun _ => ?_) (fun h => absurd h (by decide))
              refine ⟨_, hw, ?_⟩
              rw [errX 4 st hS (by decide)]
              exact rfl
            have h100 : ¬ 100 ≤ st.rules.length := by
              intro h
              apply h100
              show ((st.rules.map encRule).length : Int) ≥ 100
              rw [List.length_map]
              omega
            rw [if_neg h100] at hS
            have hn1 : nth W 1 = W[1] := nth_eq (by omega)
            have hn2 : nth W 2 = W[2] := nth_eq (by omega)
            have hn3 : nth W 3 = W[3] := nth_eq (by omega)
            have hn4 : nth W 4 = W[4] := nth_eq (by omega)
            have hl3 := (hWm _ (List.getElem_mem (show 3 < W.length by omega))).2
            have hl4 := (hWm _ (List.getElem_mem (show 4 < W.length by omega))).2
            have hro : ruleOf W = ⟨W[0] == wAllow, W[1], kindF W[2], W[3], W[4]⟩ := by
              unfold ruleOf
              rw [hn0, hn1, hn2, hn3, hn4]
            rw [hn1, hn2, hn3, hn4] at hS
            obtain ⟨K2, hK2⟩ : ∃ K, kindF W[2] = K := ⟨_, rfl⟩
            rw [hK2] at hS hro
            have hk4 : K2 ≤ 4 := hK2 ▸ kindF_le W[2]
            refine ⟨.plan ⟨[0, 1, 2, 3, 4, 5, 6, 7, 8, 9, 10, 11, 12, 13], [14, 15], [], [1004]⟩ (.one 0 (.one 1 (.one 2 (.one 3 (.one 4 (.one 5 (.one 6 (.one 7 (.one 8 (.one 9 (.one 10 (.one 11 (.one 12 (.one 13 (.alt 14 (.alt 15 .fin .stop) .stop))))))))))))))) none, by kernel_rfl, ?_⟩
            refine ⟨_, rfl, rfl, ?_⟩
            refine ⟨.p (.imp (enc1 W[0])), ⟨by omega, _, idx_map rfl (show 0 < W.length by omega), rfl, rfl⟩, rfl, ?_⟩
            refine ⟨_, rfl, rfl, ?_⟩
            refine ⟨.p (.bool (W[0] == wAllow)), ⟨fun t ht => by rw [ht]; rfl⟩, rfl, ?_⟩
            refine ⟨_, rfl, rfl, ?_⟩
            refine ⟨.p (.imp (enc1 W[1])), ⟨by omega, _, idx_map rfl (show 1 < W.length by omega), rfl, rfl⟩, rfl, ?_⟩
            refine ⟨_, rfl, rfl, ?_⟩
            refine ⟨_, rfl, rfl, ?_⟩
            refine ⟨.p (.imp (enc1 W[3])), ⟨by omega, _, idx_map rfl (show 3 < W.length by omega), rfl, rfl⟩, rfl, ?_⟩
            refine ⟨_, rfl, rfl, ?_⟩
            refine ⟨_, rfl, rfl, ?_⟩
            refine ⟨.p (.imp (enc1 W[4])), ⟨by omega, _, idx_map rfl (show 4 < W.length by omega), rfl, rfl⟩, rfl, ?_⟩
            refine ⟨_, rfl, rfl, ?_⟩
            refine ⟨_, rfl, rfl, ?_⟩
            refine ⟨rfl, ?_⟩
            refine ⟨rfl, ?_⟩
            refine ⟨_, (isWho_ok W[1]).opn, fun r hr => ?_⟩
            subst hr
            refine al_not ?_
            cases hwho : isWhoF W[1] with
            | false =>
              rw [if_pos hwho] at hS
              refine ⟨_, Weaken.refl _, ?_⟩
              refine al_ne (fun _ => ?_) (fun h => absurd h (by decide))
              refine ⟨_, hw, ?_⟩
              rw [errX 5 st hS (by decide)]
              exact rfl
            | true =>
              rw [if_neg (by rw [hwho]; simp)] at hS
              refine ⟨_, rights_ok.opn, fun r hr => ?_⟩
              subst hr
              refine ⟨_, (mapsAll_ok rKeys rWords).opn, fun r hr => ?_⟩
              subst hr
              refine ⟨_, rfl, rfl, rfl, rfl, ?_⟩
              refine loopW 17 2000 (fun _ : List Nat × Int × Option (AV × AV) => [(0, .yld 1000000), (6, .itr 2006)]) (fun x => [(1004, [.p (encS W)]), (1007, [.p (.bool (W[0] == wAllow)), .p (.str W[1]), .p (.int .i64 x.2.1), .p (.str W[3]), .p (.str W[4])]), (2, pzObj), (17, psF st)])
                (fun _ => [(90, 1000, [(0, .ptr 17 0), (2, .p (.int .i64 ((k + 1 : Nat) : Int))), (4, .ptr 1004 0), (7, .ptr 1007 0)]), (105, 0, pSlots L k [(6, .p (.int .i64 k))])]) [.ready] (fun _ => []) (fun _ => []) (fun x => [(2006, (x.2.2, rgA x.1))])
                (fun x => x.1.Nodup ∧ (∀ j, j ∈ x.1 → 1 ≤ j ∧ j ≤ 4) ∧ x.2.1 = if K2 ∈ x.1 then (0 : Int) else (K2 : Int)) (fun x => x.1.length) ([1, 2, 3, 4], 0, none)
                ⟨by decide, by decide, by
                  show (0 : Int) = if K2 ∈ [1, 2, 3, 4] then (0 : Int) else (K2 : Int)
                  split
                  · rfl
                  · rename_i h
                    simp only [List.mem_cons, List.not_mem_nil, or_false] at h
                    omega⟩ rfl ⟨Weak.refl _, Weak.refl _, trivial⟩ ⟨hasO_one rfl, hasO_one rfl, hasO_one rfl, hasO_one rfl, trivial⟩ ⟨rfl, ⟨Weak.refl _, Weak.refl _, Weak.refl _, Weak.refl _, trivial⟩, rfl, ⟨Weak.refl _, Weak.refl _, Weak.refl _, Weak.refl _, Weak.refl _, Weak.refl _, trivial⟩, trivial⟩ trivial trivial ⟨rfl, trivial⟩ ?_
              rintro ⟨rest, rt, cur⟩ ⟨r1, r2, r3⟩
              have r1 : rest.Nodup := r1
              have r2 : ∀ j, j ∈ rest → 1 ≤ j ∧ j ≤ 4 := r2
              have r3 : rt = if K2 ∈ rest then (0 : Int) else (K2 : Int) := r3
              refine ⟨fun hr => ?_, fun A p B hAB => ?_⟩
              · have hr : rest = [] := by cases rest with | nil => rfl | cons _ _ => cases hr
                rw [hr, if_neg (by simp)] at r3
                subst r3
                refine al_eq (fun h0 => ?_) (fun h0 => ?_)
                · have h0 : K2 = 0 := by
                    have : (K2 : Int) = 0 := h0
                    omega
                  rw [if_pos h0] at hS
                  refine al_ne (fun _ => ?_) (fun h => absurd h (by decide))
                  refine ⟨_, hw, ?_⟩
                  rw [errX 8 st hS (by decide)]
                  exact rfl
                have h0 : ¬ K2 = 0 := fun e => h0 (show (K2 : Int) = 0 by omega)
                rw [if_neg h0] at hS
                have hd3 : ((W.map enc1).take (W.map enc1).length).drop 3 = (W.drop 3).map enc1 := by rw [List.take_length, List.map_drop]
                have hlen3 : (W.drop 3).length = 2 := by rw [List.length_drop, h5]
                refine ⟨3, rfl, by rw [List.length_map]; omega, Nat.le_refl _, all_enc1 _, _, hd3, ?_⟩
                refine loopW 90 1000 (fun j : Nat => [(0, .ptr 17 0), (2, .p (.int .i64 ((k + 1 : Nat) : Int))), (7, .ptr 1007 0), (56, .p (encS (W.drop 3))), (57, .p (.int .i64 ((W.drop 3).map enc1).length)), (58, .p (.int .i64 j))]) (fun _ => [(1007, [.p (.bool (W[0] == wAllow)), .p (.str W[1]), .p (.int .i64 (K2)), .p (.str W[3]), .p (.str W[4])]), (2, pzObj), (17, psF st)])
                  (fun _ => [(105, 0, pSlots L k [(6, .p (.int .i64 k))])]) [] (fun _ => []) (fun _ => []) (fun _ => [])
                  (fun j => j ≤ 2 ∧ (1 ≤ j → checkGlobF W[3] = 0) ∧ (2 ≤ j → checkGlobF W[4] = 0)) (fun j => 2 - j) 0 ⟨by omega, fun h => absurd h (by omega), fun h => absurd h (by omega)⟩ rfl ⟨Weak.refl _, Weak.refl _, Weak.refl _, Weak.refl _, Weak.refl _, Weak.refl _, trivial⟩ ⟨hasO_one rfl, hasO_one rfl, hasO_one rfl, trivial⟩ ⟨rfl, ⟨Weak.refl _, Weak.refl _, Weak.refl _, Weak.refl _, Weak.refl _, Weak.refl _, trivial⟩, trivial⟩ trivial trivial trivial ?_
                rintro j ⟨j2, j3, j4⟩
                refine al_lt (fun hj => ?_) (fun hj => ?_)
                · have hj : j < (W.drop 3).length := hj
                  have hwj : IntKind.i64.wrap ((j : Int) + 1) = ((j + 1 : Nat) : Int) := by rw [wrap64 (by omega) (by omega)]; omega
                  have hgj : (W.drop 3)[j] = if j = 0 then W[3] else W[4] := by
                    rw [List.getElem_drop]
                    have : j = 0 ∨ j = 1 := by omega
                    rcases this with rfl | rfl <;> rfl
                  have hglj : ((W.drop 3)[j]).length ≤ 2 ^ 20 := by rw [hgj]; split <;> assumption
                  refine ⟨by omega, _, idx_map rfl hj, rfl, ?_⟩
                  refine ⟨_, (checkGlob_ok (W.drop 3)[j] (by omega)).opn, fun r hr => ?_⟩
                  subst hr
                  rw [hgj]
                  refine al_ne (fun hg => ?_) (fun hg => ?_)
                  · have hg : checkGlobF (if j = 0 then W[3] else W[4]) ≠ 0 := hg
                    have hS' : stepS st W (k + 1) = (checkGlobF (if j = 0 then W[3] else W[4]), st) := by
                      by_cases hj0 : j = 0
                      · rw [if_pos hj0] at hg ⊢
                        rw [hS, if_pos hg]
                      · rw [if_neg hj0] at hg ⊢
                        rw [hS, if_neg (fun h => h (j3 (by omega))), if_pos hg]
                    refine al_ne (fun _ => ?_) (fun h => absurd h hg)
                    refine ⟨_, hw, ?_⟩
                    rw [errX _ st hS' hg]
                    exact rfl
                  · have hg : checkGlobF (if j = 0 then W[3] else W[4]) = 0 := hg
                    refine ⟨_, hwj, ?_⟩
                    refine roundW (j + 1) ⟨by omega, fun h => ?_, fun h => ?_⟩ (by omega) rfl ⟨Weak.refl _, Weak.refl _, Weak.refl _, Weak.refl _, Weak.refl _, Weak.refl _, trivial⟩ ⟨hasO_one rfl, hasO_one rfl, hasO_one rfl, trivial⟩ ⟨rfl, ⟨Weak.refl _, Weak.refl _, Weak.refl _, Weak.refl _, Weak.refl _, Weak.refl _, trivial⟩, trivial⟩ trivial trivial trivial
                    · by_cases hj0 : j = 0
                      · rw [if_pos hj0] at hg; exact hg
                      · exact j3 (by omega)
                    · have hj1 : ¬ j = 0 := by omega
                      rw [if_neg hj1] at hg
                      exact hg
                · have hj : j = 2 := by
                    have : ¬ j < (W.drop 3).length := hj
                    omega
                  rw [if_neg (fun h => h (j3 (by omega))), if_neg (fun h => h (j4 (by omega)))] at hS
                  refine ⟨.plan ⟨[0], [8], [12], [17]⟩ (.one 1 (.one 2 (.one 3 (.one 4 (.one 5 (.one 6 (.one 7 (.one 0 (.alt 8 (.one 9 (.one 10 (.one 11 (.alt 12 .fin .stop)))) .stop))))))))) none, by kernel_rfl, ?_⟩
                  refine ⟨_, rfl, ?_⟩
                  refine ⟨_, rfl, ?_⟩
                  refine ⟨_, rfl, ?_⟩
                  refine ⟨_, rfl, ?_⟩
                  refine ⟨_, rfl, ?_⟩
                  refine ⟨_, rfl, ?_⟩
                  refine ⟨_, rfl, ?_⟩
                  refine ⟨_, rfl, rfl, ?_⟩
                  refine ⟨rfl, ?_⟩
                  have hall : ∀ zs, zs ∈ st.rules.map encRule → zs.length = 5 := all_enc (f := encRule) (n := 5) (fun _ => rfl) _
                  refine ⟨hall, all_one rfl, ?_, (st.rules ++ [ruleOf W]).map encRule, by rw [List.map_append, hro]; rfl, ?_⟩
                  · show ((st.rules.map encRule).length + 1) * 64 ≤ 140737488355328
                    rw [List.length_map]
                    omega
                  refine ⟨_, rfl, ?_⟩
                  refine ⟨_, rfl, ?_⟩
                  refine ⟨_, rfl, ?_⟩
                  refine ⟨all_enc1 _, all_one rfl, ?_, (st.lines ++ [k + 1]).map (fun (n : Nat) => [AV.int .i64 (n : Int)]), by rw [List.map_append]; rfl, ?_⟩
                  · show ((st.lines.map (fun (n : Nat) => [AV.int .i64 (n : Int)])).length + 1) * 8 ≤ 140737488355328
                    rw [List.length_map]
                    omega
                  refine al_ne (fun h => absurd rfl h) (fun _ => ?_)
                  refine ⟨_, hw, ?_⟩
                  exact roundR (k + 1, { st with rules := st.rules ++ [ruleOf W], lines := st.lines ++ [k + 1] }) ⟨hlt, (okX _ hS).1, (okX _ hS).2⟩ (by show L.length - (k + 1) < L.length - k; omega) rfl ⟨Weak.refl _, Weak.refl _, Weak.refl _, Weak.refl _, Weak.refl _, trivial⟩ ⟨hasO_one rfl, hasO_one rfl, trivial⟩
              · obtain ⟨l1, i, l2, rfl, rfl, rfl, rfl⟩ := next_rg hAB
                obtain ⟨i1, i4⟩ := r2 i (by simp)
                have hnd : i ∉ l1 ++ l2 ∧ (l1 ++ l2).Nodup := by
                  have := List.perm_middle.nodup_iff.1 r1
                  rw [List.nodup_cons] at this
                  exact this
                have hmem : ∀ j, j ∈ l1 ++ l2 → 1 ≤ j ∧ j ≤ 4 := fun j hj => r2 j (by
                  simp only [List.mem_append, List.mem_cons] at hj ⊢
                  rcases hj with h | h
                  · exact .inl h
                  · exact .inr (.inr h))
                refine ⟨rfl, ?_⟩
                refine ⟨by omega, _, idx_map rfl (show 2 < W.length by omega), rfl, ?_⟩
                refine al_eq (fun he => ?_) (fun he => ?_)
                · have he : K2 = i := hK2.symm.trans ((kind_right i1 i4).1 he)
                  refine al_not ?_
                  refine roundW (l1 ++ l2, (i : Int), some (.int .i64 (i : Int), .str (rightW i))) ⟨hnd.2, hmem, by rw [he]; exact (if_neg hnd.1).symm⟩ (by show (l1 ++ l2).length < (l1 ++ i :: l2).length; simp) rfl ⟨Weak.refl _, Weak.refl _, trivial⟩ ⟨hasO_one rfl, hasO_one rfl, hasO_one rfl, hasO_one rfl, trivial⟩ ⟨rfl, ⟨Weak.refl _, Weak.refl _, Weak.refl _, Weak.refl _, trivial⟩, rfl, ⟨Weak.refl _, Weak.refl _, Weak.refl _, Weak.refl _, Weak.refl _, Weak.refl _, trivial⟩, trivial⟩ trivial trivial ⟨hasI_eq (x0 := (some (.int .i64 (i : Int), .str (rightW i)), rgA l1 ++ rgA l2)) rfl (by rw [rgA_append]), trivial⟩
                · have he : K2 ≠ i := fun h => he ((kind_right i1 i4).2 (hK2.trans h))
                  refine al_not ?_
                  refine roundW (l1 ++ l2, rt, some (.int .i64 (i : Int), .str (rightW i))) ⟨hnd.2, hmem, ?_⟩ (by show (l1 ++ l2).length < (l1 ++ i :: l2).length; simp) rfl ⟨Weak.refl _, Weak.refl _, trivial⟩ ⟨hasO_one rfl, hasO_one rfl, hasO_one rfl, hasO_one rfl, trivial⟩ ⟨rfl, ⟨Weak.refl _, Weak.refl _, Weak.refl _, Weak.refl _, trivial⟩, rfl, ⟨Weak.refl _, Weak.refl _, Weak.refl _, Weak.refl _, Weak.refl _, Weak.refl _, trivial⟩, trivial⟩ trivial trivial ⟨hasI_eq (x0 := (some (.int .i64 (i : Int), .str (rightW i)), rgA l1 ++ rgA l2)) rfl (by rw [rgA_append]), trivial⟩
                  show rt = if K2 ∈ l1 ++ l2 then (0 : Int) else (K2 : Int)
                  rw [r3]
                  have : K2 ∈ l1 ++ i :: l2 ↔ K2 ∈ l1 ++ l2 := by simp [he]
                  by_cases hm : K2 ∈ l1 ++ l2
                  · rw [if_pos hm, if_pos (this.2 hm)]
                  · rw [if_neg hm, if_neg (fun h => hm (this.1 h))]
  · have hge : k = L.length := by
      have : ¬ k < L.length := hge
      omega
    rw [hge, List.drop_length] at hX
    have hX : X = .inr st := hX.symm
    rw [hX]
    clear hX hLl hLm
    have hrl := hI.rl
    have hll := hI.ll
    refine loopR 105 (fun j : Nat => [(2, .ptr 2 0), (5, .ptr 17 0), (68, .p (.sl (st.rules.map encRule))), (69, .p (.int .i64 (st.rules.map encRule).length)), (70, .p (.int .i64 j))]) (fun _ => [(2, pzObj), (17, psF st)]) (fun j => j ≤ st.rules.length ∧ ∀ i r, i < j → st.rules[i]? = some r → lateE st.groups r = false) (fun j => st.rules.length - j) 0
      ⟨Nat.zero_le _, fun i r h => absurd h (by omega)⟩ rfl ⟨Weak.refl _, Weak.refl _, Weak.tip_p _ _ _ _, Weak.refl _, Weak.refl _, trivial⟩ ⟨hasO_one rfl, hasO_one rfl, trivial⟩ ?_
    rintro j ⟨hj, hall⟩
    refine al_lt (fun hlt => ?_) (fun hge2 => ?_)
    · have hlt : j < st.rules.length := hlt
      have hwj : IntKind.i64.wrap ((j : Int) + 1) = ((j + 1 : Nat) : Int) := by rw [wrap64 (by omega) (by omega)]; omega
      have step : lateE st.groups st.rules[j] = false → ∀ i r, i < j + 1 → st.rules[i]? = some r → lateE st.groups r = false := fun h i r hi hr => by
        by_cases hij : i = j
        · subst hij
          rw [List.getElem?_eq_getElem hlt] at hr
          rw [← Option.some.inj hr]
          exact h
        · exact hall i r (by omega) hr
      refine ⟨by omega, _, idx_map (f := encRule) rfl hlt, rfl, ?_⟩
      refine ⟨_, (group_ok st.rules[j].who).opn, fun r hr => ?_⟩
      subst hr
      refine ⟨none, ?_⟩
      cases hg : isGrp st.rules[j].who with
      | false =>
        refine ⟨_, hwj, roundR (j + 1) ⟨hlt, step (by simp only [lateE, hg, Bool.false_and])⟩ (by omega) rfl ⟨Weak.refl _, Weak.refl _, Weak.refl _, Weak.refl _, Weak.refl _, trivial⟩ ⟨hasO_one rfl, hasO_one rfl, trivial⟩⟩
      | true =>
        rw [grp_name hg]
        have hgl := hI.gl
        refine ⟨_, (find_ok st.groups (st.rules[j].who.drop 1) (by omega)).opn, fun r hr => ?_⟩
        subst hr
        refine al_dec (fun hf => ?_) (fun hf => ?_)
        · have hf : findG st.groups (st.rules[j].who.drop 1) < 0 := hf
          have hlate : lateE st.groups st.rules[j] = true := by simp only [lateE, hg, Bool.true_and, decide_eq_true hf]
          have hidx : st.rules.findIdx? (lateE st.groups) = some j := by
            rw [List.findIdx?_eq_some_iff_getElem]
            refine ⟨hlt, hlate, fun i hi => ?_⟩
            rw [hall i st.rules[i] hi (List.getElem?_eq_getElem (by omega))]
            simp
          have hjl : j < st.lines.length := by omega
          have hend : endS st = (emptyA, st.lines[j], 7) := by
            unfold endS
            rw [hidx]
            simp only [List.getElem?_eq_getElem hjl, Option.getD_some]
          refine ⟨.plan ⟨[1, 2, 3, 4, 5, 6, 7], [8], [], [17, 1087]⟩ (.one 0 (.one 1 (.one 2 (.one 3 (.one 4 (.one 5 (.one 6 (.one 7 (.alt 8 (.one 9 (.one 10 .fin)) .stop))))))))) none, by kernel_rfl, ?_⟩
          refine ⟨_, rfl, ?_⟩
          refine ⟨_, rfl, rfl, ?_⟩
          refine ⟨_, rfl, rfl, ?_⟩
          refine ⟨_, rfl, rfl, ?_⟩
          refine ⟨_, rfl, rfl, ?_⟩
          refine ⟨_, rfl, rfl, ?_⟩
          refine ⟨.p (.imp [.int .i64 ((st.lines[j] : Nat) : Int)]), ⟨by omega, _, idx_map (f := fun (n : Nat) => [AV.int .i64 (n : Int)]) rfl hjl, rfl, rfl⟩, rfl, ?_⟩
          refine ⟨_, rfl, rfl, ?_⟩
          refine ⟨rfl, ?_⟩
          refine ⟨_, rfl, ?_⟩
          refine ⟨_, rfl, ?_⟩
          show Ret.val _ = .val (encRes (endS st))
          rw [hend]
          rfl
        · have hf : ¬ findG st.groups (st.rules[j].who.drop 1) < 0 := hf
          refine ⟨_, hwj, roundR (j + 1) ⟨hlt, step (by simp only [lateE, hg, Bool.true_and, decide_eq_false hf])⟩ (by omega) rfl ⟨Weak.refl _, Weak.refl _, Weak.refl _, Weak.refl _, Weak.refl _, trivial⟩ ⟨hasO_one rfl, hasO_one rfl, trivial⟩⟩
    · have hidx : st.rules.findIdx? (lateE st.groups) = none := by
        rw [List.findIdx?_eq_none_iff]
        intro r hr
        obtain ⟨i, hi⟩ := List.getElem?_of_mem hr
        have : ¬ j < st.rules.length := hge2
        exact hall i r (by have := (List.getElem?_eq_some_iff.1 hi).1; omega) hi
      have hend : endS st = (st.pol, 0, 0) := by
        unfold endS
        rw [hidx]
      show Ret.val _ = .val (encRes (endS st))
      rw [hend]
      rfl
end Qv

