/- Contracts: the reader of the reference. No condition. -/
import Derived.Test.YtikckhebddimoaaGreatDoorTE
set_option linter.unusedVariables false
set_option linter.unusedSimpArgs false
open Go Go.Proofs Go.RowKit
namespace Qv
def encLn (l : List Nat) : AV := .sl (l.map fun (n : Nat) => [AV.int .i64 (n : Int)])
def encPS (st : PS) : List AV := [encGroups st.groups, .sl (st.rules.map encRule), .int .i64 st.votes, .bool st.voted, encLn st.lines]
def encStep (x : Int × PS) : AV := .tup [.agg (encPS x.2), .int .i64 x.1]
theorem refVotes_ok (st : PS) (W : List Bytes) (hW : ∀ w, w ∈ W → w.length ≤ 2 ^ 30) : CallsTo C 67 [.agg (encPS st), encS W] (fun r => r = .val (encStep (votesS st W))) := by
  refine callsTo_of_evO ⟨[], [], false, [], [], []⟩ [] Tryz.func67 rfl rfl rfl ?_
  refine al_ne (fun h2 => ?_) (fun h2 => ?_)
  · have h2 : W.length ≠ 2 := by
      intro e
      apply h2
      show ((W.map enc1).length : Int) = 2
      rw [List.length_map, e]
      rfl
    rw [votesS, if_pos h2]
    exact rfl
  have h2 : W.length = 2 := by
    have : ((W.map enc1).length : Int) = 2 := h2
    rw [List.length_map] at this
    omega
  have hn1 : nth W 1 = W[1] := nth_eq (by omega)
  rw [votesS, if_neg (fun h => h h2), hn1]
  refine ⟨by omega, _, idx_map rfl (show 1 < W.length by omega), rfl, ?_⟩
  refine ⟨_, (refNumber_ok W[1] (hW _ (List.getElem_mem _))).opn, ?_⟩
  rintro r ⟨n, rfl, hn⟩
  refine al_not ?_
  cases hok : numOK W[1] with
  | false =>
    rw [if_pos rfl]
    exact rfl
  | true =>
    have hn := hn hok
    rw [if_neg (by simp)]
    obtain ⟨gs, rs, vt, vd, ln⟩ := st
    cases vd with
    | true => exact rfl
    | false =>
      rw [if_neg (by simp)]
      refine al_dec (fun hg => ?_) (fun hg => ?_)
      · have hg : n > 100 := hg
        rw [if_pos (by omega)]
        exact rfl
      · have hg : ¬ n > 100 := hg
        have hv : n = (numV W[1] : Int) := by omega
        rw [if_neg (by omega), hv]
        exact rfl
theorem refGroupL_ok (st : PS) (W : List Bytes) (hWl : W.length ≤ 2 ^ 30) (hW : ∀ w, w ∈ W → w ≠ [] ∧ w.length ≤ 2 ^ 30) (hg : st.groups.length ≤ 100) : CallsTo C 68 [.agg (encPS st), encS W] (fun r => r = .val (encStep (groupS st W))) := by
  refine callsTo_of_evO ⟨[], [], false, [], [], []⟩ [] Tryz.func68 rfl rfl rfl ?_
  by_cases h2 : W.length < 2
  · rw [groupS, if_pos h2]
    refine ⟨.lex 15, by kernel_rfl, ?_⟩
    refine ⟨_, rfl, ?_⟩
    refine ⟨_, rfl, ?_⟩
    refine ⟨.p (.bool true), ⟨fun t ht => by rw [ht, decide_eq_true (show ((W.map enc1).length : Int) < 2 by rw [List.length_map]; omega)]⟩, ?_⟩
    refine ⟨_, rfl, ?_⟩
    refine ⟨_, rfl, ?_⟩
    exact rfl
  have hn1 : nth W 1 = W[1] := nth_eq (by omega)
  obtain ⟨hw1n, hw1l⟩ := hW _ (List.getElem_mem (show 1 < W.length by omega))
  have hl1 : 1 ≤ W[1].length := by
    cases hq : W[1] with
    | nil => exact absurd hq hw1n
    | cons c r => simp
  have hw1 : IntKind.i64.wrap ((W[1].length : Int) - 1) = ((W[1].length - 1 : Nat) : Int) := by rw [wrap64 (by omega) (by omega)]; omega
  obtain ⟨c, hc⟩ : ∃ c, W[1][W[1].length - 1]? = some c := ⟨_, List.getElem?_eq_getElem (l := W[1]) (i := W[1].length - 1) (by omega)⟩
  have hcol : colonF W[1] = decide (c = 58) := by
    unfold colonF
    rw [List.getLast?_eq_getElem?, hc]
    by_cases h : c = 58 <;> simp [h]
  rw [groupS, if_neg h2, hn1]
  by_cases h58 : c = 58
  case neg =>
    rw [if_pos (by rw [hcol, decide_eq_false h58])]
    refine ⟨.lex 15, by kernel_rfl, ?_⟩
    refine ⟨_, rfl, ?_⟩
    refine ⟨_, rfl, ?_⟩
    refine ⟨.p (.bool false), ⟨fun t ht => by rw [ht, decide_eq_false (show ¬ ((W.map enc1).length : Int) < 2 by rw [List.length_map]; omega)]⟩, ?_⟩
    refine ⟨_, rfl, ?_⟩
    refine ⟨_, rfl, ?_⟩
    refine ⟨.p (.imp (enc1 W[1])), ⟨by omega, _, idx_map rfl (show 1 < W.length by omega), rfl, rfl⟩, ?_⟩
    refine ⟨_, rfl, ?_⟩
    refine ⟨_, rfl, ?_⟩
    refine ⟨.p (.imp (enc1 W[1])), ⟨by omega, _, idx_map rfl (show 1 < W.length by omega), rfl, rfl⟩, ?_⟩
    refine ⟨_, rfl, ?_⟩
    refine ⟨_, rfl, ?_⟩
    refine ⟨.p (.int .i64 ((W[1].length - 1 : Nat) : Int)), ⟨_, hw1, rfl⟩, ?_⟩
    refine ⟨.p (.int .u8 c.toNat), ⟨by omega, c, idx_str rfl hc, rfl⟩, ?_⟩
    refine ⟨.p (.bool true), ⟨fun t ht => by
      rw [ht]
      have : ¬ (c.toNat : Int) = 58 := fun e => h58 (u8_eq e)
      simpa using this⟩, ?_⟩
    refine ⟨_, rfl, ?_⟩
    exact rfl
  case pos =>
  rw [if_neg (by rw [hcol, decide_eq_true h58]; simp)]
  refine ⟨.lex 15, by kernel_rfl, ?_⟩
  refine ⟨_, rfl, ?_⟩
  refine ⟨_, rfl, ?_⟩
  refine ⟨.p (.bool false), ⟨fun t ht => by rw [ht, decide_eq_false (show ¬ ((W.map enc1).length : Int) < 2 by rw [List.length_map]; omega)]⟩, ?_⟩
  refine ⟨_, rfl, ?_⟩
  refine ⟨_, rfl, ?_⟩
  refine ⟨.p (.imp (enc1 W[1])), ⟨by omega, _, idx_map rfl (show 1 < W.length by omega), rfl, rfl⟩, ?_⟩
  refine ⟨_, rfl, ?_⟩
  refine ⟨_, rfl, ?_⟩
  refine ⟨.p (.imp (enc1 W[1])), ⟨by omega, _, idx_map rfl (show 1 < W.length by omega), rfl, rfl⟩, ?_⟩
  refine ⟨_, rfl, ?_⟩
  refine ⟨_, rfl, ?_⟩
  refine ⟨.p (.int .i64 ((W[1].length - 1 : Nat) : Int)), ⟨_, hw1, rfl⟩, ?_⟩
  refine ⟨.p (.int .u8 c.toNat), ⟨by omega, c, idx_str rfl hc, rfl⟩, ?_⟩
  refine ⟨.p (.bool false), ⟨fun t ht => by
    rw [ht, h58]
    rfl⟩, ?_⟩
  refine ⟨_, rfl, ?_⟩
  have hd2 : ((W.map enc1).take (W.map enc1).length).drop 2 = (W.drop 2).map enc1 := by rw [List.take_length, List.map_drop]
  have h2m : 2 ≤ (W.map enc1).length := by rw [List.length_map]; omega
  refine ⟨.plan ⟨[0, 1, 2, 3, 4, 5, 6, 7, 8, 9, 10, 11], [12, 13], [], []⟩ (.one 0 (.one 1 (.one 2 (.one 3 (.one 4 (.one 5 (.one 6 (.one 7 (.one 8 (.one 9 (.one 10 (.one 11 (.alt 12 (.alt 13 .fin .stop) .stop))))))))))))) none, by kernel_rfl, ?_⟩
  refine ⟨_, rfl, rfl, ?_⟩
  refine ⟨.p (.imp (enc1 W[1])), ⟨by omega, _, idx_map rfl (show 1 < W.length by omega), rfl, rfl⟩, rfl, ?_⟩
  refine ⟨_, rfl, rfl, ?_⟩
  refine ⟨_, rfl, rfl, ?_⟩
  refine ⟨.p (.imp (enc1 W[1])), ⟨by omega, _, idx_map rfl (show 1 < W.length by omega), rfl, rfl⟩, rfl, ?_⟩
  refine ⟨_, rfl, rfl, ?_⟩
  refine ⟨_, rfl, rfl, ?_⟩
  refine ⟨.p (.int .i64 ((W[1].length - 1 : Nat) : Int)), ⟨_, hw1, rfl⟩, rfl, ?_⟩
  refine ⟨.p (.str W[1].dropLast), ⟨W[1].length - 1, rfl, Nat.zero_le _, Nat.sub_le _ _, _, by rw [List.drop_zero, List.dropLast_eq_take], rfl⟩, rfl, ?_⟩
  refine ⟨_, rfl, rfl, ?_⟩
  refine ⟨.p (encS (W.drop 2)), ⟨2, rfl, h2m, Nat.le_refl _, all_enc1 _, _, hd2, rfl⟩, rfl, ?_⟩
  refine ⟨_, rfl, rfl, ?_⟩
  refine ⟨rfl, ?_⟩
  refine ⟨rfl, ?_⟩
  have hdll : (W[1].dropLast).length ≤ 2 ^ 30 := by rw [List.length_dropLast]; omega
  generalize W[1].dropLast = nm at hdll ⊢
  refine ⟨_, (refName_ok nm (by omega)).opn, fun r hr => ?_⟩
  subst hr
  refine al_not ?_
  cases hnm : nameF nm with
  | false =>
    rw [if_pos rfl]
    exact rfl
  | true =>
    rw [if_neg (by simp)]
    refine ⟨_, (refFind_ok st.groups nm (by omega)).opn, fun r hr => ?_⟩
    subst hr
    refine al_dec (fun hf => ?_) (fun hf => ?_)
    · have hf : 0 ≤ findG st.groups nm := hf
      rw [if_pos hf]
      exact rfl
    have hf : ¬ 0 ≤ findG st.groups nm := hf
    rw [if_neg hf]
    refine al_eq (fun h100 => ?_) (fun h100 => ?_)
    · have h100 : 100 ≤ st.groups.length := by
        have : ((st.groups.map encGroup).length : Int) = 100 := h100
        rw [List.length_map] at this
        omega
      rw [if_pos h100]
      exact rfl
    have h100 : ¬ 100 ≤ st.groups.length := by
      intro h
      apply h100
      show ((st.groups.map encGroup).length : Int) = 100
      rw [List.length_map]
      omega
    rw [if_neg h100]
    refine ⟨_, (refMembers_ok (W.drop 2) (by rw [List.length_drop]; omega) (fun s hs => by have := (hW s (List.mem_of_mem_drop hs)).2; omega)).opn, fun r hr => ?_⟩
    subst hr
    refine al_ne (fun hm => ?_) (fun hm => ?_)
    · have hm : membersF (W.drop 2) ≠ 0 := hm
      rw [if_pos hm]
      exact rfl
    have hm : membersF (W.drop 2) = 0 := hm
    rw [if_neg (fun h => h hm)]
    have hall : ∀ zs, zs ∈ st.groups.map encGroup → zs.length = 2 := all_enc (f := encGroup) (n := 2) (fun _ => rfl) _
    refine ⟨.plan ⟨[5, 6], [4, 7, 10], [], [6]⟩ (.one 0 (.one 1 (.one 2 (.one 3 (.one 5 (.one 6 (.alt 4 (.alt 7 (.one 8 (.one 9 (.alt 10 .fin .stop))) .stop) .stop))))))) none, by kernel_rfl, ?_⟩
    refine ⟨_, rfl, ?_⟩
    refine ⟨_, rfl, ?_⟩
    refine ⟨_, rfl, ?_⟩
    refine ⟨_, rfl, ?_⟩
    refine ⟨_, rfl, rfl, ?_⟩
    refine ⟨_, rfl, rfl, ?_⟩
    refine ⟨rfl, hall, ?_, ?_⟩
    · show (st.groups.map encGroup).length * 40 ≤ 140737488355328
      rw [List.length_map]
      omega
    refine ⟨rfl, hall, all_one rfl, ?_, (st.groups ++ [(⟨nm, W.drop 2⟩ : Group)]).map encGroup, by rw [List.map_append]; rfl, ?_⟩
    · show ((st.groups.map encGroup).length + 1) * 40 ≤ 140737488355328
      rw [List.length_map]
      omega
    refine ⟨_, rfl, ?_⟩
    refine ⟨_, rfl, ?_⟩
    refine ⟨rfl, ?_⟩
    exact rfl
def orderE (w : List Bytes) : Int := if isWhoF (nth w 1) = false then 5 else if kindF (nth w 2) = 0 then 8 else if checkGlobF (nth w 3) ≠ 0 then checkGlobF (nth w 3) else checkGlobF (nth w 4)
def orderS (st : PS) (w : List Bytes) : Int × PS :=
  if w.length ≠ 5 then (3, st) else if 100 ≤ st.rules.length then (4, st) else if orderE w ≠ 0 then (orderE w, st) else (0, { st with rules := st.rules ++ [ruleOf w] })
theorem order_check {gs : List Group} {w : List Bytes} (h : isGrp (nth w 1) = true → ¬ findG gs ((nth w 1).drop 1) < 0) : checkRuleF gs (ruleOf w) = orderE w := by
  unfold checkRuleF orderE ruleOf
  simp only
  by_cases h1 : isWhoF (nth w 1) = false
  · rw [if_pos h1, if_pos h1]
  rw [if_neg h1, if_neg h1, if_neg (fun e => h e.1 e.2)]
  have hk := kindF_le (nth w 2)
  by_cases h2 : kindF (nth w 2) = 0
  · rw [if_pos h2, if_pos (by omega)]
  · rw [if_neg h2, if_neg (by omega)]
theorem refOrder_ok (st : PS) (W : List Bytes) (hW : ∀ w, w ∈ W → w.length ≤ 2 ^ 29) (hg : st.groups.length ≤ 100) (hr : st.rules.length ≤ 100) : CallsTo C 69 [.agg (encPS st), encS W] (fun r => r = .val (encStep (orderS st W))) := by
  refine callsTo_of_evO ⟨[], [], false, [], [], []⟩ [] Tryz.func69 rfl rfl rfl ?_
  refine al_ne (fun h5 => ?_) (fun h5 => ?_)
  · have h5 : W.length ≠ 5 := by
      intro e
      apply h5
      show ((W.map enc1).length : Int) = 5
      rw [List.length_map, e]
      rfl
    rw [orderS, if_pos h5]
    exact rfl
  have h5 : W.length = 5 := by
    have : ((W.map enc1).length : Int) = 5 := h5
    rw [List.length_map] at this
    omega
  rw [orderS, if_neg (fun h => h h5)]
  refine al_eq (fun h100 => ?_) (fun h100 => ?_)
  · have h100 : 100 ≤ st.rules.length := by
      have : ((st.rules.map encRule).length : Int) = 100 := h100
      rw [List.length_map] at this
      omega
    rw [if_pos h100]
    exact rfl
  have h100 : ¬ 100 ≤ st.rules.length := by
    intro h
    apply h100
    show ((st.rules.map encRule).length : Int) = 100
    rw [List.length_map]
    omega
  rw [if_neg h100]
  have hn0 : nth W 0 = W[0] := nth_eq (by omega)
  have hn1 : nth W 1 = W[1] := nth_eq (by omega)
  have hn2 : nth W 2 = W[2] := nth_eq (by omega)
  have hn3 : nth W 3 = W[3] := nth_eq (by omega)
  have hn4 : nth W 4 = W[4] := nth_eq (by omega)
  have hl1 := hW _ (List.getElem_mem (show 1 < W.length by omega))
  have hl3 := hW _ (List.getElem_mem (show 3 < W.length by omega))
  have hl4 := hW _ (List.getElem_mem (show 4 < W.length by omega))
  have hro : ruleOf W = ⟨W[0] == wAllow, W[1], kindF W[2], W[3], W[4]⟩ := by
    unfold ruleOf
    rw [hn0, hn1, hn2, hn3, hn4]
  have hall : ∀ zs, zs ∈ st.rules.map encRule → zs.length = 5 := all_enc (f := encRule) (n := 5) (fun _ => rfl) _
  refine ⟨.plan ⟨[0, 1, 2, 3, 4, 5, 6, 7, 8, 9, 10, 11, 12, 13, 14, 15, 16, 17], [18, 19], [], []⟩ (.one 0 (.one 1 (.one 2 (.one 3 (.one 4 (.one 5 (.one 6 (.one 7 (.one 8 (.one 9 (.one 10 (.one 11 (.one 12 (.one 13 (.one 14 (.one 15 (.one 16 (.one 17 (.alt 18 (.alt 19 .fin .stop) .stop))))))))))))))))))) none, by kernel_rfl, ?_⟩
  refine ⟨_, rfl, rfl, ?_⟩
  refine ⟨.p (.imp (enc1 W[0])), ⟨by omega, _, idx_map rfl (show 0 < W.length by omega), rfl, rfl⟩, rfl, ?_⟩
  refine ⟨_, rfl, rfl, ?_⟩
  refine ⟨.p (.bool (W[0] == wAllow)), ⟨fun t ht => by rw [ht]; rfl⟩, rfl, ?_⟩
  refine ⟨_, rfl, rfl, ?_⟩
  refine ⟨.p (.imp (enc1 W[1])), ⟨by omega, _, idx_map rfl (show 1 < W.length by omega), rfl, rfl⟩, rfl, ?_⟩
  refine ⟨_, rfl, rfl, ?_⟩
  refine ⟨_, rfl, rfl, ?_⟩
  refine ⟨.p (.imp (enc1 W[2])), ⟨by omega, _, idx_map rfl (show 2 < W.length by omega), rfl, rfl⟩, rfl, ?_⟩
  refine ⟨_, rfl, rfl, ?_⟩
  refine ⟨.p (.int .i64 (kindF W[2])), ⟨_, (refKind_ok W[2]).opn, fun r hr => by subst hr; rfl⟩, rfl, ?_⟩
  refine ⟨_, rfl, rfl, ?_⟩
  refine ⟨.p (.imp (enc1 W[3])), ⟨by omega, _, idx_map rfl (show 3 < W.length by omega), rfl, rfl⟩, rfl, ?_⟩
  refine ⟨_, rfl, rfl, ?_⟩
  refine ⟨_, rfl, rfl, ?_⟩
  refine ⟨.p (.imp (enc1 W[4])), ⟨by omega, _, idx_map rfl (show 4 < W.length by omega), rfl, rfl⟩, rfl, ?_⟩
  refine ⟨_, rfl, rfl, ?_⟩
  refine ⟨_, rfl, rfl, ?_⟩
  refine ⟨rfl, ?_⟩
  refine ⟨rfl, ?_⟩
  refine ⟨_, (refGrouped_ok W[1]).opn, fun r hr => ?_⟩
  subst hr
  cases hat : atF W[1] with
  | true =>
    have hl : 1 ≤ W[1].length := by
      cases hx : W[1] with
      | nil => rw [hx] at hat; cases hat
      | cons c r => simp
    refine ⟨1, rfl, hl, Nat.le_refl _, _, take_all W[1] 1, ?_⟩
    refine ⟨_, (refRule_ok [⟨W[1].drop 1, []⟩] ⟨W[0] == wAllow, W[1], kindF W[2], W[3], W[4]⟩ (by simp) (show W[1].length ≤ 2 ^ 50 by omega) (show W[3].length ≤ 2 ^ 29 from hl3) (show W[4].length ≤ 2 ^ 29 from hl4)).opn, fun r hr => ?_⟩
    subst hr
    rw [← hro, order_check (fun _ => by rw [hn1]; simp [findG])]
    refine al_ne (fun hm => ?_) (fun hm => ?_)
    · have hm : orderE W ≠ 0 := hm
      rw [if_pos hm]
      exact rfl
    have hm : orderE W = 0 := hm
    rw [if_neg (fun h => h hm)]
    refine ⟨.plan ⟨[5, 6], [4, 7, 10], [], [6]⟩ (.one 0 (.one 1 (.one 2 (.one 3 (.one 5 (.one 6 (.alt 4 (.alt 7 (.one 8 (.one 9 (.alt 10 .fin .stop))) .stop) .stop))))))) none, by kernel_rfl, ?_⟩
    refine ⟨_, rfl, ?_⟩
    refine ⟨_, rfl, ?_⟩
    refine ⟨_, rfl, ?_⟩
    refine ⟨_, rfl, ?_⟩
    refine ⟨_, rfl, rfl, ?_⟩
    refine ⟨_, rfl, rfl, ?_⟩
    refine ⟨rfl, hall, ?_, ?_⟩
    · show (st.rules.map encRule).length * 64 ≤ 140737488355328
      rw [List.length_map]
      omega
    refine ⟨rfl, hall, all_one rfl, ?_, (st.rules ++ [ruleOf W]).map encRule, by rw [List.map_append, hro]; rfl, ?_⟩
    · show ((st.rules.map encRule).length + 1) * 64 ≤ 140737488355328
      rw [List.length_map]
      omega
    refine ⟨_, rfl, ?_⟩
    refine ⟨_, rfl, ?_⟩
    refine ⟨rfl, ?_⟩
    exact rfl
  | false =>
    refine ⟨_, (refRule_ok st.groups ⟨W[0] == wAllow, W[1], kindF W[2], W[3], W[4]⟩ (by omega) (show W[1].length ≤ 2 ^ 50 by omega) (show W[3].length ≤ 2 ^ 29 from hl3) (show W[4].length ≤ 2 ^ 29 from hl4)).opn, fun r hr => ?_⟩
    subst hr
    rw [← hro, order_check (fun e => by rw [hn1] at e; simp only [isGrp, hat, Bool.false_and] at e; cases e)]
    refine al_ne (fun hm => ?_) (fun hm => ?_)
    · have hm : orderE W ≠ 0 := hm
      rw [if_pos hm]
      exact rfl
    have hm : orderE W = 0 := hm
    rw [if_neg (fun h => h hm)]
    refine ⟨.plan ⟨[5, 6], [4, 7, 10], [], [6]⟩ (.one 0 (.one 1 (.one 2 (.one 3 (.one 5 (.one 6 (.alt 4 (.alt 7 (.one 8 (.one 9 (.alt 10 .fin .stop))) .stop) .stop))))))) none, by kernel_rfl, ?_⟩
    refine ⟨_, rfl, ?_⟩
    refine ⟨_, rfl, ?_⟩
    refine ⟨_, rfl, ?_⟩
    refine ⟨_, rfl, ?_⟩
    refine ⟨_, rfl, rfl, ?_⟩
    refine ⟨_, rfl, rfl, ?_⟩
    refine ⟨rfl, hall, ?_, ?_⟩
    · show (st.rules.map encRule).length * 64 ≤ 140737488355328
      rw [List.length_map]
      omega
    refine ⟨rfl, hall, all_one rfl, ?_, (st.rules ++ [ruleOf W]).map encRule, by rw [List.map_append, hro]; rfl, ?_⟩
    · show ((st.rules.map encRule).length + 1) * 64 ≤ 140737488355328
      rw [List.length_map]
      omega
    refine ⟨_, rfl, ?_⟩
    refine ⟨_, rfl, ?_⟩
    refine ⟨rfl, ?_⟩
    exact rfl
def lineR (st : PS) (w : List Bytes) : Int × PS :=
  if idleF w = true then (0, st) else if nth w 0 = wVotes then votesS st w else if nth w 0 = wGroup then groupS st w else if nth w 0 = wAllow ∨ nth w 0 = wDeny then orderS st w else (3, st)
set_option maxHeartbeats 1000000 in
theorem refLine_ok (st : PS) (W : List Bytes) (hWl : W.length ≤ 2 ^ 29) (hW : ∀ w, w ∈ W → w ≠ [] ∧ w.length ≤ 2 ^ 29) (hg : st.groups.length ≤ 100) (hr : st.rules.length ≤ 100) : CallsTo C 35 [.agg (encPS st), encS W] (fun r => r = .val (encStep (lineR st W))) := by
  refine callsTo_of_evO ⟨[], [], false, [], [], []⟩ [] Tryz.func35 rfl rfl rfl ?_
  refine ⟨none, ?_⟩
  refine al_eq (fun h0 => ?_) (fun h0 => ?_)
  · have h0 : W = [] := by
      have h0 : ((W.map enc1).length : Int) = 0 := h0
      rw [List.length_map] at h0
      exact List.length_eq_zero_iff.1 (by omega)
    rw [lineR, if_pos (by simp [idleF, h0])]
    exact rfl
  have hW0 : 0 < W.length := by
    cases W with
    | nil => exact absurd rfl h0
    | cons _ _ => simp
  obtain ⟨hw0n, hw0l⟩ := hW _ (List.getElem_mem hW0)
  have hn0 : nth W 0 = W[0] := nth_eq hW0
  obtain ⟨c, hc⟩ : ∃ c, (W[0])[0]? = some c := by
    cases hq : W[0] with
    | nil => exact absurd hq hw0n
    | cons c r => exact ⟨c, rfl⟩
  refine ⟨by omega, _, idx_map rfl hW0, rfl, by omega, c, hc, ?_⟩
  refine al_eq (fun h35 => ?_) (fun h35 => ?_)
  · have h35 : c = 35 := u8_eq h35
    have : idleF W = true := by
      have : (nth W 0).head? = some 35 := by rw [hn0, List.head?_eq_getElem?, hc, h35]
      simp [idleF, this]
    rw [lineR, if_pos this]
    exact rfl
  have hno : ¬ idleF W = true := by
    have h1 : W ≠ [] := fun e => by rw [e] at hW0; simp at hW0
    have h2 : (nth W 0).head? ≠ some 35 := by
      rw [hn0, List.head?_eq_getElem?, hc]
      intro e
      exact h35 (by rw [Option.some.inj e]; rfl)
    simp [idleF, h1, h2]
  rw [lineR, if_neg hno, hn0]
  refine ⟨by omega, _, idx_map rfl hW0, rfl, ?_⟩
  refine al_eq (fun h => ?_) (fun h => ?_)
  · have h : W[0] = wVotes := h
    rw [if_pos h]
    refine ⟨_, (refVotes_ok st W (fun w hw => by have := (hW w hw).2; omega)).opn, fun r hr => ?_⟩
    subst hr
    exact rfl
  have h : W[0] ≠ wVotes := h
  rw [if_neg h]
  refine al_eq (fun h => ?_) (fun h => ?_)
  · have h : W[0] = wGroup := h
    rw [if_pos h]
    refine ⟨_, (refGroupL_ok st W (by omega) (fun w hw => ⟨(hW w hw).1, by have := (hW w hw).2; omega⟩) hg).opn, fun r hr => ?_⟩
    subst hr
    exact rfl
  have h : W[0] ≠ wGroup := h
  rw [if_neg h]
  refine al_eq (fun h => ?_) (fun h => ?_)
  · have h : W[0] = wAllow := h
    rw [if_pos (.inl h)]
    refine ⟨_, (refOrder_ok st W (fun w hw => (hW w hw).2) hg hr).opn, fun r hr => ?_⟩
    subst hr
    exact rfl
  have ha : W[0] ≠ wAllow := h
  refine al_eq (fun h => ?_) (fun h => ?_)
  · have h : W[0] = wDeny := h
    rw [if_pos (.inr h)]
    refine ⟨_, (refOrder_ok st W (fun w hw => (hW w hw).2) hg hr).opn, fun r hr => ?_⟩
    subst hr
    exact rfl
  have hd : W[0] ≠ wDeny := h
  rw [if_neg (fun h => h.elim ha hd)]
  exact rfl
theorem ruleS_order (st : PS) (w : List Bytes) (n : Nat) : ruleS st w n = ((orderS st w).1, if (orderS st w).1 = 0 then { st with rules := st.rules ++ [ruleOf w], lines := st.lines ++ [n] } else st) ∧
    (orderS st w).2 = if (orderS st w).1 = 0 then { st with rules := st.rules ++ [ruleOf w] } else st := by
  unfold ruleS orderS
  by_cases h1 : w.length ≠ 5
  · rw [if_pos h1, if_pos h1]; exact ⟨rfl, rfl⟩
  rw [if_neg h1, if_neg h1]
  by_cases h2 : 100 ≤ st.rules.length
  · rw [if_pos h2, if_pos h2]; exact ⟨rfl, rfl⟩
  rw [if_neg h2, if_neg h2]
  unfold orderE
  by_cases h3 : isWhoF (nth w 1) = false
  · rw [if_pos h3, if_pos h3, if_pos (by decide)]; exact ⟨rfl, rfl⟩
  rw [if_neg h3, if_neg h3]
  by_cases h4 : kindF (nth w 2) = 0
  · rw [if_pos h4, if_pos h4, if_pos (by decide)]; exact ⟨rfl, rfl⟩
  rw [if_neg h4, if_neg h4]
  by_cases h5 : checkGlobF (nth w 3) ≠ 0
  · rw [if_pos h5, if_pos h5, if_pos h5]
    exact ⟨by rw [if_neg h5], by rw [if_neg h5]⟩
  rw [if_neg h5, if_neg h5]
  by_cases h6 : checkGlobF (nth w 4) ≠ 0
  · rw [if_pos h6, if_pos h6]
    exact ⟨by rw [if_neg h6], by rw [if_neg h6]⟩
  rw [if_neg h6, if_neg h6]
  exact ⟨rfl, rfl⟩
theorem line_ref (st : PS) (l : Bytes) (n : Nat) : (lineS st l n).1 = (lineR st (wordsF l)).1 ∧
    ((lineS st l n).1 = 0 → (lineS st l n).2 = { (lineR st (wordsF l)).2 with lines := if st.rules.length < (lineR st (wordsF l)).2.rules.length then st.lines ++ [n] else (lineR st (wordsF l)).2.lines }) := by
  unfold lineS lineR
  generalize wordsF l = w
  by_cases h0 : idleF w = true
  · rw [if_pos h0, if_pos h0]
    exact ⟨rfl, fun _ => by rw [if_neg (Nat.lt_irrefl _)]⟩
  rw [if_neg h0, if_neg h0]
  unfold stepS
  by_cases h1 : nth w 0 = wVotes
  · rw [if_pos h1, if_pos h1]
    refine ⟨rfl, fun _ => ?_⟩
    have : (votesS st w).2.rules = st.rules := by
      unfold votesS
      repeat' split
      all_goals rfl
    rw [this, if_neg (Nat.lt_irrefl _)]
  rw [if_neg h1, if_neg h1]
  by_cases h2 : nth w 0 = wGroup
  · rw [if_pos h2, if_pos h2]
    refine ⟨rfl, fun _ => ?_⟩
    have : (groupS st w).2.rules = st.rules := by
      unfold groupS
      repeat' split
      all_goals rfl
    rw [this, if_neg (Nat.lt_irrefl _)]
  rw [if_neg h2, if_neg h2]
  by_cases h3 : nth w 0 = wAllow ∨ nth w 0 = wDeny
  · rw [if_pos h3, if_pos h3]
    obtain ⟨e1, e2⟩ := ruleS_order st w n
    rw [e1]
    refine ⟨rfl, fun h => ?_⟩
    have h : (orderS st w).1 = 0 := h
    show (if (orderS st w).1 = 0 then _ else st) = _
    rw [if_pos h, e2, if_pos h, if_pos (by show st.rules.length < (st.rules ++ [_]).length; simp)]
  · rw [if_neg h3, if_neg h3]
    exact ⟨rfl, fun h => absurd h (show ¬ (3 : Int) = 0 by decide)⟩
theorem late_check {st : PS} {r : Rule} (h1 : isWhoF r.who = true) (h2 : 1 ≤ r.right ∧ r.right ≤ 4) (h3 : checkGlobF r.ref = 0) (h4 : checkGlobF r.path = 0) : checkRuleF st.groups r = if lateE st.groups r = true then 7 else 0 := by
  unfold checkRuleF lateE
  rw [if_neg (by rw [h1]; simp)]
  by_cases h : isGrp r.who = true ∧ findG st.groups (r.who.drop 1) < 0
  · have : (isGrp r.who && decide (findG st.groups (r.who.drop 1) < 0)) = true := by rw [h.1, decide_eq_true h.2]; rfl
    rw [if_pos h, if_pos this]
  · have : ¬ (isGrp r.who && decide (findG st.groups (r.who.drop 1) < 0)) = true := by
      rw [Bool.and_eq_true, decide_eq_true_eq]
      exact h
    rw [if_neg h, if_neg this, if_neg (fun e => e h2), if_neg (fun e => e h3), h4]
set_option maxHeartbeats 4000000 in
theorem refParseA_ok (s : Bytes) (hs : s.length ≤ 2 ^ 20) : CallsTo C 13 [.str s] (fun r => r = .val (encRes (parseA s))) := by
  refine callsTo_of_evO ⟨[], [], false, [], [], []⟩ [7] Tryz.func13 rfl rfl rfl ?_
  refine ⟨_, (refSplitC_ok s 10 (by omega)).opn, fun r hr => ?_⟩
  subst hr
  have hLl := parts_length 10 s
  have hLm := parts_mem 10 s
  unfold parseA
  generalize parts 10 s = L at hLl hLm ⊢
  have hX : linesF (L.drop 0) 0 ps0 = linesF L 0 ps0 := rfl
  generalize linesF L 0 ps0 = X at hX ⊢
  refine loopR 84 (fun x : Nat × PS => [(2, .ptr 2 0), (5, .ptr 5 0), (6, .p (encS L)), (7, .p (.int .i64 x.1))]) (fun x => [(2, pzObj), (5, mapP (encPS x.2))]) (fun x => x.1 ≤ L.length ∧ linesF (L.drop x.1) x.1 x.2 = X ∧ PSInv (2 ^ 21) x.2) (fun x => L.length - x.1) (0, ps0)
    ⟨Nat.zero_le _, hX, PSInv.zero _⟩ rfl ⟨Weak.refl _, Weak.refl _, Weak.refl _, Weak.refl _, trivial⟩ ⟨hasO_one rfl, hasO_five rfl (Weak.full_p _) (Weak.full_p _) (Weak.refl _) (Weak.refl _) (Weak.full_p _), trivial⟩ ?_
  clear hX
  rintro ⟨k, st⟩ ⟨hk, hX, hI⟩
  have hk : k ≤ L.length := hk
  have hX : linesF (L.drop k) k st = X := hX
  have hI : PSInv (2 ^ 21) st := hI
  have hgl := hI.gl
  have hrl := hI.rl
  have hll := hI.ll
  refine al_lt (fun hlt => ?_) (fun hge => ?_)
  · have hlt : k < L.length := hlt
    have hlk := hLm _ (List.getElem_mem hlt)
    have hw : IntKind.i64.wrap ((k : Int) + 1) = ((k + 1 : Nat) : Int) := by rw [wrap64 (by omega) (by omega)]; omega
    rw [List.drop_eq_getElem_cons hlt] at hX
    unfold linesF at hX
    have hI' := lineS_inv (n := k + 1) hI (l := L[k]) (by omega)
    obtain ⟨q1, q2⟩ := line_ref st L[k] (k + 1)
    have hWl := words_len L[k]
    refine ⟨.plan ⟨[0, 1, 2, 3, 4, 5, 6, 7, 8, 9], [10, 11], [], [5]⟩ (.one 0 (.one 1 (.one 2 (.one 3 (.one 4 (.one 5 (.one 6 (.one 7 (.one 8 (.one 9 (.alt 10 (.alt 11 (.one 12 .fin) .stop) .stop))))))))))) none, by kernel_rfl, ?_⟩
    refine ⟨_, rfl, rfl, ?_⟩
    refine ⟨_, rfl, rfl, ?_⟩
    refine ⟨_, rfl, rfl, ?_⟩
    refine ⟨.p (.imp (enc1 L[k])), ⟨by omega, _, idx_map rfl hlt, rfl, rfl⟩, rfl, ?_⟩
    refine ⟨_, rfl, rfl, ?_⟩
    refine ⟨.p (encS (wordsF L[k])), ⟨_, (refWords_ok L[k] (by omega)).opn, fun r hr => by subst hr; rfl⟩, rfl, ?_⟩
    refine ⟨.p (encStep (lineR st (wordsF L[k]))), ⟨_, (refLine_ok st (wordsF L[k]) (by omega) (fun w hw => ⟨(words_mem hw).1, by have := (words_mem hw).2; omega⟩) hgl hrl).opn, fun r hr => by subst hr; rfl⟩, rfl, ?_⟩
    generalize lineR st (wordsF L[k]) = E at q1 q2 ⊢
    obtain ⟨e, st'⟩ := E
    refine ⟨_, rfl, rfl, ?_⟩
    refine ⟨_, rfl, rfl, ?_⟩
    refine ⟨_, rfl, rfl, ?_⟩
    refine ⟨rfl, ?_⟩
    refine ⟨rfl, ?_⟩
    refine ⟨_, rfl, ?_⟩
    have q1 : (lineS st L[k] (k + 1)).1 = e := q1
    refine cutR 84 [(2, .ptr 2 0), (5, .ptr 5 0), (6, .p (encS L)), (7, .p (.int .i64 k)), (8, .ptr 8 0), (9, .p (.int .i64 e))] [(2, pzObj), (5, mapP (encPS st)), (8, mapP (encPS st'))] rfl ⟨Weak.refl _, Weak.refl _, Weak.refl _, Weak.refl _, Weak.refl _, Weak.refl _, trivial⟩ ⟨hasO_one rfl, hasO_one rfl, hasO_one rfl, trivial⟩ ?_
    refine al_ne (fun he => ?_) (fun he => ?_)
    · have he : e ≠ 0 := he
      rw [if_pos (by rw [q1]; exact he), q1] at hX
      refine ⟨_, hw, ?_⟩
      rw [← hX]
      exact rfl
    have he : e = 0 := he
    subst he
    rw [if_neg (fun h => h q1)] at hX
    have q2 := q2 q1
    have q2 : (lineS st L[k] (k + 1)).2 = { st' with lines := if st.rules.length < st'.rules.length then st.lines ++ [k + 1] else st'.lines } := q2
    rw [q2] at hX hI'
    refine al_dec (fun hgt => ?_) (fun hgt => ?_)
    · have hgt : st.rules.length < st'.rules.length := by
        have : ((st'.rules.map encRule).length : Int) > ((st.rules.map encRule).length : Int) := hgt
        rw [List.length_map, List.length_map] at this
        omega
      rw [if_pos hgt] at hX hI'
      have hbnd : (st.lines.map (fun (n : Nat) => [AV.int .i64 (n : Int)])).length ≤ 100 := by rw [List.length_map]; omega
      refine ⟨(fun zs hz => by cases hz), all_enc1 _, ?_, st.lines.map (fun (n : Nat) => [AV.int .i64 (n : Int)]), rfl, ?_⟩
      · show (0 + (st.lines.map (fun (n : Nat) => [AV.int .i64 (n : Int)])).length) * 8 ≤ 140737488355328
        omega
      refine ⟨_, hw, ?_⟩
      refine ⟨all_enc1 _, all_one rfl, ?_, (st.lines ++ [k + 1]).map (fun (n : Nat) => [AV.int .i64 (n : Int)]), by rw [List.map_append]; rfl, ?_⟩
      · show ((st.lines.map (fun (n : Nat) => [AV.int .i64 (n : Int)])).length + 1) * 8 ≤ 140737488355328
        omega
      exact ⟨_, hw, roundR (k + 1, { st' with lines := st.lines ++ [k + 1] }) ⟨hlt, hX, hI'⟩ (by show L.length - (k + 1) < L.length - k; omega) rfl ⟨Weak.refl _, Weak.refl _, Weak.refl _, Weak.refl _, trivial⟩ ⟨hasO_one rfl, hasO_five rfl (Weak.refl _) (Weak.refl _) (Weak.refl _) (Weak.refl _) (Weak.tip_p _ _ _ _), trivial⟩⟩
    · have hgt : ¬ st.rules.length < st'.rules.length := by
        intro h
        apply hgt
        show ((st'.rules.map encRule).length : Int) > ((st.rules.map encRule).length : Int)
        rw [List.length_map, List.length_map]
        omega
      rw [if_neg hgt] at hX hI'
      exact ⟨_, hw, roundR (k + 1, st') ⟨hlt, hX, hI'⟩ (by show L.length - (k + 1) < L.length - k; omega) rfl ⟨Weak.refl _, Weak.refl _, Weak.refl _, Weak.refl _, trivial⟩ ⟨hasO_one rfl, hasO_one rfl, trivial⟩⟩
  · have hge : k = L.length := by
      have : ¬ k < L.length := hge
      omega
    rw [hge, List.drop_length] at hX
    have hX : X = .inr st := hX.symm
    rw [hX]
    clear hX hLl hLm
    have hlen : ((st.lines.map (fun (n : Nat) => [AV.int .i64 (n : Int)])).length : Int) = (st.lines.length : Int) := by simp
    refine loopR 84 (fun j : Nat => [(2, .ptr 2 0), (5, .ptr 5 0), (10, .p (.int .i64 j))]) (fun _ => [(2, pzObj), (5, mapP (encPS st))]) (fun j => j ≤ st.rules.length ∧ ∀ i r, i < j → st.rules[i]? = some r → lateE st.groups r = false) (fun j => st.rules.length - j) 0
      ⟨Nat.zero_le _, fun i r h => absurd h (by omega)⟩ rfl ⟨Weak.refl _, Weak.refl _, Weak.refl _, trivial⟩ ⟨hasO_one rfl, hasO_one rfl, trivial⟩ ?_
    rintro j ⟨hj, hall⟩
    refine al_lt (fun hlt => ?_) (fun hge2 => ?_)
    · have hjl : j < st.lines.length := hlt
      have hlt : j < st.rules.length := by omega
      have hwj : IntKind.i64.wrap ((j : Int) + 1) = ((j + 1 : Nat) : Int) := by rw [wrap64 (by omega) (by omega)]; omega
      obtain ⟨b0, b1, b2⟩ := hI.rsize _ (List.getElem_mem hlt)
      obtain ⟨c1, c2, c3, c4⟩ := hI.rules _ (List.getElem_mem hlt)
      refine ⟨.lex 9, by kernel_rfl, ?_⟩
      refine ⟨_, rfl, ?_⟩
      refine ⟨_, rfl, ?_⟩
      refine ⟨_, rfl, ?_⟩
      refine ⟨_, rfl, ?_⟩
      refine ⟨.p (.imp (encRule st.rules[j])), ⟨by omega, _, idx_map (f := encRule) rfl hlt, rfl, rfl⟩, ?_⟩
      refine ⟨_, rfl, ?_⟩
      refine ⟨_, rfl, ?_⟩
      refine ⟨_, rfl, ?_⟩
      refine ⟨_, rfl, ?_⟩
      refine ⟨_, (refRule_ok st.groups st.rules[j] (by omega) (by omega) (by omega) (by omega)).opn, fun r hr => ?_⟩
      subst hr
      rw [late_check c1 c2 c3 c4]
      cases hla : lateE st.groups st.rules[j] with
      | true =>
        rw [if_pos rfl]
        refine al_ne (fun _ => ?_) (fun h => absurd h (by decide))
        have hidx : st.rules.findIdx? (lateE st.groups) = some j := by
          rw [List.findIdx?_eq_some_iff_getElem]
          refine ⟨hlt, hla, fun i hi => ?_⟩
          rw [hall i st.rules[i] hi (List.getElem?_eq_getElem (by omega))]
          simp
        have hend : endS st = (emptyA, st.lines[j], 7) := by
          unfold endS
          rw [hidx]
          simp only [List.getElem?_eq_getElem hjl, Option.getD_some]
        refine ⟨.plan ⟨[1, 2, 3, 4, 5, 6], [7], [], [5]⟩ (.one 0 (.one 1 (.one 2 (.one 3 (.one 4 (.one 5 (.one 6 (.alt 7 (.one 8 (.one 9 .fin)) .stop)))))))) none, by kernel_rfl, ?_⟩
        refine ⟨_, rfl, ?_⟩
        refine ⟨_, rfl, rfl, ?_⟩
        refine ⟨_, rfl, rfl, ?_⟩
        refine ⟨_, rfl, rfl, ?_⟩
        refine ⟨.p (.imp [.int .i64 ((st.lines[j] : Nat) : Int)]), ⟨by omega, _, idx_map (f := fun (n : Nat) => [AV.int .i64 (n : Int)]) rfl hjl, rfl, rfl⟩, rfl, ?_⟩
        refine ⟨_, rfl, rfl, ?_⟩
        refine ⟨_, rfl, rfl, ?_⟩
        refine ⟨rfl, ?_⟩
        refine ⟨_, rfl, ?_⟩
        refine ⟨_, rfl, ?_⟩
        show Ret.val _ = .val (encRes (endS st))
        rw [hend]
        rfl
      | false =>
        rw [if_neg (by simp)]
        refine al_ne (fun h => absurd rfl h) (fun _ => ?_)
        refine ⟨_, hwj, roundR (j + 1) ⟨hlt, fun i r hi hr => ?_⟩ (by omega) rfl ⟨Weak.refl _, Weak.refl _, Weak.refl _, trivial⟩ ⟨hasO_one rfl, hasO_one rfl, trivial⟩⟩
        by_cases hij : i = j
        · subst hij
          rw [List.getElem?_eq_getElem hlt] at hr
          rw [← Option.some.inj hr]
          exact hla
        · exact hall i r (by omega) hr
    · have hidx : st.rules.findIdx? (lateE st.groups) = none := by
        rw [List.findIdx?_eq_none_iff]
        intro r hr
        obtain ⟨i, hi⟩ := List.getElem?_of_mem hr
        have : ¬ j < st.lines.length := hge2
        exact hall i r (by have := (List.getElem?_eq_some_iff.1 hi).1; omega) hi
      have hend : endS st = (st.pol, 0, 0) := by
        unfold endS
        rw [hidx]
      show Ret.val _ = .val (encRes (endS st))
      rw [hend]
      rfl
end Qv
