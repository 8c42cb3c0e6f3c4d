/- Several texts in one: Contracts: what a policy grants, the program, Contract: access.Allowed, Contracts: what a policy grants, the reference, Contracts: the reference's Allowed. No condition. -/
import Derived.Test.YtikckhebddimoaaGreatDoorNA

section
/- Contracts: what a policy grants, the program. No condition. -/
set_option linter.unusedVariables false
set_option linter.unusedSimpArgs false
open Go Go.Proofs Go.RowKit
namespace Qv
noncomputable def matchB (g p : Bytes) : Bool := @decide (matchP g p) (Classical.propDecidable _)
theorem matchB_of {g p : Bytes} {b : Bool} (h : b = true ↔ matchP g p) : b = matchB g p := by
  unfold matchB
  rw [Bool.eq_iff_iff, h]
  simp
theorem match_ok' (g path : Bytes) (hg : g.length ≤ 2 ^ 29) (hp : path.length ≤ 2 ^ 29) : CallsTo C 79 [.str g, .str path] (fun r => r = .val (.bool (matchB g path))) :=
  (match_ok g path hg hp).mono fun r ⟨b, hr, hb⟩ => by rw [hr, matchB_of hb]
def concernsF (a : Access) (r : Rule) (who : Bytes) : Bool := r.who == [42] || (!isGrp r.who && r.who == who) || (isGrp r.who && memberF a who (grpName r.who))
noncomputable def fitsF (a : Access) (who : Bytes) (right : Int) (branch path : Bytes) (r : Rule) : Bool := r.right == right && concernsF a r who && matchB r.ref branch && matchB r.path path
def encRP (r : Rule) (a : Access) : List AV := encRule r ++ encAccess a
theorem concerns_ok (a : Access) (r : Rule) (who : Bytes) (hf : FineA a) : CallsTo C 78 [.agg (encRP r a), .str who] (fun v => v = .val (.bool (concernsF a r who))) := by
  refine callsTo_of_ev' Tryz.func78 rfl rfl rfl ?_
  refine ⟨_, group_ok r.who, fun v hv => ?_⟩
  subst hv
  refine ⟨none, ?_⟩
  refine al_eq (fun h => ?_) (fun h => ?_)
  · have h1 : (r.who == [42]) = true := by rw [beq_iff_eq]; exact h
    have : concernsF a r who = true := by simp only [concernsF, h1, Bool.true_or]
    rw [this]
    exact rfl
  have h1 : (r.who == [42]) = false := by rw [beq_eq_false_iff_ne]; exact h
  cases hg : isGrp r.who with
  | false =>
    refine al_not ?_
    refine al_eq (fun h2 => ?_) (fun h2 => ?_)
    · have h3 : (r.who == who) = true := by rw [beq_iff_eq]; exact h2
      have : concernsF a r who = true := by simp only [concernsF, h1, hg, h3, Bool.false_or, Bool.not_false, Bool.true_and, Bool.true_or]
      rw [this]
      exact rfl
    · have h3 : (r.who == who) = false := by rw [beq_eq_false_iff_ne]; exact h2
      have : concernsF a r who = false := by simp only [concernsF, h1, hg, h3, Bool.false_or, Bool.not_false, Bool.true_and, Bool.false_and]
      rw [this]
      exact rfl
  | true =>
    refine al_not ?_
    have : concernsF a r who = memberF a who (grpName r.who) := by simp only [concernsF, h1, hg, Bool.false_or, Bool.not_true, Bool.false_and, Bool.true_and]
    rw [this]
    refine ⟨_, member_ok a who (grpName r.who) hf.gl (fun g hgm => (hf.names g hgm).2.1), fun v hv => ?_⟩
    subst hv
    exact rfl
theorem ruleFits_ok (a : Access) (r : Rule) (who : Bytes) (right : Int) (branch path : Bytes) (hf : FineA a) (h1 : r.ref.length ≤ 2 ^ 29) (h2 : r.path.length ≤ 2 ^ 29) (hb : branch.length ≤ 2 ^ 29) (hp : path.length ≤ 2 ^ 29) :
    CallsTo C 44 [.agg (encRP r a), .str who, .int .i64 right, .str branch, .str path] (fun v => v = .val (.bool (fitsF a who right branch path r))) := by
  refine callsTo_of_ev' Tryz.func44 rfl rfl rfl ?_
  refine ⟨none, ?_⟩
  refine al_eq (fun h => ?_) (fun h => ?_)
  · have e1 : (r.right == right) = true := by rw [beq_iff_eq]; exact h
    refine ⟨_, concerns_ok a r who hf, fun v hv => ?_⟩
    subst hv
    unfold fitsF
    rw [e1, Bool.true_and]
    cases hc : concernsF a r who with
    | false => exact rfl
    | true =>
      rw [Bool.true_and]
      refine ⟨_, match_ok' r.ref branch h1 hb, fun v hv => ?_⟩
      subst hv
      cases hm : matchB r.ref branch with
      | false => exact rfl
      | true =>
        rw [Bool.true_and]
        refine ⟨_, match_ok' r.path path h2 hp, fun v hv => ?_⟩
        subst hv
        exact rfl
  · have e1 : (r.right == right) = false := by rw [beq_eq_false_iff_ne]; exact h
    unfold fitsF
    rw [e1, Bool.false_and, Bool.false_and, Bool.false_and]
    exact rfl
def capF (a : Access) (who : Bytes) (right : Int) (branch path : Bytes) : List AV := [.imp (encAccess a), .imp [.str who], .imp [.int .i64 right], .imp [.str branch], .imp [.str path]]
theorem allowed1_ok (a : Access) (r : Rule) (who : Bytes) (right : Int) (branch path : Bytes) (hf : FineA a) (h1 : r.ref.length ≤ 2 ^ 29) (h2 : r.path.length ≤ 2 ^ 29) (hb : branch.length ≤ 2 ^ 29) (hp : path.length ≤ 2 ^ 29) :
    CallsTo C 43 (.agg (encRule r) :: capF a who right branch path) (fun v => v = .val (.bool (fitsF a who right branch path r))) := by
  refine callsTo_of_ev' Tryz.func43 rfl rfl rfl ?_
  refine ⟨_, ruleFits_ok a r who right branch path hf h1 h2 hb hp, fun v hv => ?_⟩
  subst hv
  exact rfl
noncomputable def fitI (a : Access) (who : Bytes) (right : Int) (branch path : Bytes) : Int := match a.rules.findIdx? (fitsF a who right branch path) with
  | some i => i
  | none => -1
theorem indexRule_ok (a : Access) (who : Bytes) (right : Int) (branch path : Bytes) (hf : FineA a) (hb : branch.length ≤ 2 ^ 29) (hp : path.length ≤ 2 ^ 29) :
    CallsTo C 42 [.sl (a.rules.map encRule), .fn (.func 43) [] (capF a who right branch path)] (fun v => v = .val (.int .i64 (fitI a who right branch path))) := by
  refine callsTo_of_ev' Tryz.func42 rfl rfl rfl ?_
  refine loopR 19 (fun k : Nat => [(0, .p (.sl (a.rules.map encRule))), (1, .p (.fn (.func 43) [] (capF a who right branch path))), (7, .p (.int .i64 (a.rules.map encRule).length)), (8, .p (.int .i64 k))]) (fun _ => []) (fun k => k ≤ a.rules.length ∧ ∀ i g, i < k → a.rules[i]? = some g → fitsF a who right branch path g = false) (fun k => a.rules.length - k) 0 ⟨Nat.zero_le _, fun i g h => absurd h (by omega)⟩ rfl ⟨Weak.refl _, Weak.refl _, Weak.refl _, Weak.refl _, trivial⟩ trivial ?_
  rintro k ⟨hk, hall⟩
  have hrl := hf.rl
  refine al_lt (fun hlt => ?_) (fun hge => ?_)
  · obtain ⟨b1, b2, b3⟩ := hf.rules _ (List.getElem_mem hlt)
    refine ⟨by omega, _, idx_map rfl hlt, rfl, ?_⟩
    refine ⟨_, allowed1_ok a a.rules[k] who right branch path hf b2 b3 hb hp, fun r hr => ?_⟩
    subst hr
    cases hq : fitsF a who right branch path a.rules[k] with
    | true =>
      have : fitI a who right branch path = (k : Int) := by
        unfold fitI
        have : a.rules.findIdx? (fitsF a who right branch path) = some k := by
          rw [List.findIdx?_eq_some_iff_getElem]
          refine ⟨hlt, hq, fun j hj => ?_⟩
          rw [hall j a.rules[j] hj (List.getElem?_eq_getElem (by omega))]
          simp
        rw [this]
      rw [this]
      exact rfl
    | false =>
      refine ⟨((k + 1 : Nat) : Int), by rw [wrap64 (by omega) (by omega)]; omega, roundR (k + 1) ⟨hlt, fun i g hi hg => ?_⟩ (by omega) rfl ⟨Weak.refl _, Weak.refl _, Weak.refl _, Weak.refl _, trivial⟩ trivial⟩
      by_cases hik : i = k
      · subst hik
        rw [List.getElem?_eq_getElem hlt] at hg
        obtain rfl := Option.some.inj hg
        exact hq
      · exact hall i g (by omega) hg
  · have : fitI a who right branch path = -1 := by
      unfold fitI
      have : a.rules.findIdx? (fitsF a who right branch path) = none := by
        rw [List.findIdx?_eq_none_iff]
        intro g hg
        obtain ⟨i, hi⟩ := List.getElem?_of_mem hg
        exact hall i g (by have := (List.getElem?_eq_some_iff.1 hi).1; omega) hi
      rw [this]
    rw [this]
    exact rfl
noncomputable def grantF (a : Access) (who : Bytes) (right : Int) (branch path : Bytes) : Bool := match a.rules.find? (fitsF a who right branch path) with
  | some r => r.flag
  | none => false
noncomputable def allowedF (a : Access) (who : Bytes) (right : Int) (branch : Bytes) (paths : List Bytes) : Bool :=
  decide (checkF a = 0) && (if paths = [] then [[]] else paths).all (grantF a who right branch)
end Qv

end

section
/- Contract: access.Allowed. No condition. -/
set_option linter.unusedVariables false
set_option linter.unusedSimpArgs false
open Go Go.Proofs Go.RowKit
namespace Qv
theorem find_idx {α : Type} (p : α → Bool) : ∀ l : List α, l.find? p = (l.findIdx? p).bind (l[·]?)
  | [] => rfl
  | x :: l => by
    rw [List.find?_cons, List.findIdx?_cons]
    cases p x with
    | true => rfl
    | false =>
      simp only
      rw [find_idx p l]
      cases l.findIdx? p <;> simp
theorem grant_some {a : Access} {who : Bytes} {right : Int} {branch path : Bytes} {i : Nat} (h : a.rules.findIdx? (fitsF a who right branch path) = some i) (hi : i < a.rules.length) : grantF a who right branch path = a.rules[i].flag := by
  unfold grantF
  rw [find_idx, h]
  simp only [Option.bind_some, List.getElem?_eq_getElem hi]
theorem grant_none {a : Access} {who : Bytes} {right : Int} {branch path : Bytes} (h : a.rules.findIdx? (fitsF a who right branch path) = none) : grantF a who right branch path = false := by
  unfold grantF
  rw [find_idx, h]
  rfl
abbrev alSlots (a : Access) (who : Bytes) (right : Int) (branch : Bytes) (fz : Bool) (more : List (Nat × FV)) : List (Nat × FV) :=
  (5, if fz then .p (.imp (encAccess a)) else .ptr 5 0) :: (6, if fz then .p (.imp [.str who]) else .ptr 6 0) :: (7, if fz then .p (.imp [.int .i64 right]) else .ptr 7 0) :: (8, if fz then .p (.imp [.str branch]) else .ptr 8 0) :: more
abbrev alObjs (a : Access) (who : Bytes) (right : Int) (branch : Bytes) (fz : Bool) : List (Nat × List FV) :=
  if fz then [] else [(5, mapP (encAccess a)), (6, [.p (.str who)]), (7, [.p (.int .i64 right)]), (8, [.p (.str branch)])]
set_option maxHeartbeats 2000000 in
theorem allowed_ok (a : Access) (who : Bytes) (right : Int) (branch : Bytes) (paths : List Bytes) (hf : FineA a) (hb : branch.length ≤ 2 ^ 29) (hl : paths.length ≤ 2 ^ 40) (hp : ∀ p, p ∈ paths → p.length ≤ 2 ^ 29) :
    CallsTo C 19 [.agg (encAccess a), .str who, .int .i64 right, .str branch, encS paths] (fun v => v = .val (.bool (allowedF a who right branch paths))) := by
  refine callsTo_of_evO ⟨[], [], false, [], [], []⟩ [5] Tryz.func19 rfl rfl rfl ?_
  refine ⟨_, (check_ok a hf).opn, fun v hv => ?_⟩
  subst hv
  unfold allowedF
  refine al_ne (fun h => ?_) (fun h => ?_)
  · have h : checkF a ≠ 0 := h
    rw [decide_eq_false h, Bool.false_and]
    exact rfl
  have h : checkF a = 0 := h
  rw [decide_eq_true h, Bool.true_and]
  obtain ⟨P, hP⟩ : ∃ P, (if paths = [] then [[]] else paths) = P := ⟨_, rfl⟩
  have hPl : P.length ≤ 2 ^ 40 + 1 := by
    rw [← hP]
    split
    · simp
    · omega
  have hPp : ∀ p, p ∈ P → p.length ≤ 2 ^ 29 := fun p hm => by
    rw [← hP] at hm
    split at hm
    · rw [List.mem_singleton.1 hm]; simp
    · exact hp p hm
  rw [hP]
  refine share (T := ?T) (fun H => ?main) ?rest
  case main =>
    refine al_eq (fun h0 => ?_) (fun h0 => ?_)
    · have h0 : paths = [] := by
        have h0 : ((paths.map enc1).length : Int) = 0 := h0
        rw [List.length_map] at h0
        exact List.length_eq_zero_iff.1 (by omega)
      have hPe : P = [[]] := by rw [← hP, if_pos h0]
      refine cutR 43 ((4, .p (encS P)) :: alSlots a who right branch false []) (alObjs a who right branch false) rfl ⟨by rw [hPe]; exact Weak.tip_p _ _ _ _, Weak.refl _, Weak.refl _, Weak.refl _, Weak.refl _, trivial⟩ ⟨hasO_one rfl, hasO_one rfl, hasO_one rfl, hasO_one rfl, trivial⟩ ?_
      exact H.out
    · have h0 : paths ≠ [] := fun e => h0 (by rw [e]; rfl)
      have hPe : P = paths := by rw [← hP, if_neg h0]
      refine cutR 43 ((4, .p (encS P)) :: alSlots a who right branch false []) (alObjs a who right branch false) rfl ⟨by rw [hPe]; exact Weak.refl _, Weak.refl _, Weak.refl _, Weak.refl _, Weak.refl _, trivial⟩ ⟨hasO_one rfl, hasO_one rfl, hasO_one rfl, hasO_one rfl, trivial⟩ ?_
      exact H.out
  case rest =>
    generalize hX : P.all (grantF a who right branch) = X
    refine loopR 43 (fun x : Nat × Bool => alSlots a who right branch x.2 [(21, .p (encS P)), (22, .p (.int .i64 (P.map enc1).length)), (23, .p (.int .i64 x.1))]) (fun x => alObjs a who right branch x.2) (fun x => x.1 ≤ P.length ∧ (P.drop x.1).all (grantF a who right branch) = X) (fun x => P.length - x.1) (0, false) ⟨Nat.zero_le _, hX⟩ rfl ⟨Weak.refl _, Weak.refl _, Weak.refl _, Weak.refl _, Weak.refl _, Weak.refl _, Weak.refl _, trivial⟩ ⟨hasO_one rfl, hasO_one rfl, hasO_one rfl, hasO_one rfl, trivial⟩ ?_
    clear hX
    rintro ⟨k, fz⟩ ⟨hk, hX⟩
    have hk : k ≤ P.length := hk
    have hX : (P.drop k).all (grantF a who right branch) = X := hX
    have hw : IntKind.i64.wrap ((k : Int) + 1) = ((k + 1 : Nat) : Int) := by rw [wrap64 (by omega) (by omega)]; omega
    refine al_lt (fun hlt => ?_) (fun hge => ?_)
    · have hlt : k < P.length := hlt
      have hpk := hPp _ (List.getElem_mem hlt)
      have step : (P.drop k).all (grantF a who right branch) = (grantF a who right branch P[k] && (P.drop (k + 1)).all (grantF a who right branch)) := by rw [List.drop_eq_getElem_cons hlt, List.all_cons]
      refine ⟨by omega, _, idx_map rfl hlt, rfl, ?_⟩
      rw [← hX]
      cases fz with
      | false =>
        refine ⟨[5, 6, 7, 8, 12], frz_one (cells := mapP (encAccess a)) (ys := encAccess a) rfl (toAVs_mapP _) rfl (frz_one (cells := [.p (.str who)]) (ys := [.str who]) rfl rfl rfl (frz_one (cells := [.p (.int .i64 right)]) (ys := [.int .i64 right]) rfl rfl rfl (frz_one (cells := [.p (.str branch)]) (ys := [.str branch]) rfl rfl rfl (frz_one (cells := [.p (.str P[k])]) (ys := [.str P[k]]) rfl rfl rfl ?_))))⟩
        refine ⟨_, (indexRule_ok a who right branch P[k] hf hb hpk).opn, fun v hv => ?_⟩
        subst hv
        refine ⟨none, ?_⟩
        unfold fitI
        cases hq : a.rules.findIdx? (fitsF a who right branch P[k]) with
        | none =>
          have hgr := grant_none hq
          refine al_dec (fun _ => ?_) (fun h => absurd (show (-1 : Int) < 0 by decide) h)
          rw [step, hgr]
          exact rfl
        | some i =>
          obtain ⟨hil, -, -⟩ := List.findIdx?_eq_some_iff_getElem.1 hq
          have hgr := grant_some hq hil
          refine al_dec (fun h => absurd h (show ¬ (i : Int) < 0 by omega)) (fun _ => ?_)
          refine ⟨by omega, [.bool a.rules[i].flag, .str a.rules[i].who, .int .i64 a.rules[i].right, .str a.rules[i].ref, .str a.rules[i].path], idx_map (f := encRule) rfl hil, rfl, ?_⟩
          refine al_not ?_
          cases hfl : a.rules[i].flag with
          | false =>
            rw [step, hgr, hfl]
            exact rfl
          | true =>
            refine ⟨_, hw, roundR (k + 1, true) ⟨hlt, by rw [step, hgr, hfl, Bool.true_and]⟩ (by show P.length - (k + 1) < P.length - k; omega) rfl ⟨Weak.refl _, Weak.refl _, Weak.refl _, Weak.refl _, Weak.refl _, Weak.refl _, Weak.refl _, trivial⟩ trivial⟩
      | true =>
        refine ⟨[12], frz_one (cells := [.p (.str P[k])]) (ys := [.str P[k]]) rfl rfl rfl ?_⟩
        refine ⟨_, (indexRule_ok a who right branch P[k] hf hb hpk).opn, fun v hv => ?_⟩
        subst hv
        refine ⟨none, ?_⟩
        unfold fitI
        cases hq : a.rules.findIdx? (fitsF a who right branch P[k]) with
        | none =>
          have hgr := grant_none hq
          refine al_dec (fun _ => ?_) (fun h => absurd (show (-1 : Int) < 0 by decide) h)
          rw [step, hgr]
          exact rfl
        | some i =>
          obtain ⟨hil, -, -⟩ := List.findIdx?_eq_some_iff_getElem.1 hq
          have hgr := grant_some hq hil
          refine al_dec (fun h => absurd h (show ¬ (i : Int) < 0 by omega)) (fun _ => ?_)
          refine ⟨by omega, [.bool a.rules[i].flag, .str a.rules[i].who, .int .i64 a.rules[i].right, .str a.rules[i].ref, .str a.rules[i].path], idx_map (f := encRule) rfl hil, rfl, ?_⟩
          refine al_not ?_
          cases hfl : a.rules[i].flag with
          | false =>
            rw [step, hgr, hfl]
            exact rfl
          | true =>
            refine ⟨_, hw, roundR (k + 1, true) ⟨hlt, by rw [step, hgr, hfl, Bool.true_and]⟩ (by show P.length - (k + 1) < P.length - k; omega) rfl ⟨Weak.refl _, Weak.refl _, Weak.refl _, Weak.refl _, Weak.refl _, Weak.refl _, Weak.refl _, trivial⟩ trivial⟩
    · have hge : ¬ k < P.length := hge
      rw [List.drop_of_length_le (by omega)] at hX
      rw [← hX]
      exact rfl
end Qv

end

section
/- Contracts: what a policy grants, the reference. No condition. -/
set_option linter.unusedVariables false
set_option linter.unusedSimpArgs false
open Go Go.Proofs Go.RowKit
namespace Qv
theorem firstE_zero {α : Type} {f : Nat → α → Int} : ∀ {l : List α} {i : Nat}, firstE f i l = 0 → ∀ j x, l[j]? = some x → f (i + j) x = 0
  | [], i, h, j, x, hx => by simp at hx
  | y :: l, i, h, j, x, hx => by
    unfold firstE at h
    split at h
    · rename_i hne; exact absurd h hne
    · rename_i h0
      cases j with
      | zero =>
        simp at hx
        subst hx
        exact Decidable.not_not.1 h0
      | succ j =>
        have := firstE_zero h j x (by simpa using hx)
        rw [show i + (j + 1) = i + 1 + j from by omega]
        exact this
structure ValidA (a : Access) : Prop where
  gl : a.groups.length ≤ 100
  rl : a.rules.length ≤ 100
  groups : ∀ i g, a.groups[i]? = some g → groupE a.groups i g = 0
  rules : ∀ r, r ∈ a.rules → checkRuleF a.groups r = 0
  votes : 0 ≤ a.votes ∧ a.votes ≤ 100
theorem firstE_of {α : Type} {f : Nat → α → Int} : ∀ {l : List α} {i : Nat}, (∀ j x, l[j]? = some x → f (i + j) x = 0) → firstE f i l = 0
  | [], i, h => rfl
  | y :: l, i, h => by
    have h0 : f i y = 0 := h 0 y rfl
    unfold firstE
    rw [if_neg (fun e => e h0)]
    refine firstE_of fun j x hx => ?_
    rw [show i + 1 + j = i + (j + 1) from by omega]
    exact h (j + 1) x (by simpa using hx)
theorem checkF_zero {a : Access} : checkF a = 0 ↔ ValidA a := by
  unfold checkF
  constructor
  · intro h
    split at h
    · cases h
    rename_i hl
    split at h
    · rename_i hne; exact absurd h hne
    rename_i hg
    unfold rulesE at h
    split at h
    · rename_i hne; exact absurd h hne
    rename_i hr
    have hg := Decidable.not_not.1 hg
    have hr := Decidable.not_not.1 hr
    refine ⟨by omega, by omega, fun i g hi => ?_, fun r hm => ?_, ?_⟩
    · have := firstE_zero hg i g hi
      rwa [Nat.zero_add] at this
    · obtain ⟨j, hj⟩ := List.getElem?_of_mem hm
      exact firstE_zero hr j r hj
    · unfold votesE at h
      split at h
      · cases h
      · omega
  · intro h
    have hg : firstE (groupE a.groups) 0 a.groups = 0 := firstE_of fun j x hx => by rw [Nat.zero_add]; exact h.groups j x hx
    have hr : firstE (fun _ r => checkRuleF a.groups r) 0 a.rules = 0 := firstE_of fun j x hx => h.rules x (List.mem_of_getElem? hx)
    have h1 := h.gl
    have h2 := h.rl
    have h3 := h.votes
    rw [if_neg (by omega), if_neg (fun e => e hg)]
    unfold rulesE
    rw [if_neg (fun e => e hr)]
    unfold votesE
    rw [if_neg (by omega)]
end Qv

end

section
/- Contracts: the reference's Allowed. No condition. -/
set_option linter.unusedVariables false
set_option linter.unusedSimpArgs false
open Go Go.Proofs Go.RowKit
namespace Qv
end Qv

end
