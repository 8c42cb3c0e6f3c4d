/- Contracts: the example of the chapter, sameness, bounds, one question. No condition. -/
import Derived.Test.YtikckhebddimoaaGreatDoorNF
import Derived.Test.YtikckhebddimoaaGreatDoorNG
set_option linter.unusedVariables false
set_option linter.unusedSimpArgs false
open Go Go.Proofs Go.RowKit
namespace Qv
def awT : Bytes := [103, 114, 111, 117, 112, 32, 115, 116, 97, 102, 102, 58, 32, 97, 110, 110, 32, 98, 111, 98, 10, 100, 101, 110, 121, 32, 42, 32, 112, 117, 115, 104, 32, 109, 97, 105, 110, 32, 115, 101, 99, 114, 101, 116, 47, 42, 42, 10, 97, 108, 108, 111, 119, 32, 64, 115, 116, 97, 102, 102, 32, 112, 117, 115, 104, 32, 42, 42, 32, 42, 42, 10]
def bAnn : Bytes := [97, 110, 110]
def bCid : Bytes := [99, 105, 100]
def bMain : Bytes := [109, 97, 105, 110]
def bOther : Bytes := [111, 116, 104, 101, 114]
def bAB : Bytes := [97, 47, 98]
def bSX : Bytes := [115, 101, 99, 114, 101, 116, 47, 120]
def awA : Access := ⟨[⟨[115, 116, 97, 102, 102], [bAnn, [98, 111, 98]]⟩], [⟨false, [42], 2, bMain, [115, 101, 99, 114, 101, 116, 47, 42, 42]⟩, ⟨true, [64, 115, 116, 97, 102, 102], 2, [42, 42], [42, 42]⟩], 0⟩
theorem aw_parse : parseA awT = (awA, 0, 0) := by decide +kernel
theorem aw1 : allowedC awA bAnn 2 bMain bAB = true := by decide +kernel
theorem aw2 : allowedC awA bAnn 2 bMain bSX = false := by decide +kernel
theorem aw3 : allowedC awA bAnn 2 bOther bSX = true := by decide +kernel
theorem aw4 : allowedC awA bCid 2 bMain bAB = false := by decide +kernel
theorem aw_fine : FineA awA := by
  refine ⟨by decide, by decide, fun g hg => ?_, fun r hr => ?_⟩
  · have hg : g ∈ [(⟨[115, 116, 97, 102, 102], [bAnn, [98, 111, 98]]⟩ : Group)] := hg
    rw [List.mem_singleton.1 hg]
    refine ⟨by decide, by decide, fun s hs => ?_⟩
    have hs : s ∈ [bAnn, [98, 111, 98]] := hs
    simp only [List.mem_cons, List.not_mem_nil, or_false] at hs
    rcases hs with rfl | rfl <;> decide
  · have hr : r ∈ [(⟨false, [42], 2, bMain, [115, 101, 99, 114, 101, 116, 47, 42, 42]⟩ : Rule), ⟨true, [64, 115, 116, 97, 102, 102], 2, [42, 42], [42, 42]⟩] := hr
    simp only [List.mem_cons, List.not_mem_nil, or_false] at hr
    rcases hr with rfl | rfl <;> decide
theorem may28_ok (a : Access) (who branch path : Bytes) (hf : FineA a) (hb : branch.length ≤ 2 ^ 29) (hp : path.length ≤ 2 ^ 29) :
    CallsTo C 28 [.str who, .str branch, .str path, .imp (encAccess a)] (fun r => r = .val (.bool (allowedC a who 2 branch path))) := by
  refine callsTo_of_ev' Tryz.func28 rfl rfl rfl ?_
  refine ⟨_, allowed_ok a who 2 branch [path] hf hb (by simp) (fun p hp' => by rw [List.mem_singleton.1 hp']; exact hp), fun r hr => ?_⟩
  subst hr
  rw [allowedF_one]
  exact rfl
theorem awake_ok : CallsTo C 11 [] (fun r => r = .val (.bool true)) := by
  refine callsTo_of_evO ⟨[], [], false, [], [], []⟩ [] Tryz.func11 rfl rfl rfl ?_
  refine ⟨_, (aparse_ok awT (by decide)).opn, fun r hr => ?_⟩
  subst hr
  rw [aw_parse]
  refine ⟨[1], ?_⟩
  refine frz_one (cells := mapP (encAccess awA)) (ys := encAccess awA) rfl (toAVs_mapP _) rfl ?_
  refine ⟨none, ?_⟩
  refine al_eq (fun _ => ?_) (fun h => absurd rfl h)
  refine al_eq (fun _ => ?_) (fun h => absurd rfl h)
  refine ⟨_, (may28_ok awA bAnn bMain bAB aw_fine (by decide) (by decide)).opn, fun r hr => ?_⟩
  subst hr
  rw [aw1]
  refine ⟨_, (may28_ok awA bAnn bMain bSX aw_fine (by decide) (by decide)).opn, fun r hr => ?_⟩
  subst hr
  rw [aw2]
  refine al_not ?_
  refine ⟨_, (may28_ok awA bAnn bOther bSX aw_fine (by decide) (by decide)).opn, fun r hr => ?_⟩
  subst hr
  rw [aw3]
  refine ⟨_, (may28_ok awA bCid bMain bAB aw_fine (by decide) (by decide)).opn, fun r hr => ?_⟩
  subst hr
  rw [aw4]
  refine al_not ?_
  exact rfl
structure SzA (a : Access) : Prop where
  gl : a.groups.length ≤ 2 ^ 47
  rl : a.rules.length ≤ 2 ^ 47
  names : ∀ g, g ∈ a.groups → g.name.length ≤ 2 ^ 47 ∧ g.members.length ≤ 2 ^ 47 ∧ ∀ s, s ∈ g.members → s.length ≤ 2 ^ 47
  rules : ∀ r, r ∈ a.rules → r.who.length ≤ 2 ^ 47 ∧ r.ref.length ≤ 2 ^ 47 ∧ r.path.length ≤ 2 ^ 47
def longR (r : Rule) : Bool := decide (40 < r.ref.length) || decide (40 < r.path.length)
def greatA (a : Access) : Bool := decide (6 < a.groups.length) || (decide (8 < a.rules.length) || (a.groups.any (fun g => decide (6 < g.members.length)) || a.rules.any longR))
theorem tiny_of {a : Access} (h : greatA a = false) : TinyA a := by
  simp only [greatA, Bool.or_eq_false_iff, decide_eq_false_iff_not, List.any_eq_false] at h
  obtain ⟨h1, h2, h3, h4⟩ := h
  refine ⟨by omega, by omega, fun g hg => ?_, fun r hr => ?_⟩
  · have := h3 g hg
    simp only [decide_eq_true_eq] at this
    omega
  · have := h4 r hr
    simp only [longR, Bool.or_eq_true, decide_eq_true_eq] at this
    omega
theorem fineA_of {a : Access} (hs : SzA a) (h : TinyA a) : FineA a := by
  have h1 := h.gl
  have h2 := h.rl
  refine ⟨by omega, by omega, fun g hg => ?_, fun r hr => ?_⟩
  · obtain ⟨n1, n2, n3⟩ := hs.names g hg
    have := h.members g hg
    exact ⟨by omega, by omega, fun s hm => by have := n3 s hm; omega⟩
  · obtain ⟨n1, n2, n3⟩ := hs.rules r hr
    obtain ⟨g1, g2⟩ := h.globs r hr
    exact ⟨by omega, by omega, by omega⟩
set_option maxHeartbeats 1000000 in
theorem great_ok (a : Access) (hs : SzA a) : CallsTo C 20 [.agg (encAccess a)] (fun r => r = .val (.bool (greatA a))) := by
  have hgl := hs.gl
  have hrl := hs.rl
  have hglen : ((a.groups.map encGroup).length : Int) = (a.groups.length : Int) := by simp
  have hrlen : ((a.rules.map encRule).length : Int) = (a.rules.length : Int) := by simp
  refine callsTo_of_ev' Tryz.func20 rfl rfl rfl ?_
  refine ⟨none, ?_⟩
  refine al_dec (fun h => ?_) (fun h => ?_)
  · have h : 6 < a.groups.length := by
      have : ((a.groups.map encGroup).length : Int) > 6 := h
      omega
    have : greatA a = true := by simp only [greatA, decide_eq_true h, Bool.true_or]
    rw [this]
    exact rfl
  have h6 : decide (6 < a.groups.length) = false := decide_eq_false (fun e => h (show ((a.groups.map encGroup).length : Int) > 6 by omega))
  refine al_dec (fun h => ?_) (fun h => ?_)
  · have h : 8 < a.rules.length := by
      have : ((a.rules.map encRule).length : Int) > 8 := h
      omega
    have : greatA a = true := by simp only [greatA, decide_eq_true h, Bool.true_or, Bool.or_true]
    rw [this]
    exact rfl
  have h8 : decide (8 < a.rules.length) = false := decide_eq_false (fun e => h (show ((a.rules.map encRule).length : Int) > 8 by omega))
  have hX : (a.groups.drop 0).any (fun g => decide (6 < g.members.length)) = a.groups.any (fun g => decide (6 < g.members.length)) := rfl
  have hG : greatA a = (a.groups.any (fun g => decide (6 < g.members.length)) || a.rules.any longR) := by simp only [greatA, h6, h8, Bool.false_or]
  rw [hG]
  clear hG h6 h8
  generalize a.groups.any (fun g => decide (6 < g.members.length)) = X at hX ⊢
  refine loopR 55 (fun k : Nat => [(1, .ptr 1 0), (3, .p (.int .i64 k))]) (fun _ => [(1, mapP (encAccess a))]) (fun k => k ≤ a.groups.length ∧ (a.groups.drop k).any (fun g => decide (6 < g.members.length)) = X) (fun k => a.groups.length - k) 0 ⟨Nat.zero_le _, hX⟩ rfl ⟨Weak.refl _, Weak.refl _, trivial⟩ ⟨hasO_one rfl, trivial⟩ ?_
  clear hX
  rintro k ⟨hk, hX⟩
  refine al_lt (fun hlt => ?_) (fun hge => ?_)
  · have hlt : k < a.groups.length := hlt
    have hw : IntKind.i64.wrap ((k : Int) + 1) = ((k + 1 : Nat) : Int) := by rw [wrap64 (by omega) (by omega)]; omega
    rw [List.drop_eq_getElem_cons hlt, List.any_cons] at hX
    have hmlen : ((a.groups[k].members.map enc1).length : Int) = (a.groups[k].members.length : Int) := by simp
    refine ⟨by omega, [.str a.groups[k].name, encS a.groups[k].members], idx_map (f := encGroup) rfl hlt, rfl, ?_⟩
    refine al_dec (fun h => ?_) (fun h => ?_)
    · have h : 6 < a.groups[k].members.length := by
        have : ((a.groups[k].members.map enc1).length : Int) > 6 := h
        omega
      rw [decide_eq_true h, Bool.true_or] at hX
      rw [← hX]
      exact rfl
    · have h : ¬ 6 < a.groups[k].members.length := fun e => h (show ((a.groups[k].members.map enc1).length : Int) > 6 by omega)
      rw [decide_eq_false h, Bool.false_or] at hX
      exact ⟨_, hw, roundR (k + 1) ⟨hlt, hX⟩ (by omega) rfl ⟨Weak.refl _, Weak.refl _, trivial⟩ ⟨hasO_one rfl, trivial⟩⟩
  · have hge : ¬ k < a.groups.length := hge
    rw [List.drop_of_length_le (by omega)] at hX
    have hX : false = X := hX
    rw [← hX, Bool.false_or]
    clear hX
    have hY : (a.rules.drop 0).any longR = a.rules.any longR := rfl
    generalize a.rules.any longR = Y at hY ⊢
    refine loopR 55 (fun k : Nat => [(1, .ptr 1 0), (4, .p (.int .i64 k))]) (fun _ => [(1, mapP (encAccess a))]) (fun k => k ≤ a.rules.length ∧ (a.rules.drop k).any longR = Y) (fun k => a.rules.length - k) 0 ⟨Nat.zero_le _, hY⟩ rfl ⟨Weak.refl _, Weak.refl _, trivial⟩ ⟨hasO_one rfl, trivial⟩ ?_
    clear hY
    rintro k ⟨hk, hY⟩
    refine al_lt (fun hlt => ?_) (fun hge => ?_)
    · have hlt : k < a.rules.length := hlt
      have hw : IntKind.i64.wrap ((k : Int) + 1) = ((k + 1 : Nat) : Int) := by rw [wrap64 (by omega) (by omega)]; omega
      rw [List.drop_eq_getElem_cons hlt, List.any_cons] at hY
      refine ⟨none, ?_⟩
      refine ⟨by omega, [.bool a.rules[k].flag, .str a.rules[k].who, .int .i64 a.rules[k].right, .str a.rules[k].ref, .str a.rules[k].path], idx_map (f := encRule) rfl hlt, rfl, ?_⟩
      refine al_dec (fun h => ?_) (fun h => ?_)
      · have h : 40 < a.rules[k].ref.length := by
          have : (a.rules[k].ref.length : Int) > 40 := h
          omega
        have : longR a.rules[k] = true := by simp only [longR, decide_eq_true h, Bool.true_or]
        rw [this, Bool.true_or] at hY
        rw [← hY]
        exact rfl
      have h1 : decide (40 < a.rules[k].ref.length) = false := decide_eq_false (fun e => h (show (a.rules[k].ref.length : Int) > 40 by omega))
      refine ⟨by omega, [.bool a.rules[k].flag, .str a.rules[k].who, .int .i64 a.rules[k].right, .str a.rules[k].ref, .str a.rules[k].path], idx_map (f := encRule) rfl hlt, rfl, ?_⟩
      refine al_dec (fun h => ?_) (fun h => ?_)
      · have h : 40 < a.rules[k].path.length := by
          have : (a.rules[k].path.length : Int) > 40 := h
          omega
        have : longR a.rules[k] = true := by simp only [longR, decide_eq_true h, Bool.or_true]
        rw [this, Bool.true_or] at hY
        rw [← hY]
        exact rfl
      have h2 : decide (40 < a.rules[k].path.length) = false := decide_eq_false (fun e => h (show (a.rules[k].path.length : Int) > 40 by omega))
      have : longR a.rules[k] = false := by simp only [longR, h1, h2, Bool.or_false]
      rw [this, Bool.false_or] at hY
      exact ⟨_, hw, roundR (k + 1) ⟨hlt, hY⟩ (by omega) rfl ⟨Weak.refl _, Weak.refl _, trivial⟩ ⟨hasO_one rfl, trivial⟩⟩
    · have hge : ¬ k < a.rules.length := hge
      rw [List.drop_of_length_le (by omega)] at hY
      have hY : false = Y := hY
      rw [← hY]
      exact rfl
structure Quest where
  who : Bytes
  right : Int
  branch : Bytes
  path : Bytes
def encQ (q : Quest) : List AV := [.str q.who, .int .i64 q.right, .str q.branch, .str q.path]
def fineF (a : Access) (q : Quest) : Bool := !greatA a && (smallF [q.who, q.branch, q.path] && decide (checkF a = 0))
structure FineQ (a : Access) (q : Quest) : Prop where
  tiny : TinyA a
  ok : checkF a = 0
  branch : q.branch.length ≤ 40
  path : q.path.length ≤ 40
theorem fineQ_of {a : Access} {q : Quest} (h : fineF a q = true) : FineQ a q := by
  simp only [fineF, Bool.and_eq_true, Bool.not_eq_true', decide_eq_true_eq, smallF, List.all_cons, List.all_nil] at h
  obtain ⟨h1, ⟨⟨h2, h3, h4, -⟩, -⟩, h5⟩ := h
  exact ⟨tiny_of h1, h5, h3, h4⟩
theorem fine_ok (a : Access) (q : Quest) (hs : SzA a) : CallsTo C 15 [.agg (encAccess a), .agg (encQ q)] (fun r => r = .val (.bool (fineF a q))) := by
  refine callsTo_of_ev' Tryz.func15 rfl rfl rfl ?_
  refine ⟨none, ?_⟩
  refine ⟨_, great_ok a hs, fun r hr => ?_⟩
  subst hr
  unfold fineF
  cases hg : greatA a with
  | true =>
    refine al_not ?_
    exact rfl
  | false =>
    refine al_not ?_
    refine ⟨_, small_ok [q.who, q.branch, q.path] (by simp), fun r hr => ?_⟩
    subst hr
    cases hsm : smallF [q.who, q.branch, q.path] with
    | false => exact rfl
    | true =>
      refine ⟨_, check_ok a (fineA_of hs (tiny_of hg)), fun r hr => ?_⟩
      subst hr
      refine al_eq (fun h => ?_) (fun h => ?_)
      · have h : checkF a = 0 := h
        rw [decide_eq_true h]
        exact rfl
      · have h : ¬ checkF a = 0 := h
        rw [decide_eq_false h]
        exact rfl
noncomputable def mayF (a : Access) (q : Quest) : Bool := allowedF a q.who q.right q.branch [q.path]
theorem may_ok (a : Access) (q : Quest) (hf : FineA a) (hb : q.branch.length ≤ 40) (hp : q.path.length ≤ 40) : CallsTo C 17 [.agg (encAccess a), .agg (encQ q)] (fun r => r = .val (.bool (mayF a q))) := by
  refine callsTo_of_ev' Tryz.func17 rfl rfl rfl ?_
  refine ⟨_, allowed_ok a q.who q.right q.branch [q.path] hf (by omega) (by simp) (fun p hp' => by rw [List.mem_singleton.1 hp']; omega), fun r hr => ?_⟩
  subst hr
  exact rfl
theorem mayF_grant {a : Access} {q : Quest} (h : checkF a = 0) : mayF a q = grantF a q.who q.right q.branch q.path := by
  unfold mayF allowedF
  rw [decide_eq_true h, if_neg (by simp), Bool.true_and]
  simp
end Qv

