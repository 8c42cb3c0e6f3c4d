/- Several texts in one: Contracts: the members of a group, the person of a rule, Contracts: the check of a rule, Contracts: the check of a policy. No condition. -/
import Derived.Test.YtikckhebddimoaaGreatDoorN9
import Derived.Test.YtikckhebddimoaaGreatDoorN8
import Derived.Test.YtikckhebddimoaaGreatDoorN6

section
/- Contracts: the members of a group, the person of a rule. No condition. -/
set_option linter.unusedVariables false
set_option linter.unusedSimpArgs false
open Go Go.Proofs Go.RowKit
namespace Qv
def firstE {α : Type} (f : Nat → α → Int) : Nat → List α → Int
  | _, [] => 0
  | i, x :: r => if f i x ≠ 0 then f i x else firstE f (i + 1) r
theorem firstE_drop {α : Type} {f : Nat → α → Int} {l : List α} {k : Nat} (h : k < l.length) : firstE f k (l.drop k) = if f k l[k] ≠ 0 then f k l[k] else firstE f (k + 1) (l.drop (k + 1)) := by
  rw [List.drop_eq_getElem_cons h, firstE]
theorem firstE_all {α : Type} {f : Nat → α → Int} {l : List α} {k : Nat} (h : ¬ k < l.length) : firstE f k (l.drop k) = 0 := by
  rw [List.drop_of_length_le (by omega)]; rfl
def memberE (l : List Bytes) (i : Nat) (s : Bytes) : Int := if nameF s = false then 5 else if (l.take i).contains s then 6 else 0
def membersF (l : List Bytes) : Int := if 100 < l.length then 4 else firstE (memberE l) 0 l
theorem checkMembers_ok (l : List Bytes) (hl : l.length ≤ 2 ^ 40) : CallsTo C 40 [encS l] (fun r => r = .val (.int .i64 (membersF l))) := by
  have hlen : ((l.map enc1).length : Int) = (l.length : Int) := by simp
  refine callsTo_of_ev' Tryz.func40 rfl rfl rfl ?_
  refine al_dec (fun hgt => ?_) (fun hgt => ?_)
  · have hgt : 100 < l.length := by
      have : ((l.map enc1).length : Int) > 100 := hgt
      omega
    have : membersF l = 4 := if_pos hgt
    rw [this]
    exact rfl
  have hgt : ¬ 100 < l.length := by
    intro h
    exact hgt (show ((l.map enc1).length : Int) > 100 by omega)
  have : membersF l = firstE (memberE l) 0 (l.drop 0) := if_neg hgt
  rw [this]
  generalize hX : firstE (memberE l) 0 (l.drop 0) = X
  refine loopR 24 (fun k : Nat => [(0, .p (encS l)), (8, .p (encS l)), (9, .p (.int .i64 (l.map enc1).length)), (10, .p (.int .i64 k))]) (fun _ => []) (fun k => k ≤ l.length ∧ firstE (memberE l) k (l.drop k) = X) (fun k => l.length - k) 0 ⟨Nat.zero_le _, hX⟩ rfl ⟨Weak.refl _, Weak.refl _, Weak.refl _, Weak.refl _, trivial⟩ trivial ?_
  rintro k ⟨hk, hX⟩
  refine al_lt (fun hlt => ?_) (fun hge => ?_)
  · rw [firstE_drop hlt] at hX
    refine ⟨by omega, _, idx_map rfl hlt, rfl, ?_⟩
    refine ⟨_, isName_ok l[k], fun r hr => ?_⟩
    subst hr
    refine al_not ?_
    cases hn : nameF l[k] with
    | false =>
      have he : memberE l k l[k] = 5 := if_pos hn
      rw [he] at hX
      have hX : (5 : Int) = X := hX
      rw [← hX]
      exact rfl
    | true =>
      have he : memberE l k l[k] = if (l.take k).contains l[k] then 6 else 0 := if_neg (by rw [hn]; simp)
      rw [he] at hX
      refine ⟨k, rfl, Nat.zero_le _, by rw [List.length_map]; omega, all_enc1 _, _, by rw [List.drop_zero, ← List.map_take], ?_⟩
      refine ⟨_, contains_ok (l.take k) l[k] (by rw [List.length_take]; omega), fun r hr => ?_⟩
      subst hr
      cases hc : (l.take k).contains l[k] with
      | true =>
        rw [hc] at hX
        have hX : (6 : Int) = X := hX
        rw [← hX]
        exact rfl
      | false =>
        rw [hc] at hX
        have hX : firstE (memberE l) (k + 1) (l.drop (k + 1)) = X := hX
        exact ⟨((k + 1 : Nat) : Int), by rw [wrap64 (by omega) (by omega)]; omega, roundR (k + 1) ⟨hlt, hX⟩ (by omega) rfl ⟨Weak.refl _, Weak.refl _, Weak.refl _, Weak.refl _, trivial⟩ trivial⟩
  · rw [firstE_all hge] at hX
    rw [← hX]
    exact rfl
theorem cutP_ok (s p : Bytes) : CallsTo C 64 [.str s, .str p] (fun r => r = .val (.tup [.str (Lib.trimPrefix s p), .bool (Lib.hasPrefix s p)])) := by
  refine ⟨⟨_, Tryz.func64, rfl, rfl⟩, fun imm w vs hJ hn hi hl hr => ?_⟩
  match vs, hl with
  | [v0, v1], _ =>
  have h := hr 0 v0 _ rfl rfl
  have h' := hr 1 v1 _ rfl rfl
  obtain rfl : v0 = .string ⟨s.toArray⟩ := by cases h; rfl
  obtain rfl : v1 = .string ⟨p.toArray⟩ := by cases h'; rfl
  refine (Tryz.strings_CutPrefix ⟨s.toArray⟩ ⟨p.toArray⟩ w).mono ?_
  rintro e w' ⟨rfl, rfl⟩
  refine ⟨_, _, rfl, rfl, ?_, Below.refl _ _⟩
  refine .tup [_, _] [_, _] rfl fun i c x h1 h2 => ?_
  match i, h1, h2 with
  | 0, h1, h2 => cases h1; cases h2; exact .str _
  | 1, h1, h2 => cases h1; cases h2; exact .bool _
def atF : Bytes → Bool
  | c :: _ => c == 64
  | [] => false
def grpName (who : Bytes) : Bytes := if atF who then who.drop 1 else who
def isGrp (who : Bytes) : Bool := atF who && nameF (who.drop 1)
def isWhoF (who : Bytes) : Bool := isGrp who || who == [42] || nameF who
theorem at_prefix (s : Bytes) : Lib.hasPrefix s [64] = atF s ∧ Lib.trimPrefix s [64] = grpName s := by
  have h1 : Lib.hasPrefix s [64] = atF s := by
    cases s with
    | nil => rfl
    | cons c r =>
      simp [Lib.hasPrefix, List.isPrefixOf, atF]
      rw [Bool.eq_iff_iff]
      simp
      exact ⟨fun h => h.symm, fun h => h.symm⟩
  refine ⟨h1, ?_⟩
  unfold Lib.trimPrefix grpName
  rw [h1]
  rfl
theorem group_ok (who : Bytes) : CallsTo C 32 [.str who] (fun r => r = .val (.tup [.str (grpName who), .bool (isGrp who)])) := by
  refine callsTo_of_ev' Tryz.func32 rfl rfl rfl ?_
  refine ⟨_, cutP_ok who [64], fun r hr => ?_⟩
  subst hr
  rw [(at_prefix who).1, (at_prefix who).2]
  refine ⟨none, ?_⟩
  have hg : isGrp who = (atF who && nameF (who.drop 1)) := rfl
  have hn : grpName who = if atF who then who.drop 1 else who := rfl
  cases ha : atF who with
  | true =>
    have hn : grpName who = who.drop 1 := by rw [hn, ha]; rfl
    have hg : isGrp who = nameF (who.drop 1) := by rw [hg, ha]; rfl
    rw [hn, hg]
    refine ⟨_, isName_ok (who.drop 1), fun r hr => ?_⟩
    subst hr
    exact rfl
  | false =>
    have hg : isGrp who = false := by rw [hg, ha]; rfl
    rw [hg]
    exact rfl
theorem isWho_ok (who : Bytes) : CallsTo C 76 [.str who] (fun r => r = .val (.bool (isWhoF who))) := by
  refine callsTo_of_ev' Tryz.func76 rfl rfl rfl ?_
  refine ⟨_, group_ok who, fun r hr => ?_⟩
  subst hr
  refine ⟨none, ?_⟩
  unfold isWhoF
  cases isGrp who with
  | true => exact rfl
  | false =>
    refine al_eq (fun h => ?_) (fun h => ?_)
    · have : (who == [42]) = true := by rw [beq_iff_eq]; exact h
      rw [this]
      exact rfl
    · have : (who == [42]) = false := by rw [beq_eq_false_iff_ne]; exact h
      rw [this]
      refine ⟨_, isName_ok who, fun r hr => ?_⟩
      subst hr
      exact rfl
end Qv

end

section
/- Contracts: the check of a rule. No condition. -/
set_option linter.unusedVariables false
set_option linter.unusedSimpArgs false
open Go Go.Proofs Go.RowKit
namespace Qv
def rKeys : List AV := [.int .i64 1, .int .i64 2, .int .i64 3, .int .i64 4]
def rWords : List AV := [.str [114, 101, 97, 100], .str [112, 117, 115, 104], .str [114, 101, 118, 105, 101, 119], .str [97, 100, 109, 105, 110]]
theorem fitsAll {agg : Bool} {L : List Leaf} {l : List (AV × FV)} (h : (l.all fun p => fitsK agg L p.1) = true) : ∀ p, p ∈ l → fitsK agg L p.1 = true := List.all_eq_true.1 h
theorem rights_ok : CallsTo C 53 [] (fun r => r = .val (.mp rKeys rWords)) := by
  refine callsTo_of_ev' Tryz.func53 rfl rfl rfl ?_
  refine ⟨[.int .i64], by kernel_rfl, rfl, fitsAll rfl, [(.int .i64 1, .p (.str [114, 101, 97, 100]))], rfl, ?_⟩
  refine ⟨[.int .i64], by kernel_rfl, rfl, fitsAll (by kernel_rfl), [(.int .i64 1, .p (.str [114, 101, 97, 100])), (.int .i64 2, .p (.str [112, 117, 115, 104]))], by kernel_rfl, ?_⟩
  refine ⟨[.int .i64], by kernel_rfl, rfl, fitsAll (by kernel_rfl), [(.int .i64 1, .p (.str [114, 101, 97, 100])), (.int .i64 2, .p (.str [112, 117, 115, 104])), (.int .i64 3, .p (.str [114, 101, 118, 105, 101, 119]))], by kernel_rfl, ?_⟩
  refine ⟨[.int .i64], by kernel_rfl, rfl, fitsAll (by kernel_rfl), [(.int .i64 1, .p (.str [114, 101, 97, 100])), (.int .i64 2, .p (.str [112, 117, 115, 104])), (.int .i64 3, .p (.str [114, 101, 118, 105, 101, 119])), (.int .i64 4, .p (.str [97, 100, 109, 105, 110]))], by kernel_rfl, ?_⟩
  exact ⟨rKeys, rWords, ⟨_, rfl, rfl, rfl⟩, rfl⟩
theorem find_right (r : Int) : (¬ (1 ≤ r ∧ r ≤ 4) → findM (.int .i64 r) (zipA rKeys (mapP rWords)) = none) ∧ (1 ≤ r ∧ r ≤ 4 → ∃ w : Bytes, findM (.int .i64 r) (zipA rKeys (mapP rWords)) = some (.p (.str w))) := by
  have hz : zipA rKeys (mapP rWords) = [(.int .i64 1, .p (.str [114, 101, 97, 100])), (.int .i64 2, .p (.str [112, 117, 115, 104])), (.int .i64 3, .p (.str [114, 101, 118, 105, 101, 119])), (.int .i64 4, .p (.str [97, 100, 109, 105, 110]))] := rfl
  rw [hz]
  constructor
  · intro h
    have h1 : (r == 1) = false := by simp; omega
    have h2 : (r == 2) = false := by simp; omega
    have h3 : (r == 3) = false := by simp; omega
    have h4 : (r == 4) = false := by simp; omega
    simp only [findM, sameA, sameA1, h1, h2, h3, h4, Bool.and_false]
  · intro h
    have : r = 1 ∨ r = 2 ∨ r = 3 ∨ r = 4 := by omega
    rcases this with rfl | rfl | rfl | rfl <;> exact ⟨_, rfl⟩
def checkRuleF (gs : List Group) (r : Rule) : Int :=
  if isWhoF r.who = false then 5
  else if isGrp r.who = true ∧ findG gs (r.who.drop 1) < 0 then 7
  else if ¬ (1 ≤ r.right ∧ r.right ≤ 4) then 8
  else if checkGlobF r.ref ≠ 0 then checkGlobF r.ref
  else checkGlobF r.path
theorem grp_name {who : Bytes} (h : isGrp who = true) : grpName who = who.drop 1 := by
  have : atF who = true := by
    simp only [isGrp, Bool.and_eq_true] at h
    exact h.1
  simp [grpName, this]
def rightE (r : Rule) : Int := if ¬ (1 ≤ r.right ∧ r.right ≤ 4) then 8 else if checkGlobF r.ref ≠ 0 then checkGlobF r.ref else checkGlobF r.path
theorem checkRule_ok (a : Access) (r : Rule) (hg : a.groups.length ≤ 2 ^ 40) (h1 : r.ref.length ≤ 2 ^ 29) (h2 : r.path.length ≤ 2 ^ 29) : CallsTo C 41 [.agg (encAccess a), .agg (encRule r)] (fun v => v = .val (.int .i64 (checkRuleF a.groups r))) := by
  refine callsTo_of_evO ⟨[], [], false, [], [], []⟩ [6] Tryz.func41 rfl rfl rfl ?_
  refine ⟨_, (isWho_ok r.who).opn, fun v hv => ?_⟩
  subst hv
  refine al_not ?_
  cases hw : isWhoF r.who with
  | false =>
    have : checkRuleF a.groups r = 5 := if_pos hw
    rw [this]
    exact rfl
  | true =>
    have hc : checkRuleF a.groups r = if isGrp r.who = true ∧ findG a.groups (r.who.drop 1) < 0 then 7 else rightE r := if_neg (by rw [hw]; simp)
    rw [hc]
    refine ⟨_, (group_ok r.who).opn, fun v hv => ?_⟩
    subst hv
    refine share (T := ?T) (fun H => ?main) ?rest
    case main =>
      refine ⟨none, ?_⟩
      cases hgr : isGrp r.who with
      | true =>
        rw [grp_name hgr]
        refine ⟨_, (find_ok a.groups (r.who.drop 1) hg).opn, fun v hv => ?_⟩
        subst hv
        refine al_dec (fun hlt => ?_) (fun hlt => ?_)
        · have hlt : findG a.groups (r.who.drop 1) < 0 := hlt
          rw [if_pos ⟨rfl, hlt⟩]
          exact rfl
        · have hlt : ¬ findG a.groups (r.who.drop 1) < 0 := hlt
          rw [if_neg (fun h => hlt h.2)]
          refine cutR 46 [(2, .ptr 2 0), (3, .ptr 3 0)] [(2, mapP (encAccess a)), (3, mapP (encRule r))] rfl ⟨Weak.refl _, Weak.refl _, trivial⟩ ⟨hasO_one rfl, hasO_one rfl, trivial⟩ ?_
          exact H.out
      | false =>
        rw [if_neg (fun h => by cases h.1)]
        refine cutR 46 [(2, .ptr 2 0), (3, .ptr 3 0)] [(2, mapP (encAccess a)), (3, mapP (encRule r))] rfl ⟨Weak.refl _, Weak.refl _, trivial⟩ ⟨hasO_one rfl, hasO_one rfl, trivial⟩ ?_
        exact H.out
    case rest =>
      obtain ⟨f1, f2⟩ := find_right r.right
      by_cases hr : 1 ≤ r.right ∧ r.right ≤ 4
      · obtain ⟨w, hfw⟩ := f2 hr
        have hc2 : rightE r = if checkGlobF r.ref ≠ 0 then checkGlobF r.ref else checkGlobF r.path := if_neg (fun h => h hr)
        rw [hc2]
        refine ⟨.lex 9, by kernel_rfl, .p (.mp rKeys rWords), ⟨_, rights_ok.opn, fun v hv => by subst hv; rfl⟩, _, rfl, _, rfl, .tup [.p (.str w), .p (.bool true)], ⟨[.int .i64], by kernel_rfl, rfl, fitsAll rfl, some (.p (.str w)), hfw, rfl⟩, _, rfl, _, rfl, _, rfl, _, rfl, _, rfl, ?_⟩
        refine al_not ?_
        refine ⟨_, (checkGlob_ok r.ref (by omega)).opn, fun v hv => ?_⟩
        subst hv
        refine al_ne (fun h => ?_) (fun h => ?_)
        · rw [if_pos h]
          exact rfl
        · rw [if_neg (fun e => e h)]
          refine ⟨_, (checkGlob_ok r.path (by omega)).opn, fun v hv => ?_⟩
          subst hv
          exact rfl
      · have hc2 : rightE r = 8 := if_pos hr
        rw [hc2]
        refine ⟨.lex 9, by kernel_rfl, .p (.mp rKeys rWords), ⟨_, rights_ok.opn, fun v hv => by subst hv; rfl⟩, _, rfl, _, rfl, .tup [.p (.str []), .p (.bool false)], ⟨[.int .i64], by kernel_rfl, rfl, fitsAll rfl, none, f1 hr, .string ⟨#[]⟩, by kernel_rfl, rfl⟩, _, rfl, _, rfl, _, rfl, _, rfl, _, rfl, ?_⟩
        refine al_not ?_
        exact rfl
end Qv

end

section
/- Contracts: the check of a policy. No condition. -/
set_option linter.unusedVariables false
set_option linter.unusedSimpArgs false
open Go Go.Proofs Go.RowKit
namespace Qv
def groupE (gs : List Group) (i : Nat) (g : Group) : Int := if nameF g.name = false then 5 else if 0 ≤ findG (gs.take i) g.name then 6 else membersF g.members
def votesE (v : Int) : Int := if v < 0 ∨ 100 < v then 2 else 0
def rulesE (a : Access) : Int := if firstE (fun _ r => checkRuleF a.groups r) 0 a.rules ≠ 0 then firstE (fun _ r => checkRuleF a.groups r) 0 a.rules else votesE a.votes
def checkF (a : Access) : Int :=
  if 100 < a.groups.length ∨ 100 < a.rules.length then 4
  else if firstE (groupE a.groups) 0 a.groups ≠ 0 then firstE (groupE a.groups) 0 a.groups else rulesE a
structure FineA (a : Access) : Prop where
  gl : a.groups.length ≤ 2 ^ 40
  rl : a.rules.length ≤ 2 ^ 40
  names : ∀ g, g ∈ a.groups → g.name.length ≤ 2 ^ 50 ∧ g.members.length ≤ 2 ^ 40 ∧ ∀ s, s ∈ g.members → s.length ≤ 2 ^ 50
  rules : ∀ r, r ∈ a.rules → r.who.length ≤ 2 ^ 50 ∧ r.ref.length ≤ 2 ^ 29 ∧ r.path.length ≤ 2 ^ 29
set_option maxHeartbeats 1000000 in
theorem check_ok (a : Access) (hf : FineA a) : CallsTo C 16 [.agg (encAccess a)] (fun v => v = .val (.int .i64 (checkF a))) := by
  refine callsTo_of_ev' Tryz.func16 rfl rfl rfl ?_
  have hglen : ((a.groups.map encGroup).length : Int) = (a.groups.length : Int) := by simp
  have hrlen : ((a.rules.map encRule).length : Int) = (a.rules.length : Int) := by simp
  refine ⟨none, ?_⟩
  refine al_dec (fun hg1 => ?_) (fun hg1 => ?_)
  · have hg1 : ((a.groups.map encGroup).length : Int) > 100 := hg1
    have : checkF a = 4 := if_pos (.inl (by omega))
    rw [this]
    exact rfl
  have hg1 : ¬ ((a.groups.map encGroup).length : Int) > 100 := hg1
  refine al_dec (fun hg2 => ?_) (fun hg2 => ?_)
  · have hg2 : ((a.rules.map encRule).length : Int) > 100 := hg2
    have : checkF a = 4 := if_pos (.inr (by omega))
    rw [this]
    exact rfl
  have hg2 : ¬ ((a.rules.map encRule).length : Int) > 100 := hg2
  have hc : checkF a = if firstE (groupE a.groups) 0 (a.groups.drop 0) ≠ 0 then firstE (groupE a.groups) 0 (a.groups.drop 0) else rulesE a := if_neg (fun h => by omega)
  rw [hc]
  generalize hX : firstE (groupE a.groups) 0 (a.groups.drop 0) = X
  refine loopR 68 (fun k : Nat => [(1, .ptr 1 0), (20, .p (encGroups a.groups)), (21, .p (.int .i64 (a.groups.map encGroup).length)), (22, .p (.int .i64 k))]) (fun _ => [(1, mapP (encAccess a))]) (fun k => k ≤ a.groups.length ∧ firstE (groupE a.groups) k (a.groups.drop k) = X) (fun k => a.groups.length - k) 0 ⟨Nat.zero_le _, hX⟩ rfl ⟨Weak.refl _, Weak.refl _, Weak.refl _, Weak.refl _, trivial⟩ ⟨hasO_one rfl, trivial⟩ ?_
  rintro k ⟨hk, hX⟩
  have hgl := hf.gl
  refine al_lt (fun hlt => ?_) (fun hge => ?_)
  · rw [firstE_drop hlt] at hX
    obtain ⟨b1, b2, b3⟩ := hf.names _ (List.getElem_mem hlt)
    refine ⟨by omega, _, idx_map (f := encGroup) rfl hlt, rfl, ?_⟩
    refine ⟨_, isName_ok a.groups[k].name, fun v hv => ?_⟩
    subst hv
    refine al_not ?_
    cases hn : nameF a.groups[k].name with
    | false =>
      have he : groupE a.groups k a.groups[k] = 5 := if_pos hn
      rw [he] at hX
      have hX : (5 : Int) = X := hX
      have hXn : X ≠ 0 := by rw [← hX]; decide
      rw [if_pos hXn, ← hX]
      exact rfl
    | true =>
      have he : groupE a.groups k a.groups[k] = if 0 ≤ findG (a.groups.take k) a.groups[k].name then 6 else membersF a.groups[k].members := if_neg (by rw [hn]; simp)
      rw [he] at hX
      refine ⟨.lex 6, by kernel_rfl, _, rfl, _, rfl, _, rfl, .p (encGroups (a.groups.take k)), ⟨k, rfl, Nat.zero_le _, by rw [List.length_map]; omega, all_enc (f := encGroup) (n := 2) (fun _ => rfl) a.groups, _, by rw [List.drop_zero, ← List.map_take], rfl⟩, _, rfl, _, rfl, ?_⟩
      refine ⟨_, find_ok (a.groups.take k) a.groups[k].name (by rw [List.length_take]; omega), fun v hv => ?_⟩
      subst hv
      refine al_dec (fun hf => ?_) (fun hf => ?_)
      · have hf : 0 ≤ findG (a.groups.take k) a.groups[k].name := hf
        rw [if_pos hf] at hX
        have hX : (6 : Int) = X := hX
        have hXn : X ≠ 0 := by rw [← hX]; decide
        rw [if_pos hXn, ← hX]
        exact rfl
      · have hf : ¬ 0 ≤ findG (a.groups.take k) a.groups[k].name := hf
        rw [if_neg hf] at hX
        refine ⟨_, checkMembers_ok a.groups[k].members b2, fun v hv => ?_⟩
        subst hv
        refine al_ne (fun hm => ?_) (fun hm => ?_)
        · rw [if_pos hm] at hX
          have hXn : X ≠ 0 := by rw [← hX]; exact hm
          rw [if_pos hXn, ← hX]
          exact rfl
        · rw [if_neg (fun e => e hm)] at hX
          exact ⟨((k + 1 : Nat) : Int), by rw [wrap64 (by omega) (by omega)]; omega, roundR (k + 1) ⟨hlt, hX⟩ (by omega) rfl ⟨Weak.refl _, Weak.refl _, Weak.refl _, Weak.refl _, trivial⟩ ⟨hasO_one rfl, trivial⟩⟩
  · rw [firstE_all hge] at hX
    subst hX
    rw [if_neg (fun h => h rfl)]
    unfold rulesE
    rw [show a.rules = a.rules.drop 0 from rfl]
    generalize hY : firstE (fun _ r => checkRuleF a.groups r) 0 (a.rules.drop 0) = Y
    refine loopR 68 (fun k : Nat => [(1, .ptr 1 0), (47, .p (.sl (a.rules.map encRule))), (48, .p (.int .i64 (a.rules.map encRule).length)), (49, .p (.int .i64 k))]) (fun _ => [(1, mapP (encAccess a))]) (fun k => k ≤ a.rules.length ∧ firstE (fun _ r => checkRuleF a.groups r) k (a.rules.drop k) = Y) (fun k => a.rules.length - k) 0 ⟨Nat.zero_le _, hY⟩ rfl ⟨Weak.refl _, Weak.refl _, Weak.refl _, Weak.refl _, trivial⟩ ⟨hasO_one rfl, trivial⟩ ?_
    rintro k ⟨hk, hY⟩
    have hrl := hf.rl
    refine al_lt (fun hlt => ?_) (fun hge => ?_)
    · rw [firstE_drop hlt] at hY
      obtain ⟨b1, b2, b3⟩ := hf.rules _ (List.getElem_mem hlt)
      refine ⟨by omega, _, idx_map (f := encRule) rfl hlt, rfl, ?_⟩
      refine ⟨_, checkRule_ok a a.rules[k] hgl b2 b3, fun v hv => ?_⟩
      subst hv
      refine al_ne (fun hm => ?_) (fun hm => ?_)
      · rw [if_pos hm] at hY
        have hYn : Y ≠ 0 := by rw [← hY]; exact hm
        rw [if_pos hYn, ← hY]
        exact rfl
      · rw [if_neg (fun e => e hm)] at hY
        exact ⟨((k + 1 : Nat) : Int), by rw [wrap64 (by omega) (by omega)]; omega, roundR (k + 1) ⟨hlt, hY⟩ (by omega) rfl ⟨Weak.refl _, Weak.refl _, Weak.refl _, Weak.refl _, trivial⟩ ⟨hasO_one rfl, trivial⟩⟩
    · rw [firstE_all hge] at hY
      subst hY
      rw [if_neg (fun h => h rfl)]
      refine ⟨none, ?_⟩
      refine al_dec (fun h1 => ?_) (fun h1 => ?_)
      · have h1 : a.votes < 0 := h1
        have : votesE a.votes = 2 := if_pos (.inl h1)
        rw [this]
        exact rfl
      · have h1 : ¬ a.votes < 0 := h1
        refine al_dec (fun h2 => ?_) (fun h2 => ?_)
        · have h2 : a.votes > 100 := h2
          have : votesE a.votes = 2 := if_pos (.inr h2)
          rw [this]
          exact rfl
        · have h2 : ¬ a.votes > 100 := h2
          have : votesE a.votes = 0 := if_neg (fun h => h.elim h1 h2)
          rw [this]
          exact rfl
end Qv

end
