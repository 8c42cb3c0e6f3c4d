/- Several texts in one: Contracts: glob.Check, access.checkGlob, Contracts: access.find, Contracts: slices.Contains, access.member, Contract: access.member. No condition. -/
import Derived.Test.YtikckhebddimoaaGreatDoorN1

section
/- Contracts: glob.Check, access.checkGlob. No condition. -/
set_option linter.unusedVariables false
set_option linter.unusedSimpArgs false
open Go Go.Proofs Go.RowKit
namespace Qv
theorem gcheck_ok (s : Bytes) (hs : s.length ≤ 2 ^ 30) : CallsTo C 101 [.str s] (fun r => r = .val (.int .i64 (parseF s).2)) := by
  refine callsTo_of_ev' Tryz.func101 rfl rfl rfl ?_
  refine ⟨_, parse_ok s hs, fun r hr => ?_⟩
  subst hr
  exact rfl
def seen (c : UInt8) : Bool := decide (33 ≤ c.toNat) && decide (c.toNat ≤ 126)
def checkGlobF (s : Bytes) : Int := if (parseF s).2 ≠ 0 then (parseF s).2 else if s.all seen then 0 else 3
theorem checkGlob_ok (s : Bytes) (hs : s.length ≤ 2 ^ 30) : CallsTo C 77 [.str s] (fun r => r = .val (.int .i64 (checkGlobF s))) := by
  refine callsTo_of_ev' Tryz.func77 rfl rfl rfl ?_
  refine ⟨_, gcheck_ok s hs, fun r hr => ?_⟩
  subst hr
  refine al_ne (fun h => ?_) (fun h => ?_)
  · have : checkGlobF s = (parseF s).2 := if_pos h
    rw [this]
    exact rfl
  · have hc : checkGlobF s = if s.all seen then 0 else 3 := if_neg (fun e => e h)
    rw [hc]
    refine loopR 26 (fun k : Nat => [(0, .p (.str s)), (11, .p (.int .i64 s.length)), (12, .p (.int .i64 k))]) (fun _ => []) (fun k => k ≤ s.length ∧ ∀ i c, i < k → s[i]? = some c → seen c = true) (fun k => s.length - k) 0 ⟨Nat.zero_le _, fun i c h => absurd h (by omega)⟩ rfl ⟨Weak.refl _, Weak.refl _, Weak.refl _, trivial⟩ trivial ?_
    rintro k ⟨hk, hall⟩
    have bad : ∀ c, s[k]? = some c → seen c = false → (if s.all seen then (0 : Int) else 3) = 3 := fun c hc hb => by
      rw [if_neg]
      intro h
      have := List.all_eq_true.1 h c (List.mem_of_getElem? hc)
      rw [hb] at this
      cases this
    refine al_dec (fun hlt => ?_) (fun hge => ?_)
    · have hlt : k < s.length := by
        have : (k : Int) < (s.length : Int) := hlt
        omega
      obtain ⟨c, hc⟩ : ∃ c, s[k]? = some c := ⟨_, List.getElem?_eq_getElem hlt⟩
      refine ⟨none, by omega, c, idx_str rfl hc, ?_⟩
      refine al_dec (fun h1 => ?_) (fun h1 => ?_)
      · have : seen c = false := by
          have h1 : (c.toNat : Int) < 33 := h1
          simp [seen]; omega
        rw [bad c hc this]
        exact rfl
      · refine ⟨by omega, c, idx_str rfl hc, ?_⟩
        refine al_dec (fun h2 => ?_) (fun h2 => ?_)
        · have : seen c = false := by
            have h2 : (126 : Int) < (c.toNat : Int) := h2
            simp [seen]; omega
          rw [bad c hc this]
          exact rfl
        · have hsn : seen c = true := by
            have h1 : ¬ (c.toNat : Int) < 33 := h1
            have h2 : ¬ (126 : Int) < (c.toNat : Int) := h2
            simp [seen]; omega
          refine ⟨((k + 1 : Nat) : Int), by rw [wrap64 (by omega) (by omega)]; omega, roundR (k + 1) ⟨hlt, fun i d hi hd => ?_⟩ (by omega) rfl ⟨Weak.refl _, Weak.refl _, Weak.refl _, trivial⟩ trivial⟩
          by_cases hik : i = k
          · subst hik
            rw [hc] at hd
            obtain rfl := Option.some.inj hd
            exact hsn
          · exact hall i d (by omega) hd
    · have hge : ¬ k < s.length := by
        intro h
        exact hge (show (k : Int) < (s.length : Int) by omega)
      have : s.all seen = true := by
        rw [List.all_eq_true]
        intro c hc
        obtain ⟨i, hi⟩ := List.getElem?_of_mem hc
        exact hall i c (by have := (List.getElem?_eq_some_iff.1 hi).1; omega) hi
      rw [if_pos this]
      exact rfl
end Qv

end

section
/- Contracts: access.find. No condition. -/
set_option linter.unusedVariables false
set_option linter.unusedSimpArgs false
open Go Go.Proofs Go.RowKit
namespace Qv
structure Group where
  name : Bytes
  members : List Bytes
  deriving DecidableEq
def encGroup (g : Group) : List AV := [.str g.name, encS g.members]
def encGroups (l : List Group) : AV := .sl (l.map encGroup)
def findG (l : List Group) (n : Bytes) : Int := match l.findIdx? (fun g => g.name == n) with
  | some i => i
  | none => -1
theorem find1_ok (g : Group) (n : Bytes) : CallsTo C 66 [.agg (encGroup g), .imp [.str n]] (fun r => r = .val (.bool (g.name == n))) := by
  refine callsTo_of_ev' Tryz.func66 rfl rfl rfl ?_
  refine ⟨fun t ht => ?_⟩
  subst ht
  exact rfl
theorem findIdx_ok (l : List Group) (n : Bytes) (hl : l.length ≤ 2 ^ 40) : CallsTo C 65 [encGroups l, .fn (.func 66) [] [.imp [.str n]]] (fun r => r = .val (.int .i64 (findG l n))) := by
  refine callsTo_of_ev' Tryz.func65 rfl rfl rfl ?_
  refine loopR 19 (fun k : Nat => [(0, .p (encGroups l)), (1, .p (.fn (.func 66) [] [.imp [.str n]])), (7, .p (.int .i64 (l.map encGroup).length)), (8, .p (.int .i64 k))]) (fun _ => []) (fun k => k ≤ l.length ∧ ∀ i g, i < k → l[i]? = some g → (g.name == n) = false) (fun k => l.length - k) 0 ⟨Nat.zero_le _, fun i g h => absurd h (by omega)⟩ rfl ⟨Weak.refl _, Weak.refl _, Weak.refl _, Weak.refl _, trivial⟩ trivial ?_
  rintro k ⟨hk, hall⟩
  refine al_lt (fun hlt => ?_) (fun hge => ?_)
  · refine ⟨by omega, _, idx_map rfl hlt, rfl, ?_⟩
    refine ⟨_, find1_ok l[k] n, fun r hr => ?_⟩
    subst hr
    cases hq : ((l[k]).name == n) with
    | true =>
      have : findG l n = (k : Int) := by
        unfold findG
        have : l.findIdx? (fun g => g.name == n) = some k := by
          rw [List.findIdx?_eq_some_iff_getElem]
          refine ⟨hlt, hq, fun j hj => ?_⟩
          rw [hall j l[j] hj (List.getElem?_eq_getElem (by omega))]
          simp
        rw [this]
      rw [this]
      exact rfl
    | false =>
      refine ⟨((k + 1 : Nat) : Int), by rw [wrap64 (by omega) (by omega)]; omega, roundR (k + 1) ⟨hlt, fun i g hi hg => ?_⟩ (by omega) rfl ⟨Weak.refl _, Weak.refl _, Weak.refl _, Weak.refl _, trivial⟩ trivial⟩
      by_cases hik : i = k
      · subst hik
        rw [List.getElem?_eq_getElem hlt] at hg
        obtain rfl := Option.some.inj hg
        exact hq
      · exact hall i g (by omega) hg
  · have : findG l n = -1 := by
      unfold findG
      have : l.findIdx? (fun g => g.name == n) = none := by
        rw [List.findIdx?_eq_none_iff]
        intro g hg
        obtain ⟨i, hi⟩ := List.getElem?_of_mem hg
        exact hall i g (by have := (List.getElem?_eq_some_iff.1 hi).1; omega) hi
      rw [this]
    rw [this]
    exact rfl
theorem find_ok (l : List Group) (n : Bytes) (hl : l.length ≤ 2 ^ 40) : CallsTo C 33 [encGroups l, .str n] (fun r => r = .val (.int .i64 (findG l n))) := by
  refine callsTo_of_ev' Tryz.func33 rfl rfl rfl ?_
  refine ⟨[3], frz_one (cells := [.p (.str n)]) (ys := [.str n]) rfl rfl rfl ?_⟩
  refine ⟨_, findIdx_ok l n hl, fun r hr => ?_⟩
  subst hr
  exact rfl
end Qv

end

section
/- Contracts: slices.Contains, access.member. No condition. -/
set_option linter.unusedVariables false
set_option linter.unusedSimpArgs false
open Go Go.Proofs Go.RowKit
namespace Qv
theorem index_ok (l : List Bytes) (n : Bytes) (hl : l.length ≤ 2 ^ 40) : CallsTo C 100 [encS l, .str n] (fun r => ∃ i : Int, r = .val (.int .i64 i) ∧ (decide (0 ≤ i)) = l.contains n) := by
  refine callsTo_of_ev' Tryz.func100 rfl rfl rfl ?_
  refine loopR 19 (fun k : Nat => [(0, .p (encS l)), (1, .p (.str n)), (7, .p (.int .i64 (l.map enc1).length)), (8, .p (.int .i64 k))]) (fun _ => []) (fun k => k ≤ l.length ∧ ∀ i g, i < k → l[i]? = some g → g ≠ n) (fun k => l.length - k) 0 ⟨Nat.zero_le _, fun i g h => absurd h (by omega)⟩ rfl ⟨Weak.refl _, Weak.refl _, Weak.refl _, Weak.refl _, trivial⟩ trivial ?_
  rintro k ⟨hk, hall⟩
  refine al_lt (fun hlt => ?_) (fun hge => ?_)
  · refine ⟨by omega, _, idx_map rfl hlt, rfl, ?_⟩
    refine al_eq (fun he => ?_) (fun he => ?_)
    · have he : n = l[k] := he
      refine ⟨(k : Int), rfl, ?_⟩
      have h1 : l.contains n = true := by
        rw [List.contains_iff_mem, he]
        exact List.getElem_mem hlt
      rw [h1]
      simp
    · have he : n ≠ l[k] := he
      refine ⟨((k + 1 : Nat) : Int), by rw [wrap64 (by omega) (by omega)]; omega, roundR (k + 1) ⟨hlt, fun i g hi hg => ?_⟩ (by omega) rfl ⟨Weak.refl _, Weak.refl _, Weak.refl _, Weak.refl _, trivial⟩ trivial⟩
      by_cases hik : i = k
      · subst hik
        rw [List.getElem?_eq_getElem hlt] at hg
        obtain rfl := Option.some.inj hg
        exact fun e => he e.symm
      · exact hall i g (by omega) hg
  · refine ⟨-1, rfl, ?_⟩
    have h1 : l.contains n = false := by
      cases hq : l.contains n with
      | false => rfl
      | true =>
        rw [List.contains_iff_mem] at hq
        obtain ⟨i, hi⟩ := List.getElem?_of_mem hq
        exact absurd rfl (hall i n (by have := (List.getElem?_eq_some_iff.1 hi).1; omega) hi)
    rw [h1]
    simp
theorem contains_ok (l : List Bytes) (n : Bytes) (hl : l.length ≤ 2 ^ 40) : CallsTo C 75 [encS l, .str n] (fun r => r = .val (.bool (l.contains n))) := by
  refine callsTo_of_ev' Tryz.func75 rfl rfl rfl ?_
  refine ⟨_, index_ok l n hl, fun r hr => ?_⟩
  obtain ⟨i, rfl, hi⟩ := hr
  refine ⟨fun t ht => ?_⟩
  have : t = l.contains n := by rw [← hi, ht]
  rw [← this]
  exact rfl
end Qv

end

section
/- Contract: access.member. No condition. -/
set_option linter.unusedVariables false
set_option linter.unusedSimpArgs false
open Go Go.Proofs Go.RowKit
namespace Qv
structure Rule where
  flag : Bool
  who : Bytes
  right : Int
  ref : Bytes
  path : Bytes
  deriving DecidableEq
def encRule (r : Rule) : List AV := [.bool r.flag, .str r.who, .int .i64 r.right, .str r.ref, .str r.path]
structure Access where
  groups : List Group
  rules : List Rule
  votes : Int
  deriving DecidableEq
def encAccess (a : Access) : List AV := [encGroups a.groups, .sl (a.rules.map encRule), .int .i64 a.votes]
def memberF (a : Access) (who n : Bytes) : Bool := match a.groups.findIdx? (fun g => g.name == n) with
  | some i => ((a.groups[i]?).elim [] Group.members).contains who
  | none => false
theorem member_ok (a : Access) (who n : Bytes) (hl : a.groups.length ≤ 2 ^ 40) (hm : ∀ g, g ∈ a.groups → g.members.length ≤ 2 ^ 40) :
    CallsTo C 46 [.agg (encAccess a), .str who, .str n] (fun r => r = .val (.bool (memberF a who n))) := by
  refine callsTo_of_ev' Tryz.func46 rfl rfl rfl ?_
  refine ⟨_, find_ok a.groups n hl, fun r hr => ?_⟩
  subst hr
  refine ⟨none, ?_⟩
  cases hq : a.groups.findIdx? (fun g => g.name == n) with
  | none =>
    have h1 : findG a.groups n = -1 := by simp only [findG, hq]
    have h2 : memberF a who n = false := by simp only [memberF, hq]
    rw [h1, h2]
    refine al_dec (fun h => absurd h (by decide)) (fun h => ?_)
    exact rfl
  | some i =>
    obtain ⟨hi, -, -⟩ := List.findIdx?_eq_some_iff_getElem.1 hq
    have h1 : findG a.groups n = (i : Int) := by simp only [findG, hq]
    have h2 : memberF a who n = (a.groups[i]).members.contains who := by simp only [memberF, hq, List.getElem?_eq_getElem hi, Option.elim]
    rw [h1, h2]
    refine al_dec (fun h => ?_) (fun h => absurd (show (0 : Int) ≤ (i : Int) by omega) h)
    refine ⟨by omega, [.str (a.groups[i]).name, encS (a.groups[i]).members], idx_map (f := encGroup) rfl hi, rfl, ?_⟩
    refine ⟨_, contains_ok (a.groups[i]).members who (hm _ (List.getElem_mem hi)), fun r hr => ?_⟩
    subst hr
    exact rfl
end Qv

end
