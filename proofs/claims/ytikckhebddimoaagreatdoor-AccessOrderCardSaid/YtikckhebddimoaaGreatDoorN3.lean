/- Several texts in one: What a component of a glob fits, in plain terms, Contract: whether a component fits a part of a path. No condition. -/
import Derived.Test.YtikckhebddimoaaGreatDoorN1

section
/- What a component of a glob fits, in plain terms. No condition. -/
set_option linter.unusedVariables false
set_option linter.unusedSimpArgs false
open Go Go.Proofs Go.RowKit
namespace Qv
def Atom.fit : Atom → UInt8 → Bool
  | .bad, _ => false
  | .star, _ => false
  | .any, c => c != 47
  | .lit d, c => c == d
  | .cls set neg, c => clsB set neg c
def starAt (l : List Atom) (t : Nat) : Prop := ∃ a, l[t]? = some a ∧ a.isStar = true
def stepP (l : List Atom) (c : UInt8) (i j : Nat) : Prop :=
  ∃ k a, i ≤ k ∧ (∀ t, i ≤ t → t < k → starAt l t) ∧ l[k]? = some a ∧ ((a.isStar = true ∧ j = k) ∨ (a.isStar = false ∧ a.fit c = true ∧ j = k + 1))
def reach (l : List Atom) (s : Bytes) : Nat → Nat → Prop
  | 0, j => j = 0
  | k + 1, j => ∃ i c, reach l s k i ∧ s[k]? = some c ∧ stepP l c i j
theorem stepP_le {l : List Atom} {c : UInt8} {i j : Nat} (h : stepP l c i j) : j ≤ l.length := by
  obtain ⟨k, a, -, -, h1, h2⟩ := h
  have := (List.getElem?_eq_some_iff.1 h1).1
  rcases h2 with ⟨-, rfl⟩ | ⟨-, -, rfl⟩ <;> omega
theorem reach_le {l : List Atom} {s : Bytes} : ∀ {k j : Nat}, reach l s k j → j ≤ l.length
  | 0, j, h => by
    have : j = 0 := h
    omega
  | k + 1, j, ⟨i, c, _, _, h⟩ => stepP_le h
def fitsP (l : List Atom) (s : Bytes) : Prop := ∃ i, reach l s s.length i ∧ endedF l i = true
theorem starAt_some {l : List Atom} {k : Nat} {a : Atom} (h : l[k]? = some a) (hs : starAt l k) : a.isStar = true := by
  obtain ⟨b, hb, hb2⟩ := hs
  rw [h] at hb
  obtain rfl := Option.some.inj hb
  exact hb2
theorem stepP_at {l : List Atom} {c : UInt8} {i k2 j : Nat} (hs : ∀ t, i ≤ t → t < k2 → starAt l t) (hi : i ≤ k2) (h : stepP l c i j) : (i ≤ j ∧ j < k2) ∨ stepP l c k2 j := by
  obtain ⟨k, a, h1, h2, h3, h4⟩ := h
  by_cases hk : k < k2
  · have := starAt_some h3 (hs k h1 hk)
    rcases h4 with ⟨-, rfl⟩ | ⟨h5, -, -⟩
    · exact .inl ⟨h1, hk⟩
    · rw [this] at h5; cases h5
  · exact .inr ⟨k, a, by omega, fun t h5 h6 => h2 t (by omega) h6, h3, h4⟩
theorem stepP_none {l : List Atom} {c : UInt8} {k j : Nat} (hk : l.length ≤ k) (h : stepP l c k j) : False := by
  obtain ⟨k', a, h1, -, h3, -⟩ := h
  have := (List.getElem?_eq_some_iff.1 h3).1
  omega
theorem stepP_some {l : List Atom} {c : UInt8} {k j : Nat} {a : Atom} (h : l[k]? = some a) (ha : a.isStar = false) : stepP l c k j ↔ a.fit c = true ∧ j = k + 1 := by
  constructor
  · rintro ⟨k', b, h1, h2, h3, h4⟩
    by_cases hk : k < k'
    · have := starAt_some h (h2 k (Nat.le_refl _) hk)
      rw [ha] at this; cases this
    · obtain rfl : k' = k := by omega
      rw [h] at h3
      obtain rfl := Option.some.inj h3
      rcases h4 with ⟨h5, -⟩ | ⟨-, h5, h6⟩
      · rw [ha] at h5; cases h5
      · exact ⟨h5, h6⟩
  · rintro ⟨h1, rfl⟩
    exact ⟨k, a, Nat.le_refl _, fun t h2 h3 => by omega, h, .inr ⟨ha, h1, rfl⟩⟩
theorem stepP_back {l : List Atom} {c : UInt8} {i k2 j : Nat} (hs : ∀ t, i ≤ t → t < k2 → starAt l t) (hi : i ≤ k2) (h : stepP l c k2 j) : stepP l c i j := by
  obtain ⟨k, a, h1, h2, h3, h4⟩ := h
  exact ⟨k, a, by omega, fun t h5 h6 => by
    by_cases ht : t < k2
    · exact hs t h5 ht
    · exact h2 t (by omega) h6, h3, h4⟩
end Qv

end

section
/- Contract: whether a component fits a part of a path. No condition. -/
set_option linter.unusedVariables false
set_option linter.unusedSimpArgs false
open Go Go.Proofs Go.RowKit
namespace Qv
theorem kill_st (d : Nat) (l : List Nat) : mapV (FV.kill d) (stF l) = stF l := by
  induction l with
  | nil => rfl
  | cons i l ih => show (_, _) :: mapV (FV.kill d) (stF l) = _; rw [ih]; rfl
theorem fz_st (d : Nat) (ys : List AV) (l : List Nat) : mapV (FV.fz d ys) (stF l) = stF l := by
  induction l with
  | nil => rfl
  | cons i l ih => show (_, _) :: mapV (FV.fz d ys) (stF l) = _; rw [ih]; rfl
theorem hasM_eq {maps : List (Nat × List (AV × FV))} {o : Nat} {l0 l : List (AV × FV)} (h : getM maps o = some l0) (e : l0 = l) : ∃ l0, getM maps o = some l0 ∧ l0.length = l.length ∧ ∀ (i : Nat) (p p' : AV × FV), l0[i]? = some p → l[i]? = some p' → p'.1 = p.1 ∧ Weak p.2 p'.2 :=
  hasM_one (e ▸ h)
theorem hasI_eq {its : List (Nat × (Option (AV × AV) × List (AV × AV)))} {q : Nat} {x0 x : Option (AV × AV) × List (AV × AV)} (h : getM its q = some x0) (e : x0 = x) : getM its q = some x := e ▸ h
def FiM (ones : List Atom) (c : UInt8) (st : List Nat) (x : List Nat × List Nat × Option (AV × AV)) : Prop :=
  (∀ i, i ∈ x.2.1 → i ∈ st) ∧ (∀ j, j ∈ x.1 → ∃ i, i ∈ st ∧ stepP ones c i j) ∧ ∀ i, i ∈ st → i ∈ x.2.1 ∨ ∀ j, stepP ones c i j → j ∈ x.1
def FiI (ones : List Atom) (c : UInt8) (st rest : List Nat) (i : Nat) (x : List Nat × Nat) : Prop :=
  i ≤ x.2 ∧ x.2 ≤ ones.length ∧ (∀ t, i ≤ t → t < x.2 → starAt ones t) ∧ (∀ j, j ∈ x.1 → ∃ i, i ∈ st ∧ stepP ones c i j) ∧ (∀ j, i ≤ j → j < x.2 → j ∈ x.1) ∧ ∀ i', i' ∈ st → i' ∈ rest ∨ i' = i ∨ ∀ j, stepP ones c i' j → j ∈ x.1
theorem FiM.of {ones : List Atom} {c : UInt8} {st r1 r2 o2 o3 : List Nat} {i k2 : Nat} {cur : Option (AV × AV)} (h1 : ∀ i', i' ∈ r1 ++ i :: r2 → i' ∈ st) (h : FiI ones c st (r1 ++ r2) i (o2, k2)) (a1 : ∀ j, j ∈ o3 → j ∈ o2 ∨ stepP ones c k2 j)
    (a2 : ∀ j, j ∈ o2 → j ∈ o3) (a3 : ∀ j, stepP ones c k2 j → j ∈ o3) : FiM ones c st (o3, r1 ++ r2, cur) := by
  obtain ⟨g0, g1, g2, g3, g4, g5⟩ := h
  refine ⟨fun i' hi' => h1 i' ?_, fun j hj => ?_, fun i' hi' => ?_⟩
  · simp only [List.mem_append, List.mem_cons] at hi' ⊢
    rcases hi' with h | h
    · exact .inl h
    · exact .inr (.inr h)
  · rcases a1 j hj with h | h
    · exact g3 j h
    · exact ⟨i, h1 i (by simp), stepP_back g2 g0 h⟩
  · rcases g5 i' hi' with h | h | h
    · exact .inl h
    · subst h
      refine .inr fun j hj => ?_
      rcases stepP_at g2 g0 hj with h | h
      · exact a2 j (g4 j h.1 h.2)
      · exact a3 j h
    · exact .inr fun j hj => a2 j (h j hj)
abbrev fiOut (s : Bytes) (k : Nat) : List (Nat × FV) := [(1, .p (.str s)), (2, .ptr 2 0), (6, .p (.int .i64 k)), (7, .ptr 7 0), (14, .p (.int .i64 s.length)), (15, .p (.int .i64 k)), (20, .itr 20)]
abbrev fiObj (cp : Comp) : List (Nat × List FV) := [(2, mapP cp.enc), (7, [.mapr 18])]
set_option maxRecDepth 100000 in
set_option maxHeartbeats 4000000 in
theorem fits_ok (cp : Comp) (s : Bytes) (hc : cp.ones.length ≤ 2 ^ 30) (hf : ∀ a, a ∈ cp.ones → a.fine) (hs : s.length ≤ 2 ^ 30) :
    CallsTo C 131 [.agg cp.enc, .str s] (fun r => ∃ b : Bool, r = .val (.bool b) ∧ (b = true ↔ fitsP cp.ones s)) := by
  refine callsTo_of_evO ⟨[], [], false, [83], [2, 12], []⟩ [1] Tryz.func131 rfl rfl rfl ?_
  have hlen : ((encOnes cp.ones).length : Int) = (cp.ones.length : Int) := by simp [encOnes]
  refine cutR 47 [(1, .p (.str s)), (2, .ptr 2 0)] [(2, mapP cp.enc)] rfl ⟨Weak.refl _, Weak.refl _, trivial⟩ ⟨hasO_one rfl, trivial⟩ ?_
  refine ⟨_, by kernel_rfl, rfl, fits_st [], _, upd_st [] 0, ?_⟩
  refine ⟨11, stK [0], stV [0], ⟨stF [0], rfl, keys_st [0], vals_st [0]⟩, ?_⟩
  refine loopW 47 0 (fun x : Nat × List Nat => [(1, .p (.str s)), (2, .ptr 2 0), (5, .p (encSt x.2)), (14, .p (.int .i64 s.length)), (15, .p (.int .i64 x.1))]) (fun _ => [(2, mapP cp.enc)]) (fun _ => []) [] (fun _ => []) (fun _ => []) (fun _ => [])
    (fun x => x.1 ≤ s.length ∧ ∀ j, j ∈ x.2 ↔ reach cp.ones s x.1 j) (fun x => s.length - x.1) (0, [0]) ⟨Nat.zero_le _, fun j => by simp [reach]⟩ rfl ⟨Weak.refl _, Weak.refl _, Weak.refl _, Weak.refl _, Weak.refl _, trivial⟩ ⟨hasO_one rfl, trivial⟩ trivial trivial trivial trivial ?_
  rintro ⟨k, st⟩ ⟨hk, hst⟩
  have hk : k ≤ s.length := hk
  have hst : ∀ j, j ∈ st ↔ reach cp.ones s k j := hst
  refine al_dec (fun hlt => ?_) (fun hge => ?_)
  · have hlt : k < s.length := by
      have : (k : Int) < (s.length : Int) := hlt
      omega
    obtain ⟨c, hcs⟩ : ∃ c, s[k]? = some c := ⟨_, List.getElem?_eq_getElem hlt⟩
    refine loopW 47 0 (fun x : List Nat × List Nat × Option (AV × AV) => fiOut s k) (fun _ => fiObj cp) (fun _ => []) [] (fun _ => []) (fun x => [(18, stF x.1)]) (fun x => [(20, (x.2.2, stA x.2.1))])
      (FiM cp.ones c st) (fun x => x.2.1.length) ([], st, none) ⟨fun i h => h, fun j h => by simp at h, fun i h => .inl h⟩ rfl ⟨Weak.refl _, Weak.refl _, Weak.refl _, Weak.refl _, Weak.refl _, Weak.refl _, Weak.refl _, trivial⟩ ⟨hasO_one rfl, hasO_one rfl, trivial⟩ trivial trivial ⟨hasM_one rfl, trivial⟩ ⟨by rw [← zip_st]; rfl, trivial⟩ ?_
    rintro ⟨out, rest, cur⟩ ⟨h1, h2, h3⟩
    have h1 : ∀ i, i ∈ rest → i ∈ st := h1
    have h2 : ∀ j, j ∈ out → ∃ i, i ∈ st ∧ stepP cp.ones c i j := h2
    have h3 : ∀ i, i ∈ st → i ∈ rest ∨ ∀ j, stepP cp.ones c i j → j ∈ out := h3
    refine ⟨fun hr => ?_, fun A p B hAB => ?_⟩
    · have hr : rest = [] := by cases rest with | nil => rfl | cons _ _ => cases hr
      refine ⟨18, stK out, stV out, ⟨stF out, rfl, keys_st out, vals_st out⟩, ?_⟩
      refine ⟨((k + 1 : Nat) : Int), by rw [wrap64 (by omega) (by omega)]; omega, ?_⟩
      refine roundW (k + 1, out) ⟨hlt, fun j => ⟨fun hj => ?_, fun hj => ?_⟩⟩ (by show s.length - (k + 1) < s.length - k; omega) rfl ⟨Weak.refl _, Weak.refl _, Weak.refl _, Weak.refl _, Weak.refl _, trivial⟩ ⟨hasO_one rfl, trivial⟩ trivial trivial trivial trivial
      · obtain ⟨i, hi, hij⟩ := h2 j hj
        exact ⟨i, c, (hst i).1 hi, hcs, hij⟩
      · obtain ⟨i, c', hi, hc', hij⟩ := hj
        rw [hcs] at hc'
        obtain rfl := Option.some.inj hc'
        rcases h3 i ((hst i).2 hi) with h | h
        · rw [hr] at h; cases h
        · exact h j hij
    · obtain ⟨r1, i, r2, rfl, rfl, rfl, rfl⟩ := next_st hAB
      have hil : i ∈ st := h1 i (by simp)
      have hic := reach_le ((hst i).1 hil)
      refine ⟨.lex 6, by kernel_rfl, _, rfl, _, rfl, _, rfl, _, rfl, _, rfl, .p (.int .u8 c.toNat), ⟨by omega, c, idx_str rfl hcs, rfl⟩, ?_⟩
      refine .inl ⟨Tryz.f83, Tryz.func83, rfl, rfl, rfl, ?_⟩
      refine cutW 8 1000 [(3, .ptr 1003 0), (4, .ptr 1004 0), (5, .ptr 1005 0)] [(1003, [.p (.sl (encOnes cp.ones))]), (1004, [.p (.int .i64 i)]), (1005, [.p (.int .u8 c.toNat)]), (2, mapP cp.enc), (7, [.mapr 18])] [(47, 0, fiOut s k)] [] [] [(18, stF out)] [(20, (some (.int .i64 (i : Int), .bool true), stA r1 ++ stA r2))]
        rfl ⟨Weak.refl _, Weak.refl _, Weak.refl _, trivial⟩ ⟨hasO_one rfl, hasO_one rfl, hasO_one rfl, hasO_one rfl, hasO_one rfl, trivial⟩ ⟨rfl, ⟨Weak.refl _, Weak.refl _, Weak.refl _, Weak.refl _, Weak.refl _, Weak.refl _, Weak.refl _, trivial⟩, trivial⟩ trivial ⟨hasM_eq rfl (by simp only [kill_st]), trivial⟩ ⟨rfl, trivial⟩ ?_
      refine ⟨[1003, 1005], ?_⟩
      refine frz_one (cells := [.p (.sl (encOnes cp.ones))]) (ys := [.sl (encOnes cp.ones)]) rfl rfl rfl ?_
      refine frz_one (cells := [.p (.int .u8 c.toNat)]) (ys := [.int .u8 c.toNat]) rfl rfl rfl ?_
      refine ⟨_, rfl, rfl, rfl, rfl, ?_⟩
      have hlr : (r1 ++ r2).length < (r1 ++ i :: r2).length := by simp
      refine loopW 31 1000 (fun x : List Nat × Nat => [(0, .yld 1000000), (1, .ptr 1004 0), (2, .p (.imp [.sl (encOnes cp.ones)])), (3, .p (.imp [.int .u8 c.toNat]))]) (fun x => [(1004, [.p (.int .i64 x.2)]), (2, mapP cp.enc), (7, [.mapr 18])])
        (fun _ => [(47, 0, fiOut s k)]) [.ready] (fun _ => []) (fun x => [(18, stF x.1)]) (fun _ => [(20, (some (.int .i64 (i : Int), .bool true), stA r1 ++ stA r2))])
        (FiI cp.ones c st (r1 ++ r2) i) (fun x => cp.ones.length - x.2) (out, i) ⟨Nat.le_refl _, hic, fun t h1 h2 => by omega, h2, fun j h1 h2 => absurd h1 (by have h2 : j < i := h2; omega), fun i' hi' => ?_⟩
        rfl ⟨Weak.refl _, Weak.refl _, Weak.refl _, Weak.refl _, trivial⟩ ⟨hasO_one rfl, hasO_one rfl, hasO_one rfl, trivial⟩ ⟨rfl, ⟨Weak.refl _, Weak.refl _, Weak.refl _, Weak.refl _, Weak.refl _, Weak.refl _, Weak.refl _, trivial⟩, trivial⟩ trivial ⟨hasM_eq rfl (by simp only [kill_st, fz_st]), trivial⟩ ⟨rfl, trivial⟩ ?_
      · rcases h3 i' hi' with h | h
        · simp only [List.mem_append, List.mem_cons] at h ⊢
          rcases h with h | h | h
          · exact .inl (.inl h)
          · exact .inr (.inl h)
          · exact .inl (.inr h)
        · exact .inr (.inr h)
      · rintro ⟨o2, k2⟩ ⟨g0, g1, g2, g3, g4, g5⟩
        have hFi : FiI cp.ones c st (r1 ++ r2) i (o2, k2) := ⟨g0, g1, g2, g3, g4, g5⟩
        have g0 : i ≤ k2 := g0
        have g1 : k2 ≤ cp.ones.length := g1
        have hw : IntKind.i64.wrap ((k2 : Int) + 1) = ((k2 + 1 : Nat) : Int) := by rw [wrap64 (by omega) (by omega)]; omega
        refine al_dec (fun hlt2 => ?_) (fun hge2 => ?_)
        · have hlt2 : k2 < cp.ones.length := by
            have : (k2 : Int) < ((encOnes cp.ones).length : Int) := hlt2
            omega
          obtain ⟨a, ha⟩ : ∃ a, cp.ones[k2]? = some a := ⟨_, List.getElem?_eq_getElem hlt2⟩
          have hix : (encOnes cp.ones)[((k2 : Nat) : Int).toNat]? = some a.enc := by simp [encOnes, ha]
          have hfa := hf a (List.mem_of_getElem? ha)
          cases a with
          | bad => exact hfa.elim
          | star =>
            have hst2 : starAt cp.ones k2 := ⟨_, ha, rfl⟩
            refine ⟨by omega, _, hix, rfl, ?_⟩
            refine ⟨rfl, _, by kernel_rfl, rfl, fits_st o2, _, upd_st o2 k2, ?_⟩
            refine al_not ?_
            refine cutW 31 1000 [(0, .yld 1000000), (1, .ptr 1004 0), (2, .p (.imp [.sl (encOnes cp.ones)])), (3, .p (.imp [.int .u8 c.toNat]))] [(1004, [.p (.int .i64 k2)]), (2, mapP cp.enc), (7, [.mapr 18])] [(47, 0, fiOut s k)] [.ready] [] [(18, stF (addN o2 k2))] [(20, (some (.int .i64 (i : Int), .bool true), stA r1 ++ stA r2))]
              rfl ⟨Weak.refl _, Weak.refl _, Weak.refl _, Weak.refl _, trivial⟩ ⟨hasO_one rfl, hasO_one rfl, hasO_one rfl, trivial⟩ ⟨rfl, ⟨Weak.refl _, Weak.refl _, Weak.refl _, Weak.refl _, Weak.refl _, Weak.refl _, Weak.refl _, trivial⟩, trivial⟩ trivial ⟨hasM_eq rfl (by simp only [kill_st, fz_st]), trivial⟩ ⟨rfl, trivial⟩ ?_
            refine ⟨_, hw, ?_⟩
            refine roundW (addN o2 k2, k2 + 1) ⟨by show i ≤ k2 + 1; omega, by show k2 + 1 ≤ _; omega, fun t h5 h6 => ?_, fun j hj => ?_, fun j h5 h6 => ?_, fun i' hi' => ?_⟩ (by show cp.ones.length - (k2 + 1) < cp.ones.length - k2; omega)
              rfl ⟨Weak.refl _, Weak.refl _, Weak.refl _, Weak.refl _, trivial⟩ ⟨hasO_one rfl, hasO_one rfl, hasO_one rfl, trivial⟩ ⟨rfl, ⟨Weak.refl _, Weak.refl _, Weak.refl _, Weak.refl _, Weak.refl _, Weak.refl _, Weak.refl _, trivial⟩, trivial⟩ trivial ⟨hasM_eq rfl (by simp only [kill_st, fz_st]), trivial⟩ ⟨rfl, trivial⟩
            · have h6 : t < k2 + 1 := h6
              by_cases ht : t < k2
              · exact g2 t h5 ht
              · obtain rfl : t = k2 := by omega
                exact hst2
            · rcases mem_addN.1 hj with h | h
              · exact g3 j h
              · exact ⟨i, hil, stepP_back g2 g0 ⟨k2, _, Nat.le_refl _, fun t h5 h6 => by omega, ha, .inl ⟨rfl, h⟩⟩⟩
            · have h6 : j < k2 + 1 := h6
              by_cases ht : j < k2
              · exact mem_addN.2 (.inl (g4 j h5 ht))
              · exact mem_addN.2 (.inr (by omega))
            · rcases g5 i' hi' with h | h | h
              · exact .inl h
              · exact .inr (.inl h)
              · exact .inr (.inr fun j hj => mem_addN.2 (.inl (h j hj)))
          | any =>
            refine ⟨by omega, _, hix, rfl, ?_⟩
            refine ⟨.lex 6, by kernel_rfl, _, rfl, _, rfl, .p (.imp Atom.any.enc), ⟨by omega, _, hix, rfl, rfl⟩, _, rfl, _, rfl, _, rfl, ?_⟩
            refine ⟨_, (any_ok c).opn, fun r hr => ?_⟩
            subst hr
            cases hq : ((c != 47)) with
            | true =>
              refine ⟨_, hw, rfl, _, by kernel_rfl, rfl, fits_st o2, _, upd_st o2 (k2 + 1), ?_⟩
              refine roundW (addN o2 (k2 + 1), r1 ++ r2, some (.int .i64 (i : Int), .bool true)) (FiM.of h1 hFi (fun j hj => ?_) (fun j hj => mem_addN.2 (.inl hj)) (fun j hj => mem_addN.2 (.inr ((stepP_some ha rfl).1 hj).2))) hlr
                rfl ⟨Weak.refl _, Weak.refl _, Weak.refl _, Weak.refl _, Weak.refl _, Weak.refl _, Weak.refl _, trivial⟩ ⟨hasO_one rfl, hasO_one rfl, trivial⟩ trivial trivial ⟨hasM_eq rfl (by simp only [kill_st, fz_st]), trivial⟩ ⟨hasI_eq (x0 := (some (.int .i64 (i : Int), .bool true), stA r1 ++ stA r2)) rfl (by rw [stA_append]), trivial⟩
              rcases mem_addN.1 hj with h | h
              · exact .inl h
              · exact .inr ((stepP_some ha rfl).2 ⟨hq, h⟩)
            | false =>
              refine roundW (o2, r1 ++ r2, some (.int .i64 (i : Int), .bool true)) (FiM.of h1 hFi (fun j hj => .inl hj) (fun j hj => hj) (fun j hj => absurd (hq.symm.trans ((stepP_some ha rfl).1 hj).1) (by simp))) hlr
                rfl ⟨Weak.refl _, Weak.refl _, Weak.refl _, Weak.refl _, Weak.refl _, Weak.refl _, Weak.refl _, trivial⟩ ⟨hasO_one rfl, hasO_one rfl, trivial⟩ trivial trivial ⟨hasM_eq rfl (by simp only [kill_st, fz_st]), trivial⟩ ⟨hasI_eq (x0 := (some (.int .i64 (i : Int), .bool true), stA r1 ++ stA r2)) rfl (by rw [stA_append]), trivial⟩
          | lit d =>
            refine ⟨by omega, _, hix, rfl, ?_⟩
            refine ⟨.lex 6, by kernel_rfl, _, rfl, _, rfl, .p (.imp (Atom.lit d).enc), ⟨by omega, _, hix, rfl, rfl⟩, _, rfl, _, rfl, _, rfl, ?_⟩
            refine ⟨_, (lit_ok c d).opn, fun r hr => ?_⟩
            subst hr
            cases hq : ((c == d)) with
            | true =>
              refine ⟨_, hw, rfl, _, by kernel_rfl, rfl, fits_st o2, _, upd_st o2 (k2 + 1), ?_⟩
              refine roundW (addN o2 (k2 + 1), r1 ++ r2, some (.int .i64 (i : Int), .bool true)) (FiM.of h1 hFi (fun j hj => ?_) (fun j hj => mem_addN.2 (.inl hj)) (fun j hj => mem_addN.2 (.inr ((stepP_some ha rfl).1 hj).2))) hlr
                rfl ⟨Weak.refl _, Weak.refl _, Weak.refl _, Weak.refl _, Weak.refl _, Weak.refl _, Weak.refl _, trivial⟩ ⟨hasO_one rfl, hasO_one rfl, trivial⟩ trivial trivial ⟨hasM_eq rfl (by simp only [kill_st, fz_st]), trivial⟩ ⟨hasI_eq (x0 := (some (.int .i64 (i : Int), .bool true), stA r1 ++ stA r2)) rfl (by rw [stA_append]), trivial⟩
              rcases mem_addN.1 hj with h | h
              · exact .inl h
              · exact .inr ((stepP_some ha rfl).2 ⟨hq, h⟩)
            | false =>
              refine roundW (o2, r1 ++ r2, some (.int .i64 (i : Int), .bool true)) (FiM.of h1 hFi (fun j hj => .inl hj) (fun j hj => hj) (fun j hj => absurd (hq.symm.trans ((stepP_some ha rfl).1 hj).1) (by simp))) hlr
                rfl ⟨Weak.refl _, Weak.refl _, Weak.refl _, Weak.refl _, Weak.refl _, Weak.refl _, Weak.refl _, trivial⟩ ⟨hasO_one rfl, hasO_one rfl, trivial⟩ trivial trivial ⟨hasM_eq rfl (by simp only [kill_st, fz_st]), trivial⟩ ⟨hasI_eq (x0 := (some (.int .i64 (i : Int), .bool true), stA r1 ++ stA r2)) rfl (by rw [stA_append]), trivial⟩
          | cls set neg =>
            refine ⟨by omega, _, hix, rfl, ?_⟩
            refine ⟨.lex 6, by kernel_rfl, _, rfl, _, rfl, .p (.imp (Atom.cls set neg).enc), ⟨by omega, _, hix, rfl, rfl⟩, _, rfl, _, rfl, _, rfl, ?_⟩
            refine ⟨_, (cls_ok c set neg hfa).opn, fun r hr => ?_⟩
            subst hr
            cases hq : (clsB set neg c) with
            | true =>
              refine ⟨_, hw, rfl, _, by kernel_rfl, rfl, fits_st o2, _, upd_st o2 (k2 + 1), ?_⟩
              refine roundW (addN o2 (k2 + 1), r1 ++ r2, some (.int .i64 (i : Int), .bool true)) (FiM.of h1 hFi (fun j hj => ?_) (fun j hj => mem_addN.2 (.inl hj)) (fun j hj => mem_addN.2 (.inr ((stepP_some ha rfl).1 hj).2))) hlr
                rfl ⟨Weak.refl _, Weak.refl _, Weak.refl _, Weak.refl _, Weak.refl _, Weak.refl _, Weak.refl _, trivial⟩ ⟨hasO_one rfl, hasO_one rfl, trivial⟩ trivial trivial ⟨hasM_eq rfl (by simp only [kill_st, fz_st]), trivial⟩ ⟨hasI_eq (x0 := (some (.int .i64 (i : Int), .bool true), stA r1 ++ stA r2)) rfl (by rw [stA_append]), trivial⟩
              rcases mem_addN.1 hj with h | h
              · exact .inl h
              · exact .inr ((stepP_some ha rfl).2 ⟨hq, h⟩)
            | false =>
              refine roundW (o2, r1 ++ r2, some (.int .i64 (i : Int), .bool true)) (FiM.of h1 hFi (fun j hj => .inl hj) (fun j hj => hj) (fun j hj => absurd (hq.symm.trans ((stepP_some ha rfl).1 hj).1) (by simp))) hlr
                rfl ⟨Weak.refl _, Weak.refl _, Weak.refl _, Weak.refl _, Weak.refl _, Weak.refl _, Weak.refl _, trivial⟩ ⟨hasO_one rfl, hasO_one rfl, trivial⟩ trivial trivial ⟨hasM_eq rfl (by simp only [kill_st, fz_st]), trivial⟩ ⟨hasI_eq (x0 := (some (.int .i64 (i : Int), .bool true), stA r1 ++ stA r2)) rfl (by rw [stA_append]), trivial⟩
        · have hge2 : cp.ones.length ≤ k2 := by
            apply Nat.le_of_not_lt
            intro h
            exact hge2 (show (k2 : Int) < ((encOnes cp.ones).length : Int) by omega)
          refine roundW (o2, r1 ++ r2, some (.int .i64 (i : Int), .bool true)) (FiM.of h1 hFi (fun j hj => .inl hj) (fun j hj => hj) (fun j hj => (stepP_none hge2 hj).elim)) hlr
            rfl ⟨Weak.refl _, Weak.refl _, Weak.refl _, Weak.refl _, Weak.refl _, Weak.refl _, Weak.refl _, trivial⟩ ⟨hasO_one rfl, hasO_one rfl, trivial⟩ trivial trivial ⟨hasM_eq rfl (by simp only [kill_st, fz_st]), trivial⟩ ⟨hasI_eq (x0 := (some (.int .i64 (i : Int), .bool true), stA r1 ++ stA r2)) rfl (by rw [stA_append]), trivial⟩
  · have hge : k = s.length := by
      have : ¬ (k : Int) < (s.length : Int) := hge
      omega
    refine loopW 47 0 (fun x : List Nat × Option (AV × AV) => [(2, .ptr 2 0), (38, .itr 38)]) (fun _ => [(2, mapP cp.enc)]) (fun _ => []) [] (fun _ => []) (fun _ => []) (fun x => [(38, (x.2, stA x.1))])
      (fun x => (∀ i, i ∈ x.1 → i ∈ st) ∧ ∀ i, i ∈ st → i ∈ x.1 ∨ endedF cp.ones i = false) (fun x => x.1.length) (st, none) ⟨fun i h => h, fun i h => .inl h⟩ rfl ⟨Weak.refl _, Weak.refl _, trivial⟩ ⟨hasO_one rfl, trivial⟩ trivial trivial trivial ⟨by rw [← zip_st]; rfl, trivial⟩ ?_
    rintro ⟨rest, cur⟩ ⟨h1, h2⟩
    have h1 : ∀ i, i ∈ rest → i ∈ st := h1
    have h2 : ∀ i, i ∈ st → i ∈ rest ∨ endedF cp.ones i = false := h2
    refine ⟨fun hr => ?_, fun A p B hAB => ?_⟩
    · have hr : rest = [] := by cases rest with | nil => rfl | cons _ _ => cases hr
      refine ⟨false, rfl, by simp, fun ⟨i, hi, he⟩ => ?_⟩
      rw [← hge] at hi
      rcases h2 i ((hst i).2 hi) with h | h
      · rw [hr] at h; cases h
      · rw [h] at he; exact he
    · obtain ⟨r1, i, r2, rfl, rfl, rfl, rfl⟩ := next_st hAB
      have hil : i ∈ st := h1 i (by simp)
      have hre := (hst i).1 hil
      have hic := reach_le hre
      refine ⟨_, (ended_ok cp.ones i hc (by omega)).opn, fun r hr => ?_⟩
      subst hr
      cases hq : endedF cp.ones i with
      | true => exact ⟨true, rfl, fun _ => ⟨i, hge ▸ hre, hq⟩, fun _ => rfl⟩
      | false =>
        refine roundW (r1 ++ r2, some (.int .i64 (i : Int), .bool true)) ⟨fun i' hi' => h1 i' ?_, fun i' hi' => ?_⟩ (by show (r1 ++ r2).length < (r1 ++ i :: r2).length; simp) rfl ⟨Weak.refl _, Weak.refl _, trivial⟩ ⟨hasO_one rfl, trivial⟩ trivial trivial trivial ⟨hasI_eq (x0 := (some (.int .i64 (i : Int), .bool true), stA r1 ++ stA r2)) rfl (by rw [stA_append]), trivial⟩
        · have hi' : i' ∈ r1 ++ r2 := hi'
          simp only [List.mem_append, List.mem_cons] at hi' ⊢
          rcases hi' with h | h
          · exact .inl h
          · exact .inr (.inr h)
        · rcases h2 i' hi' with h | h
          · simp only [List.mem_append, List.mem_cons] at h ⊢
            rcases h with h | h | h
            · exact .inl (.inl h)
            · subst h; exact .inr hq
            · exact .inl (.inr h)
          · exact .inr h
end Qv

end
