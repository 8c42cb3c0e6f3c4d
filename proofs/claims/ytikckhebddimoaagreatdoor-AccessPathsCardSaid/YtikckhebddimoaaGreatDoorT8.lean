/- Several texts in one: Contract of the reference's glob: component1, Contract of the reference's glob: after, Contract of the reference's glob: Match. No condition. -/
import Derived.Test.YtikckhebddimoaaGreatDoorT7

section
/- Contract of the reference's glob: component1. No condition. -/
set_option linter.unusedVariables false
set_option linter.unusedSimpArgs false
open Go Go.Proofs Go.RowKit
namespace Qv
abbrev c1Slots (l : List Atom) (s : Bytes) (k : Nat) (more : List (Nat × FV)) : List (Nat × FV) :=
  (0, .p (.sl (refOnes l))) :: (1, .p (.str s)) :: (5, .osl 13 4 1) :: (6, .p (.int .i64 k)) :: more
theorem drop_tbl {a : Atom} {m : Nat} {b : Bool} (h : a.tbl[m]? = some b) : dropN (m * 1) (a.tbl.map AV.bool) = .bool b :: (a.tbl.drop (m + 1)).map AV.bool := drop_set h
theorem tbl_get (a : Atom) (c : UInt8) : a.tbl[c.toNat]? = some (a.fit c) := by
  have : c.toNat < 256 := c.toNat_lt
  simp [Atom.tbl, this]
theorem kill_enc (d : Nat) (r : List Bool) : FV.killL d (encSet r) = encSet r := by
  rw [FV.killL_eq]
  induction r with
  | nil => rfl
  | cons b r ih => show _ :: List.map _ (encSet r) = _; rw [ih]; rfl
theorem rn_enc (d e : Nat) (r : List Bool) : FV.rnL d e (encSet r) = encSet r := by
  rw [FV.rnL_eq]
  induction r with
  | nil => rfl
  | cons b r ih => show _ :: List.map _ (encSet r) = _; rw [ih]; rfl
theorem hasO_eq {objs : List (Nat × List FV)} {o : Nat} {l0 l : List FV} (h : Qv.getObj objs o = some l0) (e : l0 = l) : ∃ ys, Qv.getObj objs o = some ys ∧ ys.length = l.length ∧ ∀ (i : Nat) (x y : FV), ys[i]? = some x → l[i]? = some y → Weak x y :=
  hasO_one (e ▸ h)
set_option maxRecDepth 100000 in
set_option maxHeartbeats 4000000 in
theorem component1_ok (l : List Atom) (s : Bytes) (hl : l.length ≤ 2 ^ 30) (hs : s.length ≤ 2 ^ 30) :
    CallsTo C 158 [.sl (refOnes l), .str s] (fun r => ∃ b : Bool, r = .val (.bool b) ∧ (b = true ↔ fitsP l s)) := by
  refine callsTo_of_evO ⟨[], [], false, [], [], [20]⟩ [] Tryz.func158 rfl rfl rfl ?_
  have hlen : ((refOnes l).length : Int) = (l.length : Int) := by simp [refOnes]
  have hw1 : IntKind.i64.wrap (((refOnes l).length : Int) + 1) = ((l.length + 1 : Nat) : Int) := by rw [hlen, wrap64 (by omega) (by omega)]; omega
  have hel : ∀ (t : Nat) (a : Atom), l[t]? = some a → (refOnes l)[((t : Nat) : Int).toNat]? = some a.ref := fun t a h => by simp [refOnes, h]
  refine ⟨_, hw1, l.length + 1, rfl, rfl, by omega, by omega, encSet (List.replicate (l.length + 1) false), kill_row _ _, ?_⟩
  have h0 : 0 < (List.replicate (l.length + 1) false).length := by rw [List.length_replicate]; omega
  refine ⟨0, 0, rfl, rfl, by rw [encSet_length]; omega, _, _, _, encSet_split h0, encSet_at h0, _, encSet_set h0, ?_⟩
  refine loopR 96 (fun x : Nat × List Bool => c1Slots l s x.1 []) (fun x => [(13, encSet x.2)]) (fun x => x.1 ≤ s.length ∧ RowP x.2 l.length (reach l s x.1)) (fun x => s.length - x.1) (0, (List.replicate (l.length + 1) false).set 0 true)
    ⟨Nat.zero_le _, ((RowP.none l.length).put (t := 0) (Nat.zero_le _)).congr fun j hj => by simp [reach]⟩ rfl ⟨Weak.refl _, Weak.refl _, Weak.refl _, Weak.refl _, trivial⟩ ⟨hasO_one rfl, trivial⟩ ?_
  rintro ⟨k, row⟩ ⟨hk, hrow⟩
  have hk : k ≤ s.length := hk
  have hrow : RowP row l.length (reach l s k) := hrow
  have hwk : IntKind.i64.wrap ((k : Int) + 1) = ((k + 1 : Nat) : Int) := by rw [wrap64 (by omega) (by omega)]; omega
  refine al_dec (fun _ => ?_) (fun h => absurd (show (k : Int) ≤ (s.length : Int) by omega) h)
  refine loopR 96 (fun x : Nat × List Bool => c1Slots l s k [(7, .p (.int .i64 x.1))]) (fun x => [(13, encSet x.2)]) (fun x => x.1 ≤ l.length ∧ RowP x.2 l.length (fun j => (j ≤ x.1 ∧ closedP l s k j) ∨ (x.1 < j ∧ reach l s k j))) (fun x => l.length - x.1) (0, row)
    ⟨Nat.zero_le _, hrow.congr fun j hj => ?_⟩ rfl ⟨Weak.refl _, Weak.refl _, Weak.refl _, Weak.refl _, Weak.refl _, trivial⟩ ⟨hasO_one rfl, trivial⟩ ?_
  · show reach l s k j ↔ (j ≤ 0 ∧ closedP l s k j) ∨ (0 < j ∧ reach l s k j)
    by_cases h : j = 0
    · subst h
      rw [closedP_zero]
      simp
    · have : 0 < j := by omega
      have h2 : ¬ j ≤ 0 := by omega
      simp [this, h2]
  rintro ⟨t, row⟩ ⟨ht, hrow⟩
  have ht : t ≤ l.length := ht
  have hrow : RowP row l.length (fun j => (j ≤ t ∧ closedP l s k j) ∨ (t < j ∧ reach l s k j)) := hrow
  have hrl := hrow.len
  have hwt : IntKind.i64.wrap ((t : Int) + 1) = ((t + 1 : Nat) : Int) := by rw [wrap64 (by omega) (by omega)]; omega
  refine al_dec (fun hlt => ?_) (fun hge => ?_)
  · have hlt : t < l.length := by
      have : (t : Int) < ((refOnes l).length : Int) := hlt
      omega
    obtain ⟨a, ha⟩ : ∃ a, l[t]? = some a := ⟨_, List.getElem?_eq_getElem hlt⟩
    have htr : t < row.length := by omega
    have htr1 : t + 1 < row.length := by omega
    have hat := hrow.get htr
    have hat : row[t] = true ↔ closedP l s k t := hat.trans ⟨fun h => by rcases h with h | h; exact h.2; exact absurd h.1 (by omega), fun h => .inl ⟨Nat.le_refl _, h⟩⟩
    have keep : ¬ (closedP l s k t ∧ starAt l t) → RowP row l.length (fun j => (j ≤ t + 1 ∧ closedP l s k j) ∨ (t + 1 < j ∧ reach l s k j)) := fun hno => hrow.congr fun j hj => by
      by_cases h : j = t + 1
      · subst h
        have h1 : ¬ t + 1 ≤ t := by omega
        rw [closedP_succ]
        simp [h1, hno]
      · by_cases h2 : j ≤ t
        · have h3 : j ≤ t + 1 := by omega
          have h4 : ¬ t < j := by omega
          have h5 : ¬ t + 1 < j := by omega
          simp [h2, h3, h4, h5]
        · have h3 : ¬ j ≤ t + 1 := by omega
          have h4 : t < j := by omega
          have h5 : t + 1 < j := by omega
          simp [h2, h3, h4, h5]
    refine ⟨none, ?_⟩
    refine ⟨t, t * 1, rfl, rfl, by show t * 1 + 1 ≤ (encSet row).length; rw [encSet_length]; omega, _, _, _, encSet_split htr, encSet_at htr, ?_⟩
    cases hb : row[t] with
    | false =>
      exact ⟨_, hwt, roundR (t + 1, row) ⟨hlt, keep fun h => by have := hat.2 h.1; rw [hb] at this; cases this⟩ (by show l.length - (t + 1) < l.length - t; omega) rfl ⟨Weak.refl _, Weak.refl _, Weak.refl _, Weak.refl _, Weak.refl _, trivial⟩ ⟨hasO_one rfl, trivial⟩⟩
    | true =>
      refine ⟨by omega, (.bool a.isStar :: .bool a.isLit :: a.tbl.map AV.bool), hel t a ha, ref_len a, ?_⟩
      cases hst : a.isStar with
      | false =>
        exact ⟨_, hwt, roundR (t + 1, row) ⟨hlt, keep fun h => by have := starAt_some ha h.2; rw [hst] at this; cases this⟩ (by show l.length - (t + 1) < l.length - t; omega) rfl ⟨Weak.refl _, Weak.refl _, Weak.refl _, Weak.refl _, Weak.refl _, trivial⟩ ⟨hasO_one rfl, trivial⟩⟩
      | true =>
        refine ⟨_, hwt, ?_⟩
        refine ⟨t + 1, (t + 1) * 1, rfl, rfl, by show (t + 1) * 1 + 1 ≤ (encSet row).length; rw [encSet_length]; omega, _, _, _, encSet_split htr1, encSet_at htr1, _, encSet_set htr1, ?_⟩
        refine ⟨_, hwt, roundR (t + 1, row.set (t + 1) true) ⟨hlt, (hrow.put (t := t + 1) (by omega)).congr fun j hj => ?_⟩ (by show l.length - (t + 1) < l.length - t; omega) rfl ⟨Weak.refl _, Weak.refl _, Weak.refl _, Weak.refl _, Weak.refl _, trivial⟩ ⟨hasO_one rfl, trivial⟩⟩
        show (((j ≤ t ∧ closedP l s k j) ∨ (t < j ∧ reach l s k j)) ∨ j = t + 1) ↔ (j ≤ t + 1 ∧ closedP l s k j) ∨ (t + 1 < j ∧ reach l s k j)
        have hcl : closedP l s k (t + 1) := closedP_succ.2 (.inr ⟨hat.1 hb, _, ha, hst⟩)
        by_cases h : j = t + 1
        · subst h
          simp [hcl]
        · by_cases h2 : j ≤ t
          · have h3 : j ≤ t + 1 := by omega
            have h4 : ¬ t < j := by omega
            have h5 : ¬ t + 1 < j := by omega
            simp [h2, h3, h4, h5, h]
          · have h3 : ¬ j ≤ t + 1 := by omega
            have h4 : t < j := by omega
            have h5 : t + 1 < j := by omega
            simp [h2, h3, h4, h5, h]
  · have hte : t = l.length := by
      have : ¬ (t : Int) < ((refOnes l).length : Int) := hge
      omega
    subst hte
    have hrow : RowP row l.length (closedP l s k) := hrow.congr fun j hj => by
      have h1 : ¬ l.length < j := by omega
      simp [hj, h1]
    refine al_eq (fun he => ?_) (fun he => ?_)
    · have he : k = s.length := by
        have : (k : Int) = (s.length : Int) := he
        omega
      subst he
      have hlr : l.length < row.length := by omega
      refine ⟨l.length, l.length * 1, hlen, rfl, by show l.length * 1 + 1 ≤ (encSet row).length; rw [encSet_length]; omega, _, _, _, encSet_split hlr, encSet_at hlr, ?_⟩
      exact ⟨_, rfl, (hrow.get hlr).trans closedP_end⟩
    · have hks : k < s.length := by
        have : ¬ (k : Int) = (s.length : Int) := he
        omega
      obtain ⟨c, hc⟩ : ∃ c, s[k]? = some c := ⟨_, List.getElem?_eq_getElem hks⟩
      refine ⟨_, hw1, l.length + 1, rfl, rfl, by omega, by omega, encSet (List.replicate (l.length + 1) false), kill_row _ _, ?_⟩
      refine loopR 96 (fun x : Nat × List Bool => c1Slots l s k [(8, .osl 50 4 1), (9, .p (.int .i64 x.1))]) (fun x => [(13, encSet row), (50, encSet x.2)]) (fun x => x.1 ≤ l.length ∧ RowP x.2 l.length (nextP l s k c x.1)) (fun x => l.length - x.1) (0, List.replicate (l.length + 1) false)
        ⟨Nat.zero_le _, (RowP.none l.length).congr fun j hj => ⟨fun h => h.elim, fun ⟨t', a, h, _⟩ => absurd h (Nat.not_lt_zero _)⟩⟩ rfl ⟨Weak.refl _, Weak.refl _, Weak.refl _, Weak.refl _, Weak.refl _, Weak.refl _, trivial⟩ ⟨hasO_eq rfl (by simp only [kill_enc]), hasO_one rfl, trivial⟩ ?_
      rintro ⟨u, row2⟩ ⟨hu, hrow2⟩
      have hu : u ≤ l.length := hu
      have hrow2 : RowP row2 l.length (nextP l s k c u) := hrow2
      have hr2l := hrow2.len
      have hwu : IntKind.i64.wrap ((u : Int) + 1) = ((u + 1 : Nat) : Int) := by rw [wrap64 (by omega) (by omega)]; omega
      refine al_dec (fun hlt => ?_) (fun hge => ?_)
      · have hlt : u < l.length := by
          have : (u : Int) < ((refOnes l).length : Int) := hlt
          omega
        obtain ⟨a, ha⟩ : ∃ a, l[u]? = some a := ⟨_, List.getElem?_eq_getElem hlt⟩
        have hur : u < row.length := by omega
        have hu2 : u < row2.length := by omega
        have hu3 : u + 1 < row2.length := by omega
        have hau := hrow.get hur
        have keep : ¬ (closedP l s k u ∧ (a.isStar = true ∨ a.fit c = true)) → RowP row2 l.length (nextP l s k c (u + 1)) := fun hno => hrow2.congr fun j hj => by
          rw [nextP_succ ha]
          constructor
          · exact .inl
          · rintro (h | ⟨h1, ⟨h2, -⟩ | ⟨-, h2, -⟩⟩)
            · exact h
            · exact absurd ⟨h1, .inl h2⟩ hno
            · exact absurd ⟨h1, .inr h2⟩ hno
        refine ⟨none, ?_⟩
        refine ⟨u, u * 1, rfl, rfl, by show u * 1 + 1 ≤ (encSet row).length; rw [encSet_length]; omega, _, _, _, encSet_split hur, encSet_at hur, ?_⟩
        cases hb : row[u] with
        | false =>
          refine ⟨.lex 15, by kernel_rfl, _, rfl, _, rfl, .eptr 13 (u * 1) 0, ⟨u, u * 1, rfl, rfl, by show u * 1 + 1 ≤ (encSet row).length; rw [encSet_length]; omega, rfl⟩, .p (.bool false), ⟨_, _, _, encSet_split hur, encSet_at hur, by rw [hb]; exact rfl⟩, _, rfl, _, rfl, ?_⟩
          exact ⟨_, hwu, roundR (u + 1, row2) ⟨hlt, keep fun h => by have := hau.2 h.1; rw [hb] at this; cases this⟩ (by show l.length - (u + 1) < l.length - u; omega) rfl ⟨Weak.refl _, Weak.refl _, Weak.refl _, Weak.refl _, Weak.refl _, Weak.refl _, trivial⟩ ⟨hasO_one rfl, hasO_one rfl, trivial⟩⟩
        | true =>
          have hcl := hau.1 hb
          refine ⟨by omega, (.bool a.isStar :: .bool a.isLit :: a.tbl.map AV.bool), hel u a ha, ref_len a, ?_⟩
          cases hst : a.isStar with
          | true =>
            refine ⟨u, u * 1, rfl, rfl, by show u * 1 + 1 ≤ (encSet row2).length; rw [encSet_length]; omega, _, _, _, encSet_split hu2, encSet_at hu2, _, encSet_set hu2, ?_⟩
            refine ⟨_, hwu, roundR (u + 1, row2.set u true) ⟨hlt, (hrow2.put (t := u) (by omega)).congr fun j hj => ?_⟩ (by show l.length - (u + 1) < l.length - u; omega) rfl ⟨Weak.refl _, Weak.refl _, Weak.refl _, Weak.refl _, Weak.refl _, Weak.refl _, trivial⟩ ⟨hasO_one rfl, hasO_one rfl, trivial⟩⟩
            show (nextP l s k c u j ∨ j = u) ↔ nextP l s k c (u + 1) j
            rw [nextP_succ ha]
            simp [hcl, hst]
          | false =>
            refine ⟨.lex 15, by kernel_rfl, _, rfl, _, rfl, .eptr 13 (u * 1) 0, ⟨u, u * 1, rfl, rfl, by show u * 1 + 1 ≤ (encSet row).length; rw [encSet_length]; omega, rfl⟩, .p (.bool true), ⟨_, _, _, encSet_split hur, encSet_at hur, by rw [hb]; exact rfl⟩, _, rfl, _, rfl, _, rfl, _, rfl, _, rfl,
              .p (.int .u8 c.toNat), ⟨by omega, c, idx_str rfl hc, rfl⟩, .p (.imp a.ref), ⟨by omega, a.ref, hel u a ha, ref_len a, rfl⟩, .p (.imp (a.tbl.map AV.bool)), rfl, .p (.imp (.bool (a.fit c) :: (a.tbl.drop (c.toNat + 1)).map AV.bool)), ⟨c.toNat, rfl, c.toNat_lt, _, drop_tbl (tbl_get a c), rfl⟩, .p (.bool (a.fit c)), rfl, _, rfl, ?_⟩
            cases hfit : a.fit c with
            | true =>
              refine ⟨_, hwu, ?_⟩
              refine ⟨u + 1, (u + 1) * 1, rfl, rfl, by show (u + 1) * 1 + 1 ≤ (encSet row2).length; rw [encSet_length]; omega, _, _, _, encSet_split hu3, encSet_at hu3, _, encSet_set hu3, ?_⟩
              refine ⟨_, hwu, roundR (u + 1, row2.set (u + 1) true) ⟨hlt, (hrow2.put (t := u + 1) (by omega)).congr fun j hj => ?_⟩ (by show l.length - (u + 1) < l.length - u; omega) rfl ⟨Weak.refl _, Weak.refl _, Weak.refl _, Weak.refl _, Weak.refl _, Weak.refl _, trivial⟩ ⟨hasO_one rfl, hasO_one rfl, trivial⟩⟩
              show (nextP l s k c u j ∨ j = u + 1) ↔ nextP l s k c (u + 1) j
              rw [nextP_succ ha]
              simp [hcl, hst, hfit]
            | false =>
              exact ⟨_, hwu, roundR (u + 1, row2) ⟨hlt, keep fun h => by rcases h.2 with h | h; rw [hst] at h; cases h; rw [hfit] at h; cases h⟩ (by show l.length - (u + 1) < l.length - u; omega) rfl ⟨Weak.refl _, Weak.refl _, Weak.refl _, Weak.refl _, Weak.refl _, Weak.refl _, trivial⟩ ⟨hasO_one rfl, hasO_one rfl, trivial⟩⟩
      · have hue : u = l.length := by
          have : ¬ (u : Int) < ((refOnes l).length : Int) := hge
          omega
        subst hue
        refine ⟨50, 13, rfl, rfl, ?_⟩
        exact ⟨_, hwk, roundR (k + 1, row2) ⟨hks, hrow2.congr fun j hj => nextP_all hc⟩ (by show s.length - (k + 1) < s.length - k; omega) rfl ⟨Weak.refl _, Weak.refl _, Weak.refl _, Weak.refl _, trivial⟩ ⟨hasO_eq rfl (by simp only [kill_enc, rn_enc]), trivial⟩⟩
end Qv
end

section
/- Contract of the reference's glob: after. No condition. -/
set_option linter.unusedVariables false
set_option linter.unusedSimpArgs false
open Go Go.Proofs Go.RowKit
namespace Qv
abbrev afSlots (cs : List Comp) (P : List Bytes) (k : Nat) (more : List (Nat × FV)) : List (Nat × FV) :=
  (0, .p (.sl (refComps cs))) :: (1, .p (encS P)) :: (5, .osl 13 4 1) :: (6, .p (.int .i64 k)) :: more
def beforeC (cs : List Comp) (P : List Bytes) : Nat → Nat → Prop
  | 0, j => j = 0
  | k + 1, j => ∃ i p, reachC cs P k i ∧ P[k]? = some p ∧ stepC cs p i j
theorem reachC_before {cs : List Comp} {P : List Bytes} : ∀ {k j : Nat}, reachC cs P k j ↔ ∃ i, beforeC cs P k i ∧ closP cs i j
  | 0, j => ⟨fun h => ⟨0, rfl, h⟩, fun ⟨i, h1, h2⟩ => by
      have h1 : i = 0 := h1
      subst h1; exact h2⟩
  | k + 1, j => ⟨fun ⟨i, p, j', h1, h2, h3, h4⟩ => ⟨j', ⟨i, p, h1, h2, h3⟩, h4⟩, fun ⟨j', ⟨i, p, h1, h2, h3⟩, h4⟩ => ⟨i, p, j', h1, h2, h3, h4⟩⟩
theorem reachC_zero {cs : List Comp} {P : List Bytes} {k : Nat} : reachC cs P k 0 ↔ beforeC cs P k 0 := by
  rw [reachC_before]
  constructor
  · rintro ⟨i, h1, h2, -⟩
    obtain rfl : i = 0 := by omega
    exact h1
  · exact fun h => ⟨0, h, closP.refl cs 0⟩
theorem reachC_succ {cs : List Comp} {P : List Bytes} {k j : Nat} : reachC cs P k (j + 1) ↔ beforeC cs P k (j + 1) ∨ (reachC cs P k j ∧ deepAt cs j) := by
  rw [reachC_before, reachC_before]
  constructor
  · rintro ⟨i, h1, h2, h3⟩
    by_cases h : i = j + 1
    · subst h; exact .inl h1
    · exact .inr ⟨⟨i, h1, by omega, fun t h4 h5 => h3 t h4 (by omega)⟩, h3 j (by omega) (by omega)⟩
  · rintro (h | ⟨⟨i, h1, h2, h3⟩, h4⟩)
    · exact ⟨j + 1, h, closP.refl cs _⟩
    · exact ⟨i, h1, by omega, fun t h5 h6 => by
        by_cases h : t < j
        · exact h3 t h5 h
        · obtain rfl : t = j := by omega
          exact h4⟩
def nextC (cs : List Comp) (P : List Bytes) (k : Nat) (p : Bytes) (t j : Nat) : Prop := ∃ t', t' < t ∧ reachC cs P k t' ∧ stepC cs p t' j
theorem nextC_all {cs : List Comp} {P : List Bytes} {k : Nat} {p : Bytes} (hp : P[k]? = some p) {j : Nat} : nextC cs P k p cs.length j ↔ beforeC cs P (k + 1) j := by
  constructor
  · rintro ⟨t', -, h2, h3⟩
    exact ⟨t', p, h2, hp, h3⟩
  · rintro ⟨i, p', h1, h2, h3⟩
    rw [hp] at h2
    obtain rfl := Option.some.inj h2
    obtain ⟨c, hc, -⟩ := id h3
    exact ⟨i, (List.getElem?_eq_some_iff.1 hc).1, h1, h3⟩
theorem nextC_succ {cs : List Comp} {P : List Bytes} {k : Nat} {p : Bytes} {t j : Nat} {c : Comp} (hc : cs[t]? = some c) : nextC cs P k p (t + 1) j ↔ nextC cs P k p t j ∨ (reachC cs P k t ∧ ((c.deep = true ∧ j = t) ∨ (c.deep = false ∧ fitsP c.ones p ∧ j = t + 1))) := by
  have hs : stepC cs p t j ↔ ((c.deep = true ∧ j = t) ∨ (c.deep = false ∧ fitsP c.ones p ∧ j = t + 1)) := by
    unfold stepC
    rw [hc]
    simp
  constructor
  · rintro ⟨t', h1, h2, h3⟩
    by_cases h : t' = t
    · subst h
      exact .inr ⟨h2, hs.1 h3⟩
    · exact .inl ⟨t', by omega, h2, h3⟩
  · rintro (⟨t', h1, h2⟩ | ⟨h1, h2⟩)
    · exact ⟨t', by omega, h2⟩
    · exact ⟨t, by omega, h1, hs.2 h2⟩
theorem deepAt_some {cs : List Comp} {k : Nat} {c : Comp} (h : cs[k]? = some c) (hs : deepAt cs k) : c.deep = true := by
  obtain ⟨b, hb, hb2⟩ := hs
  rw [h] at hb
  obtain rfl := Option.some.inj hb
  exact hb2
def encRow (row : List Bool) : List (List AV) := row.map fun b => [AV.bool b]
theorem encRow_flat (row : List Bool) : (encRow row).flatten = row.map AV.bool := by
  induction row with
  | nil => rfl
  | cons b r ih => show _ ++ (encRow r).flatten = _; rw [ih]; rfl
set_option maxRecDepth 100000 in
set_option maxHeartbeats 4000000 in
theorem after_ok (l : List Comp) (s : List Bytes) (hf : FineC l) (hs : s.length ≤ 2 ^ 30) (hps : ∀ p, p ∈ s → p.length ≤ 2 ^ 30) :
    CallsTo C 132 [.sl (refComps l), encS s] (fun r => ∃ row : List Bool, r = .val (.sl (encRow row)) ∧ RowP row l.length (reachC l s s.length)) := by
  have hl := hf.len
  have hlenS : ((s.map enc1).length : Int) = (s.length : Int) := by simp
  refine callsTo_of_evO ⟨[], [21], false, [], [], [20]⟩ [] Tryz.func132 rfl rfl rfl ?_
  have hlen : ((refComps l).length : Int) = (l.length : Int) := by simp [refComps]
  have hw1 : IntKind.i64.wrap (((refComps l).length : Int) + 1) = ((l.length + 1 : Nat) : Int) := by rw [hlen, wrap64 (by omega) (by omega)]; omega
  have hel : ∀ (t : Nat) (a : Comp), l[t]? = some a → (refComps l)[((t : Nat) : Int).toNat]? = some a.ref := fun t a h => by simp [refComps, h]
  refine ⟨_, hw1, l.length + 1, rfl, rfl, by omega, by omega, encSet (List.replicate (l.length + 1) false), kill_row _ _, ?_⟩
  have h0 : 0 < (List.replicate (l.length + 1) false).length := by rw [List.length_replicate]; omega
  refine ⟨0, 0, rfl, rfl, by rw [encSet_length]; omega, _, _, _, encSet_split h0, encSet_at h0, _, encSet_set h0, ?_⟩
  refine loopR 93 (fun x : Nat × List Bool => afSlots l s x.1 []) (fun x => [(13, encSet x.2)]) (fun x => x.1 ≤ s.length ∧ RowP x.2 l.length (beforeC l s x.1)) (fun x => s.length - x.1) (0, (List.replicate (l.length + 1) false).set 0 true)
    ⟨Nat.zero_le _, ((RowP.none l.length).put (t := 0) (Nat.zero_le _)).congr fun j hj => by simp [beforeC]⟩ rfl ⟨Weak.refl _, Weak.refl _, Weak.refl _, Weak.refl _, trivial⟩ ⟨hasO_one rfl, trivial⟩ ?_
  rintro ⟨k, row⟩ ⟨hk, hrow⟩
  have hk : k ≤ s.length := hk
  have hrow : RowP row l.length (beforeC l s k) := hrow
  have hwk : IntKind.i64.wrap ((k : Int) + 1) = ((k + 1 : Nat) : Int) := by rw [wrap64 (by omega) (by omega)]; omega
  refine al_dec (fun _ => ?_) (fun h => absurd (show (k : Int) ≤ ((s.map enc1).length : Int) by omega) h)
  refine loopR 93 (fun x : Nat × List Bool => afSlots l s k [(7, .p (.int .i64 x.1))]) (fun x => [(13, encSet x.2)]) (fun x => x.1 ≤ l.length ∧ RowP x.2 l.length (fun j => (j ≤ x.1 ∧ reachC l s k j) ∨ (x.1 < j ∧ beforeC l s k j))) (fun x => l.length - x.1) (0, row)
    ⟨Nat.zero_le _, hrow.congr fun j hj => ?_⟩ rfl ⟨Weak.refl _, Weak.refl _, Weak.refl _, Weak.refl _, Weak.refl _, trivial⟩ ⟨hasO_one rfl, trivial⟩ ?_
  · show beforeC l s k j ↔ (j ≤ 0 ∧ reachC l s k j) ∨ (0 < j ∧ beforeC l s k j)
    by_cases h : j = 0
    · subst h
      rw [reachC_zero]
      simp
    · have : 0 < j := by omega
      have h2 : ¬ j ≤ 0 := by omega
      simp [this, h2]
  rintro ⟨t, row⟩ ⟨ht, hrow⟩
  have ht : t ≤ l.length := ht
  have hrow : RowP row l.length (fun j => (j ≤ t ∧ reachC l s k j) ∨ (t < j ∧ beforeC l s k j)) := hrow
  have hrl := hrow.len
  have hwt : IntKind.i64.wrap ((t : Int) + 1) = ((t + 1 : Nat) : Int) := by rw [wrap64 (by omega) (by omega)]; omega
  refine al_dec (fun hlt => ?_) (fun hge => ?_)
  · have hlt : t < l.length := by
      have : (t : Int) < ((refComps l).length : Int) := hlt
      omega
    obtain ⟨a, ha⟩ : ∃ a, l[t]? = some a := ⟨_, List.getElem?_eq_getElem hlt⟩
    have htr : t < row.length := by omega
    have htr1 : t + 1 < row.length := by omega
    have hat := hrow.get htr
    have hat : row[t] = true ↔ reachC l s k t := hat.trans ⟨fun h => by rcases h with h | h; exact h.2; exact absurd h.1 (by omega), fun h => .inl ⟨Nat.le_refl _, h⟩⟩
    have keep : ¬ (reachC l s k t ∧ deepAt l t) → RowP row l.length (fun j => (j ≤ t + 1 ∧ reachC l s k j) ∨ (t + 1 < j ∧ beforeC l s k j)) := fun hno => hrow.congr fun j hj => by
      by_cases h : j = t + 1
      · subst h
        have h1 : ¬ t + 1 ≤ t := by omega
        rw [reachC_succ]
        simp [h1, hno]
      · by_cases h2 : j ≤ t
        · have h3 : j ≤ t + 1 := by omega
          have h4 : ¬ t < j := by omega
          have h5 : ¬ t + 1 < j := by omega
          simp [h2, h3, h4, h5]
        · have h3 : ¬ j ≤ t + 1 := by omega
          have h4 : t < j := by omega
          have h5 : t + 1 < j := by omega
          simp [h2, h3, h4, h5]
    refine ⟨none, ?_⟩
    refine ⟨t, t * 1, rfl, rfl, by show t * 1 + 1 ≤ (encSet row).length; rw [encSet_length]; omega, _, _, _, encSet_split htr, encSet_at htr, ?_⟩
    cases hb : row[t] with
    | false =>
      exact ⟨_, hwt, roundR (t + 1, row) ⟨hlt, keep fun h => by have := hat.2 h.1; rw [hb] at this; cases this⟩ (by show l.length - (t + 1) < l.length - t; omega) rfl ⟨Weak.refl _, Weak.refl _, Weak.refl _, Weak.refl _, Weak.refl _, trivial⟩ ⟨hasO_one rfl, trivial⟩⟩
    | true =>
      refine ⟨by omega, [.bool a.deep, .sl (refOnes a.ones)], hel t a ha, rfl, ?_⟩
      cases hst : a.deep with
      | false =>
        exact ⟨_, hwt, roundR (t + 1, row) ⟨hlt, keep fun h => by have := deepAt_some ha h.2; rw [hst] at this; cases this⟩ (by show l.length - (t + 1) < l.length - t; omega) rfl ⟨Weak.refl _, Weak.refl _, Weak.refl _, Weak.refl _, Weak.refl _, trivial⟩ ⟨hasO_one rfl, trivial⟩⟩
      | true =>
        refine ⟨_, hwt, ?_⟩
        refine ⟨t + 1, (t + 1) * 1, rfl, rfl, by show (t + 1) * 1 + 1 ≤ (encSet row).length; rw [encSet_length]; omega, _, _, _, encSet_split htr1, encSet_at htr1, _, encSet_set htr1, ?_⟩
        refine ⟨_, hwt, roundR (t + 1, row.set (t + 1) true) ⟨hlt, (hrow.put (t := t + 1) (by omega)).congr fun j hj => ?_⟩ (by show l.length - (t + 1) < l.length - t; omega) rfl ⟨Weak.refl _, Weak.refl _, Weak.refl _, Weak.refl _, Weak.refl _, trivial⟩ ⟨hasO_one rfl, trivial⟩⟩
        show (((j ≤ t ∧ reachC l s k j) ∨ (t < j ∧ beforeC l s k j)) ∨ j = t + 1) ↔ (j ≤ t + 1 ∧ reachC l s k j) ∨ (t + 1 < j ∧ beforeC l s k j)
        have hcl : reachC l s k (t + 1) := reachC_succ.2 (.inr ⟨hat.1 hb, _, ha, hst⟩)
        by_cases h : j = t + 1
        · subst h
          simp [hcl]
        · by_cases h2 : j ≤ t
          · have h3 : j ≤ t + 1 := by omega
            have h4 : ¬ t < j := by omega
            have h5 : ¬ t + 1 < j := by omega
            simp [h2, h3, h4, h5, h]
          · have h3 : ¬ j ≤ t + 1 := by omega
            have h4 : t < j := by omega
            have h5 : t + 1 < j := by omega
            simp [h2, h3, h4, h5, h]
  · have hte : t = l.length := by
      have : ¬ (t : Int) < ((refComps l).length : Int) := hge
      omega
    subst hte
    have hrow : RowP row l.length (reachC l s k) := hrow.congr fun j hj => by
      have h1 : ¬ l.length < j := by omega
      simp [hj, h1]
    refine al_eq (fun he => ?_) (fun he => ?_)
    · have he : k = s.length := by
        have : (k : Int) = ((s.map enc1).length : Int) := he
        omega
      subst he
      refine ⟨13, 1, encRow row, ⟨⟨_, rfl, by rw [encRow_flat]; exact toAVs_mapP _⟩, fun ys hy => ?_⟩, ?_⟩
      · obtain ⟨b, -, rfl⟩ := List.mem_map.1 hy
        exact ⟨rfl, fun y hy => by rw [List.mem_singleton.1 hy]; rfl⟩
      · exact .inr ⟨row, rfl, hrow⟩
    · have hks : k < s.length := by
        have : ¬ (k : Int) = ((s.map enc1).length : Int) := he
        omega
      have hc : s[k]? = some s[k] := List.getElem?_eq_getElem hks
      have hpk := hps _ (List.getElem_mem hks)
      refine ⟨_, hw1, l.length + 1, rfl, rfl, by omega, by omega, encSet (List.replicate (l.length + 1) false), kill_row _ _, ?_⟩
      refine loopR 93 (fun x : Nat × List Bool => afSlots l s k [(8, .osl 50 4 1), (9, .p (.int .i64 x.1))]) (fun x => [(13, encSet row), (50, encSet x.2)]) (fun x => x.1 ≤ l.length ∧ RowP x.2 l.length (nextC l s k s[k] x.1)) (fun x => l.length - x.1) (0, List.replicate (l.length + 1) false)
        ⟨Nat.zero_le _, (RowP.none l.length).congr fun j hj => ⟨fun h => h.elim, fun ⟨t', h, _⟩ => absurd h (Nat.not_lt_zero _)⟩⟩ rfl ⟨Weak.refl _, Weak.refl _, Weak.refl _, Weak.refl _, Weak.refl _, Weak.refl _, trivial⟩ ⟨hasO_eq rfl (by simp only [kill_enc]), hasO_one rfl, trivial⟩ ?_
      rintro ⟨u, row2⟩ ⟨hu, hrow2⟩
      have hu : u ≤ l.length := hu
      have hrow2 : RowP row2 l.length (nextC l s k s[k] u) := hrow2
      have hr2l := hrow2.len
      have hwu : IntKind.i64.wrap ((u : Int) + 1) = ((u + 1 : Nat) : Int) := by rw [wrap64 (by omega) (by omega)]; omega
      refine al_dec (fun hlt => ?_) (fun hge => ?_)
      · have hlt : u < l.length := by
          have : (u : Int) < ((refComps l).length : Int) := hlt
          omega
        obtain ⟨a, ha⟩ : ∃ a, l[u]? = some a := ⟨_, List.getElem?_eq_getElem hlt⟩
        have hur : u < row.length := by omega
        have hu2 : u < row2.length := by omega
        have hu3 : u + 1 < row2.length := by omega
        have hau := hrow.get hur
        have keep : ¬ (reachC l s k u ∧ (a.deep = true ∨ fitsP a.ones s[k])) → RowP row2 l.length (nextC l s k s[k] (u + 1)) := fun hno => hrow2.congr fun j hj => by
          rw [nextC_succ ha]
          constructor
          · exact .inl
          · rintro (h | ⟨h1, ⟨h2, -⟩ | ⟨-, h2, -⟩⟩)
            · exact h
            · exact absurd ⟨h1, .inl h2⟩ hno
            · exact absurd ⟨h1, .inr h2⟩ hno
        refine ⟨none, ?_⟩
        refine ⟨u, u * 1, rfl, rfl, by show u * 1 + 1 ≤ (encSet row).length; rw [encSet_length]; omega, _, _, _, encSet_split hur, encSet_at hur, ?_⟩
        cases hb : row[u] with
        | false =>
          refine ⟨.lex 14, by kernel_rfl, _, rfl, _, rfl, .eptr 13 (u * 1) 0, ⟨u, u * 1, rfl, rfl, by show u * 1 + 1 ≤ (encSet row).length; rw [encSet_length]; omega, rfl⟩, .p (.bool false), ⟨_, _, _, encSet_split hur, encSet_at hur, by rw [hb]; exact rfl⟩, _, rfl, ?_⟩
          exact ⟨_, hwu, roundR (u + 1, row2) ⟨hlt, keep fun h => by have := hau.2 h.1; rw [hb] at this; cases this⟩ (by show l.length - (u + 1) < l.length - u; omega) rfl ⟨Weak.refl _, Weak.refl _, Weak.refl _, Weak.refl _, Weak.refl _, Weak.refl _, trivial⟩ ⟨hasO_one rfl, hasO_one rfl, trivial⟩⟩
        | true =>
          have hcl := hau.1 hb
          refine ⟨by omega, [.bool a.deep, .sl (refOnes a.ones)], hel u a ha, rfl, ?_⟩
          cases hst : a.deep with
          | true =>
            refine ⟨u, u * 1, rfl, rfl, by show u * 1 + 1 ≤ (encSet row2).length; rw [encSet_length]; omega, _, _, _, encSet_split hu2, encSet_at hu2, _, encSet_set hu2, ?_⟩
            refine ⟨_, hwu, roundR (u + 1, row2.set u true) ⟨hlt, (hrow2.put (t := u) (by omega)).congr fun j hj => ?_⟩ (by show l.length - (u + 1) < l.length - u; omega) rfl ⟨Weak.refl _, Weak.refl _, Weak.refl _, Weak.refl _, Weak.refl _, Weak.refl _, trivial⟩ ⟨hasO_one rfl, hasO_one rfl, trivial⟩⟩
            show (nextC l s k s[k] u j ∨ j = u) ↔ nextC l s k s[k] (u + 1) j
            rw [nextC_succ ha]
            simp [hcl, hst]
          | false =>
            refine ⟨.lex 14, by kernel_rfl, _, rfl, _, rfl, .eptr 13 (u * 1) 0, ⟨u, u * 1, rfl, rfl, by show u * 1 + 1 ≤ (encSet row).length; rw [encSet_length]; omega, rfl⟩, .p (.bool true), ⟨_, _, _, encSet_split hur, encSet_at hur, by rw [hb]; exact rfl⟩, _, rfl, _, rfl, _, rfl,
              .p (.imp [.bool a.deep, .sl (refOnes a.ones)]), ⟨by omega, _, hel u a ha, rfl, rfl⟩, _, rfl, _, rfl, _, rfl, _, rfl, .p (.imp (enc1 s[k])), ⟨by omega, _, idx_map rfl hks, rfl, rfl⟩, _, rfl, ?_⟩
            have hma := List.mem_of_getElem? ha
            refine ⟨_, (component1_ok a.ones s[k] (hf.ones a hma) hpk).opn, ?_⟩
            rintro r ⟨b, rfl, hfit⟩
            cases b with
            | true =>
              refine ⟨_, hwu, ?_⟩
              refine ⟨u + 1, (u + 1) * 1, rfl, rfl, by show (u + 1) * 1 + 1 ≤ (encSet row2).length; rw [encSet_length]; omega, _, _, _, encSet_split hu3, encSet_at hu3, _, encSet_set hu3, ?_⟩
              refine ⟨_, hwu, roundR (u + 1, row2.set (u + 1) true) ⟨hlt, (hrow2.put (t := u + 1) (by omega)).congr fun j hj => ?_⟩ (by show l.length - (u + 1) < l.length - u; omega) rfl ⟨Weak.refl _, Weak.refl _, Weak.refl _, Weak.refl _, Weak.refl _, Weak.refl _, trivial⟩ ⟨hasO_one rfl, hasO_one rfl, trivial⟩⟩
              show (nextC l s k s[k] u j ∨ j = u + 1) ↔ nextC l s k s[k] (u + 1) j
              rw [nextC_succ ha]
              have := hfit.1 rfl
              simp [hcl, hst, this]
            | false =>
              exact ⟨_, hwu, roundR (u + 1, row2) ⟨hlt, keep fun h => by rcases h.2 with h | h; rw [hst] at h; cases h; exact absurd (hfit.2 h) (by simp)⟩ (by show l.length - (u + 1) < l.length - u; omega) rfl ⟨Weak.refl _, Weak.refl _, Weak.refl _, Weak.refl _, Weak.refl _, Weak.refl _, trivial⟩ ⟨hasO_one rfl, hasO_one rfl, trivial⟩⟩
      · have hue : u = l.length := by
          have : ¬ (u : Int) < ((refComps l).length : Int) := hge
          omega
        subst hue
        refine ⟨50, 13, rfl, rfl, ?_⟩
        exact ⟨_, hwk, roundR (k + 1, row2) ⟨hks, hrow2.congr fun j hj => nextC_all hc⟩ (by show s.length - (k + 1) < s.length - k; omega) rfl ⟨Weak.refl _, Weak.refl _, Weak.refl _, Weak.refl _, trivial⟩ ⟨hasO_eq rfl (by simp only [kill_enc, rn_enc]), trivial⟩⟩
end Qv
end

section
/- Contract of the reference's glob: Match. No condition. -/
set_option linter.unusedVariables false
set_option linter.unusedSimpArgs false
open Go Go.Proofs Go.RowKit
namespace Qv
theorem refMatch_ok (g path : Bytes) (hg : g.length ≤ 2 ^ 29) (hp : path.length ≤ 2 ^ 29) : CallsTo C 104 [.str g, .str path] (fun r => ∃ b : Bool, r = .val (.bool b) ∧ (b = true ↔ matchP g path)) := by
  refine callsTo_of_ev' Tryz.func104 rfl rfl rfl ?_
  refine ⟨_, refGlob_ok g hg, ?_⟩
  rintro r ⟨cs, ok, rfl, hok, hcs⟩
  have hf0 := parseF_fine g hg
  obtain ⟨h1, h2⟩ := pathF_small path hp
  unfold matchP
  refine ⟨none, ?_⟩
  cases ok with
  | false =>
    exact ⟨false, rfl, by simp, fun h => by have := hok.2 h.1; cases this⟩
  | true =>
    have hcs := hcs rfl
    subst hcs
    have he := hok.1 rfl
    generalize (parseF g).1 = cs at hf0 ⊢
    refine ⟨_, refSplit_ok path (by omega), fun r hr => ?_⟩
    subst hr
    refine ⟨_, after_ok cs (pathF path) hf0 h1 h2, ?_⟩
    rintro r ⟨row, rfl, hrow⟩
    have hlen : ((refComps cs).length : Int) = (cs.length : Int) := by simp [refComps]
    have hlr : cs.length < row.length := by have := hrow.len; omega
    refine ⟨by omega, [.bool row[cs.length]], idx_map hlen hlr, rfl, ?_⟩
    exact ⟨_, rfl, (hrow.get hlr).trans ⟨fun h => ⟨he, h⟩, fun h => h.2⟩⟩
end Qv
end
