/- Several texts in one: Contracts: where a block may stand (the statement's own function), Contracts: the law UnifiedPlaces. No condition. -/
import Derived.Test.YtbnnmamkplbdkaaDoorS6

section
/- Contracts: where a block may stand (the statement's own function). No condition. -/
set_option linter.unusedVariables false
set_option linter.unusedSimpArgs false
open Go Go.Proofs
namespace Qv

theorem fitsB_get {a old : List Bytes} {p : Nat} : fitsB a old p = true ↔ p + old.length ≤ a.length ∧ ∀ j, j < old.length → a[p + j]? = old[j]? := by
  constructor
  · intro h
    obtain ⟨h1, h2⟩ := fitsB_le h
    refine ⟨h1, fun j hj => ?_⟩
    rw [← h2]
    simp [seg, List.getElem?_take, show p + j < p + old.length by omega]
  · rintro ⟨h1, h2⟩
    unfold fitsB
    have : seg a p (p + old.length) = old := by
      apply List.ext_getElem?
      intro j
      by_cases hj : j < old.length
      · rw [← h2 j hj]
        simp [seg, List.getElem?_take, show p + j < p + old.length by omega]
      · have hsl := seg_length a p (p + old.length) h1
        rw [List.getElem?_eq_none (by omega), List.getElem?_eq_none (by omega)]
    simp [h1, this]

/-- The state of the loop: so many lines agree. -/
structure QInv (a : List Bytes) (b : Block) (p k : Nat) : Prop where
  le : k ≤ b.lines.length
  ok : ∀ j, j < (chosenL 45 (b.lines.take k)).length → a[p + j]? = (chosenL 45 (b.lines.take k))[j]?
  in_ : (chosenL 45 (b.lines.take k)).length = 0 ∨ p + (chosenL 45 (b.lines.take k)).length ≤ a.length

theorem chosenL_take {b : Block} {k : Nat} (h : k < b.lines.length) : chosenL 45 (b.lines.take (k + 1)) = chosenL 45 (b.lines.take k) ++ chosen1 45 b.lines[k] := by
  unfold chosenL
  exact flatMap_take (chosen1 45) _ _ h

theorem chosenL_pre {b : Block} (k j : Nat) (h : j < (chosenL 45 (b.lines.take k)).length) : (chosenL 45 b.lines)[j]? = (chosenL 45 (b.lines.take k))[j]? := by
  have : chosenL 45 b.lines = chosenL 45 (b.lines.take k) ++ chosenL 45 (b.lines.drop k) := by
    unfold chosenL
    rw [← List.flatMap_append, List.take_append_drop]
  rw [this, List.getElem?_append_left h]

theorem chosenL_take_le (b : Block) (k : Nat) : (chosenL 45 (b.lines.take k)).length ≤ (chosenL 45 b.lines).length := by
  have : chosenL 45 b.lines = chosenL 45 (b.lines.take k) ++ chosenL 45 (b.lines.drop k) := by
    unfold chosenL
    rw [← List.flatMap_append, List.take_append_drop]
  rw [this, List.length_append]
  omega

set_option maxHeartbeats 1000000 in
theorem possible_ok (a : List Bytes) (b : Block) (p : Nat) (hne : ∀ s, s ∈ b.lines → isSgn s = true) (ha : a.length ≤ 2 ^ 40) (hlen : b.lines.length ≤ 2 ^ 40) (hp : p ≤ 2 ^ 41) :
    CallsTo C 24 [encS a, .agg (encBlock b), .int .i64 p] (fun r => r = .val (.bool (fitsB a (chosenL 45 b.lines) p))) := by
  refine callsTo_of_ev' Tryd.func24 rfl rfl rfl ?_
  refine loopR 51 (fun k : Nat => [(0, .p (encS a)), (2, .p (.int .i64 ((p + (chosenL 45 (b.lines.take k)).length : Nat) : Int))), (10, .p (encS b.lines)), (11, .p (.int .i64 (b.lines.map enc1).length)), (12, .p (.int .i64 k))]) (fun _ => []) (fun k => QInv a b p k) (fun k => b.lines.length - k) 0 ⟨Nat.zero_le _, fun j hj => absurd hj (Nat.not_lt_zero j), .inl rfl⟩ rfl ⟨Weak.refl _, Weak.refl _, Weak.refl _, Weak.refl _, Weak.refl _, trivial⟩ trivial ?_
  intro k hI
  have hk := hI.le
  have hc0 := chosenL_le 45 (b.lines.take k)
  have hc1 : (b.lines.take k).length ≤ k := List.length_take_le _ _
  refine ⟨ltc (fun hlt => ?_) (fun hge => ?_)⟩
  · have hlt : k < b.lines.length := hlt
    obtain ⟨c, s, hs, hcs⟩ := sgn_cases (hne _ (List.getElem_mem hlt))
    have ho := chosenL_take hlt
    refine ⟨by omega, _, idx_map rfl hlt, rfl, none, al_eq (fun e => absurd e (by rw [hs]; exact List.cons_ne_nil _ _)) (fun _ => ?_)⟩
    refine ⟨Int.le_refl 0, c, by rw [hs]; rfl, ⟨eqc (fun ht => ?_) (fun ht => ?_)⟩⟩
    · have hc : c = 43 := u8_eq ht
      have h1 : chosen1 45 b.lines[k] = [] := by simp [chosen1, hs, hc]
      rw [h1, List.append_nil] at ho
      exact ⟨k + 1, wrap64 (by omega) (by omega), roundR (k + 1) ⟨hlt, by rw [ho]; exact hI.ok, by rw [ho]; exact hI.in_⟩ (by omega) rfl ⟨Weak.refl _, Weak.int (by rw [ho]), Weak.refl _, Weak.refl _, Weak.refl _, trivial⟩ trivial⟩
    · have hc : c ≠ 43 := fun e => ht (by rw [e]; rfl)
      have h1 : chosen1 45 b.lines[k] = [s] := by
        rcases hcs with e | e | e <;> simp_all [chosen1]
      rw [h1] at ho
      generalize hm : (chosenL 45 (b.lines.take k)).length = m at *
      have hget : (chosenL 45 b.lines)[m]? = some s := by
        rw [chosenL_pre (k + 1) m (by rw [ho]; simp [hm]), ho, ← hm]
        simp
      have hml : m < (chosenL 45 b.lines).length := (List.getElem?_eq_some_iff.1 hget).1
      by_cases hin : p + m < a.length
      · refine ⟨.lex 15, by kernel_rfl, _, rfl, .p (.bool false), ⟨fun t ht => by rw [ht, decide_eq_false (by omega)]⟩, _, rfl, _, rfl, _, rfl, _, rfl, .p (.bool false), ⟨fun t ht => by rw [ht, List.length_map, decide_eq_false (by omega)]⟩, _, rfl, _, rfl, _, rfl, _, rfl, _, ⟨by omega, _, idx_map rfl hin, rfl, rfl⟩, _, rfl, _, rfl, .p (.str s), ⟨1, rfl, by rw [hs]; simp, Nat.le_refl _, s, by rw [hs]; simp, rfl⟩, al_nes (fun h6 => ?_) (fun h6 => ?_)⟩
        · have : fitsB a (chosenL 45 b.lines) p = false := by
            rw [Bool.eq_false_iff]
            intro hf
            have := (fitsB_get.1 hf).2 m hml
            rw [hget, List.getElem?_eq_getElem hin] at this
            exact h6 (Option.some.inj this)
          show Ret.val (.bool false) = _
          rw [this]
        · refine ⟨((p + m + 1 : Nat) : Int), by rw [wrap64 (by omega) (by omega)]; omega, k + 1, wrap64 (by omega) (by omega), roundR (k + 1) ⟨hlt, fun j hj => ?_, .inr (by rw [ho]; simp [hm]; omega)⟩ (by omega) rfl ⟨Weak.refl _, Weak.int (by rw [ho]; simp [hm]; omega), Weak.refl _, Weak.refl _, Weak.refl _, trivial⟩ trivial⟩
          rw [ho] at hj ⊢
          by_cases e : j < m
          · rw [List.getElem?_append_left (by omega)]
            exact hI.ok j (by omega)
          · have : j = m := by simp [hm] at hj; omega
            subst this
            rw [List.getElem?_eq_getElem hin, List.getElem?_append_right (by omega)]
            simp [hm, h6]
      · refine ⟨.lex 15, by kernel_rfl, _, rfl, .p (.bool false), ⟨fun t ht => by rw [ht, decide_eq_false (by omega)]⟩, _, rfl, _, rfl, _, rfl, _, rfl, .p (.bool true), ⟨fun t ht => by rw [ht, List.length_map, decide_eq_true (by omega)]⟩, _, rfl, _, rfl, ?_⟩
        have : fitsB a (chosenL 45 b.lines) p = false := by
          rw [Bool.eq_false_iff]
          intro hf
          have := (fitsB_get.1 hf).1
          omega
        show Ret.val (.bool false) = _
        rw [this]
  · have hkk : k = b.lines.length := by omega
    subst hkk
    have hok := hI.ok
    have hin := hI.in_
    rw [List.take_length] at *
    refine ⟨none, al_dec (fun h1 => al_dec (fun h2 => ?_) (fun h2 => ?_)) (fun h1 => absurd (by omega) h1)⟩
    · have : fitsB a (chosenL 45 b.lines) p = true := fitsB_get.2 ⟨by simp only [List.length_map] at h2; omega, hok⟩
      show Ret.val (.bool true) = _
      rw [this]
    · have : fitsB a (chosenL 45 b.lines) p = false := by
        rw [Bool.eq_false_iff]
        intro hf
        have := (fitsB_get.1 hf).1
        simp only [List.length_map] at h2; omega
      show Ret.val (.bool false) = _
      rw [this]

end Qv
end

section
/- Contracts: the law UnifiedPlaces. No condition. -/
set_option linter.unusedVariables false
set_option linter.unusedSimpArgs false
open Go Go.Proofs
namespace Qv

theorem PlOK_step {a : List Bytes} {r : Int} {l : List Block} {ps : List Int} {k fr : Nat} {sh : Int} (h : PlOK a r fr sh (l.drop k) (ps.drop k)) (hk : k < l.length) (hp : k < ps.length) :
    ∃ p : Nat, ps[k] = p ∧ NearG a (chosenL 45 l[k].lines) fr (fun _ => True) (l[k].oldAt + sh) r (some p) ∧ PlOK a r (p + l[k].oldLen.toNat) (p - l[k].oldAt) (l.drop (k + 1)) (ps.drop (k + 1)) := by
  rw [List.drop_eq_getElem_cons hk, List.drop_eq_getElem_cons hp] at h
  obtain ⟨p, h1, h2, h3⟩ := h
  exact ⟨p, h1, h2, h3⟩

theorem growth_take {l : List Block} {k : Nat} (h : k < l.length) : growth (l.take (k + 1)) = growth (l.take k) + (l[k].newLen - l[k].oldLen) := by
  unfold growth
  rw [← List.take_append_getElem h, List.map_append, List.sum_append]
  simp

/-- The state of the loop over the blocks. -/
structure PlI (a : List Bytes) (l : List Block) (r : Int) (ps : List Int) (k fr : Nat) (sh size : Int) : Prop where
  le : k ≤ l.length
  ok : PlOK a r fr sh (l.drop k) (ps.drop k)
  frle : fr ≤ a.length
  lo : -2 ^ 41 ≤ sh
  hi : sh ≤ 2 ^ 41
  gr : size = a.length + growth (l.take k)
  glo : -(k : Int) * 2 ^ 20 ≤ growth (l.take k)
  ghi : growth (l.take k) ≤ (k : Int) * 2 ^ 20

theorem PlI.step {a : List Bytes} {l : List Block} {r : Int} {ps : List Int} {k fr : Nat} {sh size : Int} (h : PlI a l r ps k fr sh size) (ha : a.length ≤ 2 ^ 38) (hk : k < l.length) (hp : k < ps.length) (hb : BOK l[k]) (hl : l[k].lines.length ≤ 2 ^ 20) :
    ∃ p : Nat, ps[k] = p ∧ NearG a (chosenL 45 l[k].lines) fr (fun _ => True) (l[k].oldAt + sh) r (some p) ∧ p + l[k].oldLen.toNat ≤ a.length ∧ PlI a l r ps (k + 1) (p + l[k].oldLen.toNat) (p - l[k].oldAt) (size + l[k].newLen - l[k].oldLen) := by
  obtain ⟨p, h1, h2, h3⟩ := PlOK_step h.ok hk hp
  have h4 := (fitsB_le h2.2.2.1).1
  have h5 := hb.old
  have h6 := hb.at_
  have h7 := bok_len hb hl
  have h8 := growth_take hk
  have h9 := h.glo
  have h10 := h.ghi
  have h11 := h.gr
  refine ⟨p, h1, h2, by omega, hk, h3, by omega, by omega, by omega, by rw [h8]; omega, ?_, ?_⟩
  · rw [h8]; omega
  · rw [h8]; omega

theorem near_none {a old : List Bytes} {fr p q : Nat} {want reach : Int} (h : NearG a old fr (fun _ => True) want reach (some p)) (hq : fr ≤ q) (hc : (((q : Int) - want < dist p want ∧ (q : Int) - want > -(dist p want)) ∨ ((q : Int) - want = -(dist p want) ∧ (q : Int) - want < 0 ∧ (p : Int) ≠ q))) : fitsB a old q = false := by
  rw [Bool.eq_false_iff]
  intro hf
  obtain ⟨-, -, -, -, h5⟩ := h
  have := h5 q hq trivial hf
  unfold dist at *
  split at this <;> split at this <;> omega

theorem w64n {x y : Int} (h : x = y) (h1 : -9223372036854775808 ≤ x) (h2 : x ≤ 9223372036854775807) : IntKind.i64.wrap x = y := by
  rw [wrap64 h1 h2, h]

set_option maxRecDepth 100000 in
set_option maxHeartbeats 4000000 in
theorem places_law_ok (a : List Bytes) (l : List Block) (r : Nat) (hr : r < 256) (hs : SzS a) (hb : SzB l) :
    CallsTo C 6 [encS a, encBs l, .int .u8 r] (fun q => q = .val (.bool true)) := by
  refine callsTo_of_ev' Tryd.func6 rfl rfl rfl ?_
  refine ⟨none, _, (greatS_ok a hs).bool, ?_⟩
  rintro q ⟨t, hg, rfl⟩
  cases t with
  | true =>
    refine ⟨_, awake_ok, ?_⟩
    rintro q rfl
    exact rfl
  | false =>
  refine ⟨_, (greatBs_ok l hb).bool, ?_⟩
  rintro q ⟨t, hg2, rfl⟩
  cases t with
  | true =>
    refine ⟨_, awake_ok, ?_⟩
    rintro q rfl
    exact rfl
  | false =>
  have z1 : a.length ≤ 40 := by
    have := hg.symm
    simp only [greatS, Bool.or_eq_false_iff, decide_eq_false_iff_not] at this
    omega
  obtain ⟨z2, z3, z4⟩ := greatBs_no hg2.symm
  have ht := greatBs_tiny hg2.symm
  have c1 := uapply_ok a l (r : Nat) (by omega) ht (by omega)
  obtain ⟨n1, n2⟩ := uapply_len a l (r : Nat)
  have n3 : (l.length + 1) * a.length ≤ 11 * 40 := Nat.mul_le_mul (by omega) z1
  by_cases hok : (uapply a l (r : Nat)).2.2 = 0
  case neg =>
    have hnil : (uapply a l (r : Nat)).1 = [] ∧ (uapply a l (r : Nat)).2.1 = [] := by
      unfold uapply at hok ⊢
      split
      · split
        · rename_i h1 h2
          rw [if_pos h1, if_pos h2] at hok
          cases h : applyF a (r : Nat) 0 0 l with
          | none => exact ⟨rfl, rfl⟩
          | some q => rw [h] at hok; exact absurd rfl hok
        · exact ⟨rfl, rfl⟩
      · exact ⟨rfl, rfl⟩
    rw [hnil.1, hnil.2] at c1
    refine ⟨_, wrapS r hr, _, c1, ?_⟩
    rintro q rfl
    refine ⟨nec (fun _ => ?_) (fun h => absurd h hok)⟩
    refine ⟨none, al_eq (fun _ => al_eq (fun _ => ?_) (fun h => absurd rfl h)) (fun h => absurd rfl h)⟩
    refine ⟨_, awake_ok, ?_⟩
    rintro q rfl
    exact rfl
  have hchk : (checkL l).2 = 0 := by
    unfold uapply at hok
    split at hok
    · rename_i h; exact h
    · exact hok
  have hBOK := checkF_ok hchk
  have hrr : inR (r : Nat) = true := inR_true (by omega) (by omega)
  rw [uapply_go hchk hrr] at c1 n1 n2 hok
  cases hap : applyF a (r : Nat) 0 0 l with
  | none => rw [hap] at hok; exact absurd hok (by decide)
  | some X =>
  obtain ⟨m, ps⟩ := X
  rw [hap] at c1 n1 n2
  obtain ⟨p1, p2, p3⟩ := applyF_places hap hBOK (Nat.zero_le _)
  simp only [resA] at c1 n1 n2
  refine ⟨_, wrapS r hr, _, c1, ?_⟩
  rintro q rfl
  refine ⟨nec (fun h => absurd rfl h) (fun _ => ?_)⟩
  refine ⟨nec (fun h => absurd (by simp [p2]) h) (fun _ => ?_)⟩
  refine loopR 171 (fun x : Nat × Nat × Int × Int => [(0, .p (encS a)), (2, .p (.int .u8 r)), (7, .p (encS m)), (8, .p (encIs ps)), (10, .p (.int .i64 x.2.1)), (11, .p (.int .i64 x.2.2.1)), (12, .p (.int .i64 x.2.2.2)), (54, .p (encBs l)), (55, .p (.int .i64 (l.map encBlock).length)), (56, .p (.int .i64 x.1))]) (fun _ => [])
    (fun x => PlI a l r ps x.1 x.2.1 x.2.2.1 x.2.2.2) (fun x => l.length - x.1) (0, 0, 0, a.length) ⟨Nat.zero_le _, p1, Nat.zero_le _, show -2 ^ 41 ≤ (0 : Int) by decide, show (0 : Int) ≤ 2 ^ 41 by decide, by simp [growth], by simp [growth], by simp [growth]⟩ rfl ⟨Weak.refl _, Weak.refl _, Weak.refl _, Weak.refl _, Weak.refl _, Weak.refl _, Weak.int (by simp), Weak.refl _, Weak.refl _, Weak.refl _, trivial⟩ trivial ?_
  rintro ⟨k, fr, sh, size⟩ hI
  simp only at hI
  refine ⟨ltc (fun hlt => ?_) (fun hge => ?_)⟩
  · have hlt : k < l.length := hlt
    have hkp : k < ps.length := by omega
    have hbk := hBOK _ (List.getElem_mem hlt)
    have hll := ht.each _ (List.getElem_mem hlt)
    obtain ⟨p, e1, e2, e3, hN⟩ := hI.step (by omega) hlt hkp hbk hll
    have g1 := hI.frle
    have g2 := hI.lo
    have g3 := hI.hi
    have g4 := hbk.at_
    have g5 := bok_len hbk hll
    have g6 := hI.glo
    have g7 := hI.ghi
    have g8 := hI.gr
    have g9 := hI.le
    have f1 := e2.1
    have f2 := e2.2.2.1
    have f3 := e2.2.2.2.1
    have hD0 : 0 ≤ dist p (l[k].oldAt + sh) := by unfold dist; split <;> omega
    have hsg : ∀ s, s ∈ l[k].lines → isSgn s = true := fun s hs => List.all_eq_true.1 hbk.signs s hs
    have hposs := possible_ok a l[k] p hsg (by omega) (by omega) (by omega)
    rw [f2] at hposs
    refine ⟨by omega, _, idx_map rfl hlt, rfl, ?_⟩
    rw [← e1] at hposs
    have hw : dist p (l[k].oldAt + sh) = max ((p : Int) - l[k].oldAt - sh) (-((p : Int) - l[k].oldAt - sh)) := by rw [dist_abs]; omega
    by_cases hneg : (p : Int) - l[k].oldAt - sh < 0
    case' pos => refine ⟨.lex 10, by kernel_rfl, _, rfl, _, rfl, _, ⟨by omega, _, idx_map rfl hkp, rfl, rfl⟩, _, rfl, _, rfl, _, rfl, .p (.int .i64 ((p : Int) - l[k].oldAt)), ⟨_, (show IntKind.i64.wrap (ps[k] - l[k].oldAt) = _ from by rw [e1]; exact wrap64 (by omega) (by omega)), rfl⟩, _, rfl, .p (.int .i64 ((p : Int) - l[k].oldAt - sh)), ⟨_, (show IntKind.i64.wrap ((p : Int) - l[k].oldAt - sh) = _ from wrap64 (by omega) (by omega)), rfl⟩, _, rfl, ⟨dc (fun _ => ⟨dist p (l[k].oldAt + sh), w64n (by omega) (by omega) (by omega), ?_⟩) (fun h => absurd hneg h)⟩⟩
    case' neg => refine ⟨.lex 10, by kernel_rfl, _, rfl, _, rfl, _, ⟨by omega, _, idx_map rfl hkp, rfl, rfl⟩, _, rfl, _, rfl, _, rfl, .p (.int .i64 ((p : Int) - l[k].oldAt)), ⟨_, (show IntKind.i64.wrap (ps[k] - l[k].oldAt) = _ from by rw [e1]; exact wrap64 (by omega) (by omega)), rfl⟩, _, rfl, .p (.int .i64 (dist p (l[k].oldAt + sh))), ⟨_, (show IntKind.i64.wrap ((p : Int) - l[k].oldAt - sh) = _ from w64n (by omega) (by omega) (by omega)), rfl⟩, _, rfl, ⟨dc (fun h => absurd h (by omega)) (fun _ => ?_)⟩⟩
    all_goals
      refine ⟨.lex 22, by kernel_rfl, _, rfl, _, rfl, _, ⟨by omega, _, idx_map rfl hkp, rfl, rfl⟩, _, rfl, _, rfl, .p (.bool false), ⟨fun t ht => by rw [ht, decide_eq_false (show ¬ ps[k] < (fr : Int) by rw [e1]; omega)]⟩, _, rfl, _, rfl, _, rfl, _, rfl, _, rfl, _, ⟨by omega, _, idx_map rfl hkp, rfl, rfl⟩, _, rfl, .p (.bool true), ⟨_, hposs, fun r hr => by subst hr; rfl⟩, .p (.bool false), ⟨fun t ht => by rw [ht]; rfl⟩, _, rfl, _, rfl, _, rfl, _, rfl, .p (.int .i64 r), ⟨_, wrapS r hr, rfl⟩, .p (.bool false), ⟨fun t ht => by rw [ht, decide_eq_false (by omega)]⟩, _, rfl, ?_⟩
      refine loopR 171 (fun q : Nat => [(0, .p (encS a)), (2, .p (.int .u8 r)), (7, .p (encS m)), (8, .p (encIs ps)), (10, .p (.int .i64 fr)), (11, .p (.int .i64 sh)), (12, .p (.int .i64 size)), (13, .p (.int .i64 k)), (14, .ptr 14 0), (15, .p (.int .i64 (dist p (l[k].oldAt + sh)))), (16, .p (.int .i64 q)), (54, .p (encBs l)), (55, .p (.int .i64 (l.map encBlock).length)), (56, .p (.int .i64 k))]) (fun _ => [(14, mapP (encBlock l[k]))]) (fun q => fr ≤ q ∧ q ≤ a.length + 1) (fun q => a.length + 1 - q) fr ⟨Nat.le_refl _, by omega⟩ rfl ⟨Weak.refl _, Weak.refl _, Weak.refl _, Weak.refl _, Weak.refl _, Weak.refl _, Weak.refl _, Weak.refl _, Weak.refl _, Weak.refl _, Weak.refl _, Weak.refl _, Weak.refl _, Weak.refl _, trivial⟩ ⟨hasO_one rfl, trivial⟩ ?_
      rintro q ⟨q1, q2⟩
      refine ⟨dc (fun hle => ?_) (fun hgt => ?_)⟩
      · simp only [List.length_map] at hle
        have hpq := possible_ok a l[k] q hsg (by omega) (by omega) (by omega)
        have hno := near_none e2 q1
        refine ⟨(q : Int) - l[k].oldAt, (show IntKind.i64.wrap ((q : Int) - l[k].oldAt) = _ from wrap64 (by omega) (by omega)), (q : Int) - l[k].oldAt - sh, (show IntKind.i64.wrap ((q : Int) - l[k].oldAt - sh) = _ from wrap64 (by omega) (by omega)), ?_⟩
        refine ⟨none, al_dec (fun t1 => ?_) (fun t1 => ?_)⟩
        · refine ⟨-(dist p (l[k].oldAt + sh)), w64n (by omega) (by omega) (by omega), al_dec (fun t2 => ?_) (fun t2 => ?_)⟩
          · have hf := hno (.inl ⟨by omega, by omega⟩)
            rw [hf] at hpq
            refine ⟨_, hpq, ?_⟩
            rintro q' rfl
            exact ⟨q + 1, wrap64 (by omega) (by omega), roundR (q + 1) ⟨by omega, by omega⟩ (by omega) rfl ⟨Weak.refl _, Weak.refl _, Weak.refl _, Weak.refl _, Weak.refl _, Weak.refl _, Weak.refl _, Weak.refl _, Weak.refl _, Weak.refl _, Weak.refl _, Weak.refl _, Weak.refl _, Weak.refl _, trivial⟩ ⟨hasO_one rfl, trivial⟩⟩
          · refine ⟨-(dist p (l[k].oldAt + sh)), w64n (by omega) (by omega) (by omega), al_eq (fun t3 => ?_) (fun t3 => ?_)⟩
            · refine al_dec (fun t4 => ?_) (fun t4 => ?_)
              · refine ⟨by omega, _, idx_map rfl hkp, rfl, al_ne (fun t5 => ?_) (fun t5 => ?_)⟩
                · have hf := hno (.inr ⟨by omega, by omega, by rw [← e1]; exact t5⟩)
                  rw [hf] at hpq
                  refine ⟨_, hpq, ?_⟩
                  rintro q' rfl
                  exact ⟨q + 1, wrap64 (by omega) (by omega), roundR (q + 1) ⟨by omega, by omega⟩ (by omega) rfl ⟨Weak.refl _, Weak.refl _, Weak.refl _, Weak.refl _, Weak.refl _, Weak.refl _, Weak.refl _, Weak.refl _, Weak.refl _, Weak.refl _, Weak.refl _, Weak.refl _, Weak.refl _, Weak.refl _, trivial⟩ ⟨hasO_one rfl, trivial⟩⟩
                · exact ⟨q + 1, wrap64 (by omega) (by omega), roundR (q + 1) ⟨by omega, by omega⟩ (by omega) rfl ⟨Weak.refl _, Weak.refl _, Weak.refl _, Weak.refl _, Weak.refl _, Weak.refl _, Weak.refl _, Weak.refl _, Weak.refl _, Weak.refl _, Weak.refl _, Weak.refl _, Weak.refl _, Weak.refl _, trivial⟩ ⟨hasO_one rfl, trivial⟩⟩
              · exact ⟨q + 1, wrap64 (by omega) (by omega), roundR (q + 1) ⟨by omega, by omega⟩ (by omega) rfl ⟨Weak.refl _, Weak.refl _, Weak.refl _, Weak.refl _, Weak.refl _, Weak.refl _, Weak.refl _, Weak.refl _, Weak.refl _, Weak.refl _, Weak.refl _, Weak.refl _, Weak.refl _, Weak.refl _, trivial⟩ ⟨hasO_one rfl, trivial⟩⟩
            · exact ⟨q + 1, wrap64 (by omega) (by omega), roundR (q + 1) ⟨by omega, by omega⟩ (by omega) rfl ⟨Weak.refl _, Weak.refl _, Weak.refl _, Weak.refl _, Weak.refl _, Weak.refl _, Weak.refl _, Weak.refl _, Weak.refl _, Weak.refl _, Weak.refl _, Weak.refl _, Weak.refl _, Weak.refl _, trivial⟩ ⟨hasO_one rfl, trivial⟩⟩
        · refine ⟨-(dist p (l[k].oldAt + sh)), w64n (by omega) (by omega) (by omega), al_eq (fun t3 => ?_) (fun t3 => ?_)⟩
          · refine al_dec (fun t4 => ?_) (fun t4 => ?_)
            · refine ⟨by omega, _, idx_map rfl hkp, rfl, al_ne (fun t5 => ?_) (fun t5 => ?_)⟩
              · have hf := hno (.inr ⟨by omega, by omega, by rw [← e1]; exact t5⟩)
                rw [hf] at hpq
                refine ⟨_, hpq, ?_⟩
                rintro q' rfl
                exact ⟨q + 1, wrap64 (by omega) (by omega), roundR (q + 1) ⟨by omega, by omega⟩ (by omega) rfl ⟨Weak.refl _, Weak.refl _, Weak.refl _, Weak.refl _, Weak.refl _, Weak.refl _, Weak.refl _, Weak.refl _, Weak.refl _, Weak.refl _, Weak.refl _, Weak.refl _, Weak.refl _, Weak.refl _, trivial⟩ ⟨hasO_one rfl, trivial⟩⟩
              · exact ⟨q + 1, wrap64 (by omega) (by omega), roundR (q + 1) ⟨by omega, by omega⟩ (by omega) rfl ⟨Weak.refl _, Weak.refl _, Weak.refl _, Weak.refl _, Weak.refl _, Weak.refl _, Weak.refl _, Weak.refl _, Weak.refl _, Weak.refl _, Weak.refl _, Weak.refl _, Weak.refl _, Weak.refl _, trivial⟩ ⟨hasO_one rfl, trivial⟩⟩
            · exact ⟨q + 1, wrap64 (by omega) (by omega), roundR (q + 1) ⟨by omega, by omega⟩ (by omega) rfl ⟨Weak.refl _, Weak.refl _, Weak.refl _, Weak.refl _, Weak.refl _, Weak.refl _, Weak.refl _, Weak.refl _, Weak.refl _, Weak.refl _, Weak.refl _, Weak.refl _, Weak.refl _, Weak.refl _, trivial⟩ ⟨hasO_one rfl, trivial⟩⟩
          · exact ⟨q + 1, wrap64 (by omega) (by omega), roundR (q + 1) ⟨by omega, by omega⟩ (by omega) rfl ⟨Weak.refl _, Weak.refl _, Weak.refl _, Weak.refl _, Weak.refl _, Weak.refl _, Weak.refl _, Weak.refl _, Weak.refl _, Weak.refl _, Weak.refl _, Weak.refl _, Weak.refl _, Weak.refl _, trivial⟩ ⟨hasO_one rfl, trivial⟩⟩
      · simp only [List.length_map] at hgt
        refine ⟨.lex 24, by kernel_rfl, _, rfl, _, rfl, _, ⟨by omega, _, idx_map rfl hkp, rfl, rfl⟩, _, rfl, _, rfl, _, rfl, .p (.int .i64 ((p + l[k].oldLen.toNat : Nat) : Int)), ⟨_, (show IntKind.i64.wrap (ps[k] + l[k].oldLen) = _ from by rw [e1]; exact w64n (by omega) (by omega) (by omega)), rfl⟩, _, rfl, _, rfl, _, ⟨by omega, _, idx_map rfl hkp, rfl, rfl⟩, _, rfl, _, rfl, _, rfl, .p (.int .i64 ((p : Int) - l[k].oldAt)), ⟨_, (show IntKind.i64.wrap (ps[k] - l[k].oldAt) = _ from by rw [e1]; exact wrap64 (by omega) (by omega)), rfl⟩, _, rfl, _, rfl, _, rfl, .p (.int .i64 (size + l[k].newLen)), ⟨_, (show IntKind.i64.wrap (size + l[k].newLen) = _ from wrap64 (by omega) (by omega)), rfl⟩, _, rfl, _, rfl, .p (.int .i64 (size + l[k].newLen - l[k].oldLen)), ⟨_, (show IntKind.i64.wrap (size + l[k].newLen - l[k].oldLen) = _ from wrap64 (by omega) (by omega)), rfl⟩, _, rfl, _, rfl, _, rfl, ?_⟩
        exact ⟨_, wrap64 (by first | omega | (simp only [List.length_map, List.length_append, List.length_cons, List.length_nil] at *; omega)) (by first | omega | (simp only [List.length_map, List.length_append, List.length_cons, List.length_nil] at *; omega)), roundR (k + 1, p + l[k].oldLen.toNat, (p : Int) - l[k].oldAt, size + l[k].newLen - l[k].oldLen) hN (by simp only; omega) rfl ⟨Weak.refl _, Weak.refl _, Weak.refl _, Weak.refl _, Weak.refl _, Weak.refl _, Weak.refl _, Weak.refl _, Weak.refl _, Weak.refl _, trivial⟩ trivial⟩
  · have hkk : k = l.length := by have := hI.le; omega
    have g8 := hI.gr
    rw [hkk, List.take_length] at g8
    refine ⟨none, al_eq (fun _ => ?_) (fun h => absurd (by simp only [List.length_map]; omega) h)⟩
    refine ⟨_, awake_ok, ?_⟩
    rintro q rfl
    exact rfl

end Qv
end
