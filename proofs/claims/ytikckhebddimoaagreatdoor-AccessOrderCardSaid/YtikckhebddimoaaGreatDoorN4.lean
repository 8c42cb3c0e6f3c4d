/- Several texts in one: Contract: glob.walk, Contract: glob.Match. No condition. -/
import Derived.Test.YtikckhebddimoaaGreatDoorN3

section
/- Contract: glob.walk. No condition. -/
set_option linter.unusedVariables false
set_option linter.unusedSimpArgs false
open Go Go.Proofs Go.RowKit
namespace Qv
def stepC (cs : List Comp) (p : Bytes) (i j : Nat) : Prop :=
  ∃ c, cs[i]? = some c ∧ ((c.deep = true ∧ j = i) ∨ (c.deep = false ∧ fitsP c.ones p ∧ j = i + 1))
def reachC (cs : List Comp) (P : List Bytes) : Nat → Nat → Prop
  | 0, j => closP cs 0 j
  | k + 1, j => ∃ i p j', reachC cs P k i ∧ P[k]? = some p ∧ stepC cs p i j' ∧ closP cs j' j
theorem closP_le {cs : List Comp} {i j : Nat} (h : closP cs i j) (hi : i ≤ cs.length) : j ≤ cs.length := by
  by_cases hij : i = j
  · omega
  · obtain ⟨c, hc, -⟩ := h.2 (j - 1) (by have := h.1; omega) (by have := h.1; omega)
    have := (List.getElem?_eq_some_iff.1 hc).1
    omega
theorem stepC_le {cs : List Comp} {p : Bytes} {i j : Nat} (h : stepC cs p i j) : j ≤ cs.length := by
  obtain ⟨c, hc, h⟩ := h
  have := (List.getElem?_eq_some_iff.1 hc).1
  rcases h with ⟨-, rfl⟩ | ⟨-, -, rfl⟩ <;> omega
theorem reachC_le {cs : List Comp} {P : List Bytes} : ∀ {k j : Nat}, reachC cs P k j → j ≤ cs.length
  | 0, j, h => closP_le h (Nat.zero_le _)
  | k + 1, j, ⟨i, p, j', _, _, h1, h2⟩ => closP_le h2 (stepC_le h1)
structure FineC (cs : List Comp) : Prop where
  len : cs.length ≤ 2 ^ 30
  ones : ∀ c, c ∈ cs → c.ones.length ≤ 2 ^ 30
  fine : ∀ c, c ∈ cs → ∀ a, a ∈ c.ones → a.fine
def WaM (cs : List Comp) (p : Bytes) (st : List Nat) (x : List Nat × List Nat × Option (AV × AV)) : Prop :=
  (∀ i, i ∈ x.2.1 → i ∈ st) ∧ (∀ j, j ∈ x.1 → ∃ i, i ∈ st ∧ stepC cs p i j) ∧ ∀ i, i ∈ st → i ∈ x.2.1 ∨ ∀ j, stepC cs p i j → j ∈ x.1
theorem WaM.of {cs : List Comp} {p : Bytes} {st r1 r2 o o3 : List Nat} {i : Nat} {cur cur' : Option (AV × AV)} (h : WaM cs p st (o, r1 ++ i :: r2, cur)) (a1 : ∀ j, j ∈ o3 → j ∈ o ∨ stepC cs p i j)
    (a2 : ∀ j, j ∈ o → j ∈ o3) (a3 : ∀ j, stepC cs p i j → j ∈ o3) : WaM cs p st (o3, r1 ++ r2, cur') := by
  obtain ⟨h1, h2, h3⟩ := h
  refine ⟨fun i' hi' => h1 i' ?_, fun j hj => ?_, fun i' hi' => ?_⟩
  · simp only [List.mem_append, List.mem_cons] at hi' ⊢
    rcases hi' with h | h
    · exact .inl h
    · exact .inr (.inr h)
  · rcases a1 j hj with h | h
    · exact h2 j h
    · exact ⟨i, h1 i (by simp), h⟩
  · rcases h3 i' hi' with h | h
    · simp only [List.mem_append, List.mem_cons] at h ⊢
      rcases h with h | h | h
      · exact .inl (.inl h)
      · subst h; exact .inr a3
      · exact .inl (.inr h)
    · exact .inr fun j hj => a2 j (h j hj)
set_option maxRecDepth 100000 in
set_option maxHeartbeats 1000000 in
theorem walk_ok (cs : List Comp) (P : List Bytes) (hc : FineC cs) (hP : P.length ≤ 2 ^ 30) (hp : ∀ p, p ∈ P → p.length ≤ 2 ^ 30) :
    CallsTo C 102 [.sl (encComps cs), encS P] (fun r => ∃ out, r = .val (encSt out) ∧ ∀ j, j ∈ out ↔ reachC cs P P.length j) := by
  have hcl := hc.len
  have hlen : ((encComps cs).length : Int) = (cs.length : Int) := by simp [encComps]
  refine callsTo_of_evO ⟨[], [], false, [], [14], []⟩ [] Tryz.func102 rfl rfl rfl ?_
  refine ⟨_, by kernel_rfl, rfl, fits_st [], _, upd_st [] 0, ?_⟩
  refine .inr (.inr (.inl ⟨11, stK [0], stV [0], ⟨stF [0], rfl, keys_st [0], vals_st [0]⟩, _, (closure_ok cs [0] hcl (fun i hi => by simp at hi; omega)).opn, ?_⟩))
  rintro r ⟨st0, rfl, hst0⟩
  refine loopW 55 0 (fun x : Nat × List Nat => [(0, .p (.sl (encComps cs))), (5, .p (encSt x.2)), (14, .p (encS P)), (15, .p (.int .i64 (P.map enc1).length)), (16, .p (.int .i64 x.1))]) (fun _ => []) (fun _ => []) [] (fun _ => []) (fun _ => []) (fun _ => [])
    (fun x => x.1 ≤ P.length ∧ ∀ j, j ∈ x.2 ↔ reachC cs P x.1 j) (fun x => P.length - x.1) (0, st0) ⟨Nat.zero_le _, fun j => by rw [hst0]; simp [reachC]⟩ rfl ⟨Weak.refl _, Weak.refl _, Weak.refl _, Weak.refl _, Weak.refl _, trivial⟩ trivial trivial trivial trivial trivial ?_
  rintro ⟨k, st⟩ ⟨hk, hst⟩
  have hk : k ≤ P.length := hk
  have hst : ∀ j, j ∈ st ↔ reachC cs P k j := hst
  refine al_lt (fun hlt => ?_) (fun hge => ?_)
  · have hlt : k < P.length := hlt
    have hpk := hp _ (List.getElem_mem hlt)
    refine ⟨by omega, _, idx_map rfl hlt, rfl, ?_⟩
    refine loopW 55 0 (fun x : List Nat × List Nat × Option (AV × AV) => [(0, .p (.sl (encComps cs))), (7, .p (.str P[k])), (8, .mapr 20), (14, .p (encS P)), (15, .p (.int .i64 (P.map enc1).length)), (16, .p (.int .i64 k)), (22, .itr 22)]) (fun _ => []) (fun _ => []) [] (fun _ => []) (fun x => [(20, stF x.1)]) (fun x => [(22, (x.2.2, stA x.2.1))])
      (WaM cs P[k] st) (fun x => x.2.1.length) ([], st, none) ⟨fun i h => h, fun j h => by simp at h, fun i h => .inl h⟩ rfl ⟨Weak.refl _, Weak.refl _, Weak.refl _, Weak.refl _, Weak.refl _, Weak.refl _, Weak.refl _, trivial⟩ trivial trivial trivial ⟨hasM_one rfl, trivial⟩ ⟨by rw [← zip_st]; rfl, trivial⟩ ?_
    rintro ⟨out, rest, cur⟩ hM
    have h1 : ∀ i, i ∈ rest → i ∈ st := hM.1
    have h2 : ∀ j, j ∈ out → ∃ i, i ∈ st ∧ stepC cs P[k] i j := hM.2.1
    have h3 : ∀ i, i ∈ st → i ∈ rest ∨ ∀ j, stepC cs P[k] i j → j ∈ out := hM.2.2
    refine ⟨fun hr => ?_, fun A p B hAB => ?_⟩
    · have hr : rest = [] := by cases rest with | nil => rfl | cons _ _ => cases hr
      refine ⟨20, stK out, stV out, ⟨stF out, rfl, keys_st out, vals_st out⟩, ?_⟩
      refine ⟨_, (closure_ok cs out hcl (fun i hi => by obtain ⟨i', -, h⟩ := h2 i hi; exact stepC_le h)).opn, ?_⟩
      rintro r ⟨st', rfl, hst'⟩
      refine ⟨((k + 1 : Nat) : Int), by rw [wrap64 (by omega) (by omega)]; omega, ?_⟩
      refine roundW (k + 1, st') ⟨hlt, fun j => ?_⟩ (by show P.length - (k + 1) < P.length - k; omega) rfl ⟨Weak.refl _, Weak.refl _, Weak.refl _, Weak.refl _, Weak.refl _, trivial⟩ trivial trivial trivial trivial trivial
      have hst' : j ∈ st' ↔ ∃ i, i ∈ out ∧ closP cs i j := hst' j
      refine hst'.trans ⟨fun ⟨i, hi, hij⟩ => ?_, fun ⟨i, p, j', hi, hpk', hj', hij⟩ => ?_⟩
      · obtain ⟨i', hi', hs⟩ := h2 i hi
        exact ⟨i', P[k], i, (hst i').1 hi', List.getElem?_eq_getElem hlt, hs, hij⟩
      · rw [List.getElem?_eq_getElem hlt] at hpk'
        obtain rfl := Option.some.inj hpk'
        rcases h3 i ((hst i).2 hi) with h | h
        · rw [hr] at h; cases h
        · exact ⟨j', h j' hj', hij⟩
    · obtain ⟨r1, i, r2, rfl, rfl, rfl, rfl⟩ := next_st hAB
      have hil : i ∈ st := h1 i (by simp)
      have hic := reachC_le ((hst i).1 hil)
      have hlr : (r1 ++ r2).length < (r1 ++ i :: r2).length := by simp
      refine al_eq (fun he => ?_) (fun he => ?_)
      · have he : i = cs.length := by
          have : (i : Int) = ((encComps cs).length : Int) := he
          omega
        refine roundW (out, r1 ++ r2, some (.int .i64 (i : Int), .bool true)) (WaM.of hM (fun j hj => .inl hj) (fun j hj => hj) (fun j ⟨c, hc, _⟩ => absurd (List.getElem?_eq_some_iff.1 hc).1 (by omega))) hlr rfl ⟨Weak.refl _, Weak.refl _, Weak.refl _, Weak.refl _, Weak.refl _, Weak.refl _, Weak.refl _, trivial⟩ trivial trivial trivial ⟨hasM_one rfl, trivial⟩ ⟨hasI_eq (x0 := (some (.int .i64 (i : Int), .bool true), stA r1 ++ stA r2)) rfl (by rw [stA_append]), trivial⟩
      · have he : i < cs.length := by
          have : ¬ (i : Int) = ((encComps cs).length : Int) := he
          omega
        have hci : cs[i]? = some cs[i] := List.getElem?_eq_getElem he
        have hone : ∀ j, stepC cs P[k] i j ↔ ((cs[i].deep = true ∧ j = i) ∨ (cs[i].deep = false ∧ fitsP cs[i].ones P[k] ∧ j = i + 1)) := fun j => by
          unfold stepC
          rw [hci]
          simp
        refine ⟨by omega, [.bool (cs[i]).deep, .sl (encOnes (cs[i]).ones)], idx_map (f := Comp.enc) rfl he, rfl, ?_⟩
        cases hd : cs[i].deep with
        | true =>
          refine ⟨_, by kernel_rfl, rfl, fits_st out, _, upd_st out i, ?_⟩
          refine roundW ((addN out i), r1 ++ r2, some (.int .i64 (i : Int), .bool true)) (WaM.of hM (fun j hj => ?_) (fun j hj => mem_addN.2 (.inl hj)) (fun j hj => ?_)) hlr rfl ⟨Weak.refl _, Weak.refl _, Weak.refl _, Weak.refl _, Weak.refl _, Weak.refl _, Weak.refl _, trivial⟩ trivial trivial trivial ⟨hasM_one rfl, trivial⟩ ⟨hasI_eq (x0 := (some (.int .i64 (i : Int), .bool true), stA r1 ++ stA r2)) rfl (by rw [stA_append]), trivial⟩
          · rcases mem_addN.1 hj with h | h
            · exact .inl h
            · exact .inr ((hone j).2 (.inl ⟨hd, h⟩))
          · rcases (hone j).1 hj with h | h
            · exact mem_addN.2 (.inr h.2)
            · rw [hd] at h; cases h.1
        | false =>
          have hw : IntKind.i64.wrap ((i : Int) + 1) = ((i + 1 : Nat) : Int) := by rw [wrap64 (by omega) (by omega)]; omega
          refine ⟨by omega, [.bool (cs[i]).deep, .sl (encOnes (cs[i]).ones)], idx_map (f := Comp.enc) rfl he, rfl, ?_⟩
          refine ⟨_, (fits_ok cs[i] P[k] (hc.ones _ (List.getElem_mem he)) (hc.fine _ (List.getElem_mem he)) hpk).opn, ?_⟩
          rintro r ⟨b, rfl, hb⟩
          cases b with
          | true =>
            refine ⟨_, hw, _, by kernel_rfl, rfl, fits_st out, _, upd_st out (i + 1), ?_⟩
            refine roundW ((addN out (i + 1)), r1 ++ r2, some (.int .i64 (i : Int), .bool true)) (WaM.of hM (fun j hj => ?_) (fun j hj => mem_addN.2 (.inl hj)) (fun j hj => ?_)) hlr rfl ⟨Weak.refl _, Weak.refl _, Weak.refl _, Weak.refl _, Weak.refl _, Weak.refl _, Weak.refl _, trivial⟩ trivial trivial trivial ⟨hasM_one rfl, trivial⟩ ⟨hasI_eq (x0 := (some (.int .i64 (i : Int), .bool true), stA r1 ++ stA r2)) rfl (by rw [stA_append]), trivial⟩
            · rcases mem_addN.1 hj with h | h
              · exact .inl h
              · exact .inr ((hone j).2 (.inr ⟨hd, hb.1 rfl, h⟩))
            · rcases (hone j).1 hj with h | h
              · rw [hd] at h; cases h.1
              · exact mem_addN.2 (.inr h.2.2)
          | false =>
            refine roundW (out, r1 ++ r2, some (.int .i64 (i : Int), .bool true)) (WaM.of hM (fun j hj => .inl hj) (fun j hj => hj) (fun j hj => ?_)) hlr rfl ⟨Weak.refl _, Weak.refl _, Weak.refl _, Weak.refl _, Weak.refl _, Weak.refl _, Weak.refl _, trivial⟩ trivial trivial trivial ⟨hasM_one rfl, trivial⟩ ⟨hasI_eq (x0 := (some (.int .i64 (i : Int), .bool true), stA r1 ++ stA r2)) rfl (by rw [stA_append]), trivial⟩
            rcases (hone j).1 hj with h | h
            · rw [hd] at h; cases h.1
            · exact absurd (hb.2 h.2.1) (by simp)
  · have hge : k = P.length := by
      have : ¬ k < P.length := hge
      omega
    exact ⟨st, rfl, fun j => by rw [← hge]; exact hst j⟩
end Qv

end

section
/- Contract: glob.Match. No condition. -/
set_option linter.unusedVariables false
set_option linter.unusedSimpArgs false
open Go Go.Proofs Go.RowKit
namespace Qv
theorem onesGo_fine {s : Bytes} : ∀ {f n : Nat} {acc l : List Atom}, onesGo s f n acc = some l → n ≤ s.length → acc.length ≤ n → (∀ a, a ∈ acc → a.fine) → l.length ≤ s.length ∧ ∀ a, a ∈ l → a.fine
  | 0, _, _, _, h, _, _, _ => by simp [onesGo] at h
  | f + 1, n, acc, l, h, hn, ha, hf => by
    simp only [onesGo] at h
    split at h
    · split at h
      · cases h
      · rename_i a n' hq
        obtain ⟨h1, h2, h3⟩ := oneF_le hq
        refine onesGo_fine h h2 (by rw [List.length_append]; show acc.length + 1 ≤ n'; omega) fun b hb => ?_
        rcases List.mem_append.1 hb with hb | hb
        · exact hf b hb
        · rw [List.mem_singleton.1 hb]; exact h3
    · obtain rfl := Option.some.inj h
      exact ⟨by omega, hf⟩
theorem compF_fine {p : Bytes} {c : Comp} (h : compF p = some c) : c.ones.length ≤ p.length ∧ ∀ a, a ∈ c.ones → a.fine := by
  unfold compF at h
  split at h
  · cases h
  · split at h
    · obtain rfl := Option.some.inj h
      exact ⟨Nat.zero_le _, fun a ha => by cases ha⟩
    · split at h
      · cases h
      · rename_i l hl
        obtain rfl := Option.some.inj h
        exact onesGo_fine hl (Nat.zero_le _) (Nat.le_refl _) (fun a ha => by cases ha)
theorem compsGo_all : ∀ {P : List Bytes} {acc l : List Comp}, compsGo P acc = some l → l.length = acc.length + P.length ∧ ∀ c, c ∈ l → c ∈ acc ∨ ∃ p, p ∈ P ∧ compF p = some c
  | [], acc, l, h => by
    obtain rfl := Option.some.inj h
    exact ⟨rfl, fun c hc => .inl hc⟩
  | p :: P, acc, l, h => by
    simp only [compsGo] at h
    split at h
    · cases h
    · rename_i c hc
      obtain ⟨h1, h2⟩ := compsGo_all h
      refine ⟨by rw [h1]; simp; omega, fun d hd => ?_⟩
      rcases h2 d hd with h | ⟨q, hq, he⟩
      · rcases List.mem_append.1 h with h | h
        · exact .inl h
        · rw [List.mem_singleton.1 h]
          exact .inr ⟨p, List.mem_cons_self, hc⟩
      · exact .inr ⟨q, List.mem_cons_of_mem _ hq, he⟩
theorem parseF_fine (g : Bytes) (hg : g.length ≤ 2 ^ 29) : FineC (parseF g).1 := by
  unfold parseF
  split
  · exact ⟨by simp, by simp, by simp⟩
  · split
    · exact ⟨by simp, by simp, by simp⟩
    · rename_i l hl
      obtain ⟨h1, h2⟩ := compsGo_all hl
      have h3 := parts_length 47 g
      have h4 := parts_mem 47 g
      have each : ∀ c, c ∈ l → c.ones.length ≤ 2 ^ 30 ∧ ∀ a, a ∈ c.ones → a.fine := fun c hc => by
        rcases h2 c hc with h | ⟨p, hp, he⟩
        · cases h
        · obtain ⟨h5, h6⟩ := compF_fine he
          have := h4 p hp
          exact ⟨by omega, h6⟩
      refine ⟨?_, fun c hc => (each c hc).1, fun c hc => (each c hc).2⟩
      show l.length ≤ 2 ^ 30
      rw [h1, List.length_nil]
      omega
def matchP (g path : Bytes) : Prop := (parseF g).2 = 0 ∧ reachC (parseF g).1 (pathF path) (pathF path).length (parseF g).1.length
theorem pathF_small (s : Bytes) (hs : s.length ≤ 2 ^ 29) : (pathF s).length ≤ 2 ^ 30 ∧ ∀ p, p ∈ pathF s → p.length ≤ 2 ^ 30 := by
  unfold pathF
  split
  · exact ⟨by simp, fun p hp => by cases hp⟩
  · have h3 := parts_length 47 s
    have h4 := parts_mem 47 s
    exact ⟨by omega, fun p hp => by have := h4 p hp; omega⟩
theorem find_st (l : List Nat) (i : Nat) : findM (.int .i64 (i : Int)) (zipA (stK l) (mapP (stV l))) = if i ∈ l then some (.p (.bool true)) else none := by
  induction l with
  | nil => rfl
  | cons k l ih =>
    show findM _ ((AV.int .i64 (k : Int), FV.p (.bool true)) :: zipA (stK l) (mapP (stV l))) = _
    by_cases h : i = k
    · subst h
      simp [findM, sameA, sameA1, sameK]
    · have h1 : sameA (.int .i64 (i : Int)) (.int .i64 (k : Int)) = false := by
        simp only [sameA, sameA1, Bool.and_eq_false_iff, beq_eq_false_iff_ne]
        right; intro e; exact h (by omega)
      simp only [findM, h1, ih, List.mem_cons, h, false_or]
theorem fits_zip (l : List Nat) : ∀ p, p ∈ zipA (stK l) (mapP (stV l)) → fitsK false [.int .i64] p.1 = true := by
  induction l with
  | nil => intro p hp; cases hp
  | cons k l ih =>
    intro p hp
    have hp : p ∈ (AV.int .i64 (k : Int), FV.p (.bool true)) :: zipA (stK l) (mapP (stV l)) := hp
    rcases List.mem_cons.1 hp with rfl | hp
    · rfl
    · exact ih p hp
theorem match_ok (g path : Bytes) (hg : g.length ≤ 2 ^ 29) (hp : path.length ≤ 2 ^ 29) : CallsTo C 79 [.str g, .str path] (fun r => ∃ b : Bool, r = .val (.bool b) ∧ (b = true ↔ matchP g path)) := by
  refine callsTo_of_ev' Tryz.func79 rfl rfl rfl ?_
  refine ⟨_, parse_ok g (by omega), fun r hr => ?_⟩
  subst hr
  have hf := parseF_fine g hg
  obtain ⟨h1, h2⟩ := pathF_small path hp
  unfold matchP
  generalize (parseF g).1 = cs at hf ⊢
  generalize (parseF g).2 = e
  refine ⟨none, ?_⟩
  refine al_eq (fun he => ?_) (fun he => ?_)
  · have he : e = 0 := he
    refine ⟨_, gsplit_ok path (by omega), fun r hr => ?_⟩
    subst hr
    refine ⟨_, walk_ok cs (pathF path) hf h1 h2, ?_⟩
    rintro r ⟨out, rfl, hout⟩
    have hlen : ((encComps cs).length : Int) = (cs.length : Int) := by simp [encComps]
    by_cases hm : cs.length ∈ out
    · refine ⟨_, by kernel_rfl, rfl, fits_zip out, some (.p (.bool true)), by rw [hlen, find_st, if_pos hm], ?_⟩
      exact ⟨true, rfl, fun _ => ⟨he, (hout _).1 hm⟩, fun _ => rfl⟩
    · refine ⟨_, by kernel_rfl, rfl, fits_zip out, none, by rw [hlen, find_st, if_neg hm], .bool false, by kernel_rfl, ?_⟩
      exact ⟨false, rfl, by simp, fun h => absurd ((hout _).2 h.2) hm⟩
  · have he : e ≠ 0 := he
    exact ⟨false, rfl, by simp, fun h => absurd h.1 he⟩
end Qv

end
