/- The laws AccessParse, AccessAllowed, AccessPaths as contracts. No condition. -/
import Derived.Test.YtikckhebddimoaaGreatDoorTH
set_option linter.unusedVariables false
set_option linter.unusedSimpArgs false
open Go Go.Proofs Go.RowKit
namespace Qv
theorem valid_small {a : Access} (h : checkF a = 0) : a.groups.length ≤ 100 ∧ a.rules.length ≤ 100 ∧ ∀ g, g ∈ a.groups → g.members.length ≤ 100 := by
  have hv := checkF_zero.1 h
  refine ⟨hv.gl, hv.rl, fun g hg => ?_⟩
  obtain ⟨i, hi⟩ := List.getElem?_of_mem hg
  have := (groupE_zero (hv.groups i g hi)).2.2
  unfold membersF at this
  split at this
  · cases this
  · omega
theorem parse_small (s : Bytes) : (parseA s).1.groups.length ≤ 100 ∧ (parseA s).1.rules.length ≤ 100 ∧ ∀ g, g ∈ (parseA s).1.groups → g.members.length ≤ 100 := by
  rcases parse_end s with ⟨h, -⟩ | ⟨h, -⟩
  · exact valid_small h
  · rw [h]
    exact ⟨by decide, by decide, fun g hg => by cases hg⟩
theorem parse_law_ok (s : Bytes) : CallsTo C 3 [.str s] (fun r => r = .val (.bool true)) := by
  refine callsTo_of_ev' Tryz.func3 rfl rfl rfl ?_
  refine al_dec (fun h => ?_) (fun h => ?_)
  · refine ⟨_, awake_ok, fun r hr => ?_⟩
    subst hr
    exact rfl
  have h : s.length ≤ 1000 := by
    have : ¬ (s.length : Int) > 1000 := h
    omega
  refine ⟨_, aparse_ok s (by omega), fun r hr => ?_⟩
  subst hr
  refine ⟨_, refParseA_ok s (by omega), fun r hr => ?_⟩
  subst hr
  obtain ⟨h1, h2, h3⟩ := parse_small s
  generalize parseA s = P at h1 h2 h3 ⊢
  obtain ⟨a, n, e⟩ := P
  have h1 : a.groups.length ≤ 100 := h1
  have h2 : a.rules.length ≤ 100 := h2
  refine ⟨none, ?_⟩
  refine ⟨_, same_ok a (by omega) (by omega) (fun g hg => by have := h3 g hg; omega), fun r hr => ?_⟩
  subst hr
  refine al_eq (fun _ => ?_) (fun h => absurd rfl h)
  refine al_eq (fun _ => ?_) (fun h => absurd rfl h)
  refine ⟨_, awake_ok, fun r hr => ?_⟩
  subst hr
  exact rfl
set_option maxHeartbeats 1000000 in
theorem allowed_law_ok (a : Access) (who : Bytes) (right : Int) (branch : Bytes) (paths : List Bytes) (hs : SzA a) (hpl : paths.length ≤ 2 ^ 47) :
    CallsTo C 7 [.agg (encAccess a), .str who, .int .i64 right, .str branch, encS paths] (fun r => r = .val (.bool true)) := by
  refine callsTo_of_ev' Tryz.func7 rfl rfl rfl ?_
  refine ⟨none, ?_⟩
  refine ⟨_, great_ok a hs, fun r hr => ?_⟩
  subst hr
  cases hg : greatA a with
  | true =>
    refine ⟨_, awake_ok, fun r hr => ?_⟩
    subst hr
    exact rfl
  | false =>
  have hf := fineA_of hs (tiny_of hg)
  refine ⟨_, small_ok [who, branch] (by simp), fun r hr => ?_⟩
  subst hr
  refine al_not ?_
  cases hsm : smallF [who, branch] with
  | false =>
    refine ⟨_, awake_ok, fun r hr => ?_⟩
    subst hr
    exact rfl
  | true =>
  have hb : branch.length ≤ 2 ^ 29 := by
    simp only [smallF, List.all_cons, List.all_nil, Bool.and_eq_true, decide_eq_true_eq] at hsm
    omega
  refine ⟨_, small_ok paths (by omega), fun r hr => ?_⟩
  subst hr
  refine al_not ?_
  cases hsp : smallF paths with
  | false =>
    refine ⟨_, awake_ok, fun r hr => ?_⟩
    subst hr
    exact rfl
  | true =>
  have hpp : paths.length ≤ 2 ^ 40 ∧ ∀ p, p ∈ paths → p.length ≤ 2 ^ 29 := by
    simp only [smallF, Bool.and_eq_true, decide_eq_true_eq, List.all_eq_true] at hsp
    exact ⟨by omega, fun p hp => by have := hsp.1 p hp; omega⟩
  refine ⟨.lex 28, by kernel_rfl, ?_⟩
  refine ⟨_, rfl, ?_⟩
  refine ⟨_, rfl, ?_⟩
  refine ⟨_, rfl, ?_⟩
  refine ⟨_, rfl, ?_⟩
  refine ⟨_, rfl, ?_⟩
  refine ⟨.p (.bool (allowedF a who right branch paths)), ⟨_, allowed_ok a who right branch paths hf hb hpp.1 hpp.2, fun r hr => by subst hr; rfl⟩, ?_⟩
  refine ⟨_, rfl, ?_⟩
  refine ⟨_, rfl, ?_⟩
  refine ⟨_, rfl, ?_⟩
  refine ⟨_, rfl, ?_⟩
  refine ⟨_, rfl, ?_⟩
  refine ⟨.p (.bool (allowedF a who right branch paths)), ⟨_, refAllowed_ok a who right branch paths hf hb hpp.1 hpp.2, fun r hr => by subst hr; rfl⟩, ?_⟩
  refine ⟨.p (.bool true), ⟨fun t ht => by rw [ht]; simp⟩, ?_⟩
  refine ⟨_, rfl, ?_⟩
  refine ⟨_, rfl, ?_⟩
  refine ⟨_, rfl, ?_⟩
  refine ⟨_, rfl, ?_⟩
  refine ⟨.p (.bool (decide (checkF a = 0) && memberF a who branch)), ⟨_, member2_ok a who branch hf, fun r hr => by subst hr; rfl⟩, ?_⟩
  refine ⟨_, rfl, ?_⟩
  refine ⟨_, rfl, ?_⟩
  refine ⟨_, rfl, ?_⟩
  refine ⟨.p (.bool (memberF a who branch && decide (checkF a = 0))), ⟨_, refMember_ok a who branch hf, fun r hr => by subst hr; rfl⟩, ?_⟩
  refine ⟨.p (.bool true), ⟨fun t ht => by rw [ht, Bool.and_comm]; simp⟩, ?_⟩
  refine ⟨_, rfl, ?_⟩
  refine ⟨_, rfl, ?_⟩
  refine ⟨.p (.bool true), ⟨_, awake_ok, fun r hr => by subst hr; rfl⟩, ?_⟩
  refine ⟨_, rfl, ?_⟩
  refine ⟨_, rfl, ?_⟩
  exact rfl
theorem allowedF_grant {a : Access} (h : checkF a = 0) (who : Bytes) (right : Int) (branch path : Bytes) : allowedF a who right branch [path] = grantF a who right branch path := by
  unfold allowedF
  rw [decide_eq_true h, if_neg (by simp), Bool.true_and]
  simp
set_option maxHeartbeats 1000000 in
theorem paths_law_ok (a : Access) (q : Quest) (P : List Bytes) (hs : SzA a) (hpl : P.length ≤ 2 ^ 47) :
    CallsTo C 5 [.agg (encAccess a), .agg (encQ q), encS P] (fun r => r = .val (.bool true)) := by
  refine callsTo_of_ev' Tryz.func5 rfl rfl rfl ?_
  refine ⟨none, ?_⟩
  refine ⟨_, fine_ok a q hs, fun r hr => ?_⟩
  subst hr
  refine al_not ?_
  cases hfi : fineF a q with
  | false =>
    refine ⟨_, awake_ok, fun r hr => ?_⟩
    subst hr
    exact rfl
  | true =>
  obtain ⟨ht, hck, hb, hp⟩ := fineQ_of hfi
  have hf := fineA_of hs ht
  refine ⟨_, small_ok P (by omega), fun r hr => ?_⟩
  subst hr
  refine al_not ?_
  cases hsp : smallF P with
  | false =>
    refine ⟨_, awake_ok, fun r hr => ?_⟩
    subst hr
    exact rfl
  | true =>
  obtain ⟨hPl, hpp⟩ : P.length ≤ 6 ∧ ∀ p, p ∈ P → p.length ≤ 2 ^ 29 := by
    simp only [smallF, Bool.and_eq_true, decide_eq_true_eq, List.all_eq_true] at hsp
    exact ⟨by omega, fun p hp => by have := hsp.1 p hp; omega⟩
  refine loopR 66 (fun x : Nat × Bool => [(2, .p (encS P)), (3, .ptr 3 0), (4, .ptr 4 0), (7, .p (.bool x.2)), (20, .p (encS P)), (21, .p (.int .i64 (P.map enc1).length)), (22, .p (.int .i64 x.1))]) (fun _ => [(3, mapP (encAccess a)), (4, mapP (encQ q))]) (fun x => x.1 ≤ P.length ∧ x.2 = (P.take x.1).all (grantF a q.who q.right q.branch)) (fun x => P.length - x.1) (0, true)
    ⟨Nat.zero_le _, rfl⟩ rfl ⟨Weak.refl _, Weak.refl _, Weak.refl _, Weak.refl _, Weak.refl _, Weak.refl _, Weak.refl _, trivial⟩ ⟨hasO_one rfl, hasO_one rfl, trivial⟩ ?_
  rintro ⟨k, b⟩ ⟨hk, hX⟩
  have hk : k ≤ P.length := hk
  have hX : b = (P.take k).all (grantF a q.who q.right q.branch) := hX
  refine al_lt (fun hlt => ?_) (fun hge => ?_)
  · have hlt : k < P.length := hlt
    have hw : IntKind.i64.wrap ((k : Int) + 1) = ((k + 1 : Nat) : Int) := by rw [wrap64 (by omega) (by omega)]; omega
    have step : (P.take (k + 1)).all (grantF a q.who q.right q.branch) = (b && grantF a q.who q.right q.branch P[k]) := by
      rw [List.take_add_one, List.getElem?_eq_getElem hlt, List.all_append, ← hX]
      simp
    refine ⟨by omega, _, idx_map rfl hlt, rfl, ?_⟩
    refine ⟨none, ?_⟩
    cases b with
    | false =>
      refine ⟨_, hw, roundR (k + 1, false) ⟨hlt, by rw [step]; rfl⟩ (by show P.length - (k + 1) < P.length - k; omega) rfl ⟨Weak.refl _, Weak.refl _, Weak.refl _, Weak.refl _, Weak.refl _, Weak.refl _, Weak.refl _, trivial⟩ ⟨hasO_one rfl, hasO_one rfl, trivial⟩⟩
    | true =>
      refine ⟨_, allowed_ok a q.who q.right q.branch [P[k]] hf (by omega) (by simp) (fun p hp' => by rw [List.mem_singleton.1 hp']; exact hpp _ (List.getElem_mem hlt)), fun r hr => ?_⟩
      subst hr
      rw [allowedF_grant hck]
      refine ⟨_, hw, roundR (k + 1, grantF a q.who q.right q.branch P[k]) ⟨hlt, by rw [step, Bool.true_and]⟩ (by show P.length - (k + 1) < P.length - k; omega) rfl ⟨Weak.refl _, Weak.refl _, Weak.refl _, Weak.refl _, Weak.refl _, Weak.refl _, Weak.refl _, trivial⟩ ⟨hasO_one rfl, hasO_one rfl, trivial⟩⟩
  · have hge : ¬ k < P.length := hge
    rw [List.take_of_length_le (by omega)] at hX
    refine al_eq (fun h0 => ?_) (fun h0 => ?_)
    · have h0 : P = [] := by
        have h0 : ((P.map enc1).length : Int) = 0 := h0
        rw [List.length_map] at h0
        exact List.length_eq_zero_iff.1 (by omega)
      refine ⟨_, allowed_ok a q.who q.right q.branch [[]] hf (by omega) (by simp) (fun p hp' => by rw [List.mem_singleton.1 hp']; simp), fun r hr => ?_⟩
      subst hr
      refine ⟨none, ?_⟩
      refine ⟨_, allowed_ok a q.who q.right q.branch P hf (by omega) (by omega) hpp, fun r hr => ?_⟩
      subst hr
      refine al_eq (fun _ => ?_) (fun h => absurd (by unfold allowedF; rw [h0]; rfl) h)
      refine ⟨_, awake_ok, fun r hr => ?_⟩
      subst hr
      exact rfl
    · have h0 : P ≠ [] := fun e => h0 (by rw [e]; rfl)
      refine ⟨none, ?_⟩
      refine ⟨_, allowed_ok a q.who q.right q.branch P hf (by omega) (by omega) hpp, fun r hr => ?_⟩
      subst hr
      refine al_eq (fun _ => ?_) (fun h => absurd (by unfold allowedF; rw [if_neg h0, decide_eq_true hck, Bool.true_and, ← hX]) h)
      refine ⟨_, awake_ok, fun r hr => ?_⟩
      subst hr
      exact rfl
end Qv
