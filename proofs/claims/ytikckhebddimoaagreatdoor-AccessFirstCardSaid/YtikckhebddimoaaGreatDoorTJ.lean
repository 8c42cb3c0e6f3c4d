/- The law AccessFirst as a contract. No condition. -/
import Derived.Test.YtikckhebddimoaaGreatDoorTI
set_option linter.unusedVariables false
set_option linter.unusedSimpArgs false
open Go Go.Proofs Go.RowKit
namespace Qv
theorem fineA_wr {a : Access} {l : List Rule} (h : FineA a) (hl : l.length ≤ 2 ^ 40) (hr : ∀ r, r ∈ l → r.who.length ≤ 2 ^ 50 ∧ r.ref.length ≤ 2 ^ 29 ∧ r.path.length ≤ 2 ^ 29) : FineA (a.wr l) :=
  ⟨h.gl, hl, h.names, hr⟩
def frO (a : Access) (x : Rule) (q : Quest) : List (Nat × List FV) := [(3, mapP (encAccess a)), (4, mapP (encRule x)), (5, mapP (encQ q)), (7, mapP (encAccess a)), (8, mapP (encAccess a)), (9, mapP (encAccess a))]
abbrev frS : List (Nat × FV) := [(3, .ptr 3 0), (4, .ptr 4 0), (5, .ptr 5 0), (7, .ptr 7 0), (8, .ptr 8 0), (9, .ptr 9 0)]
set_option maxRecDepth 100000 in
set_option maxHeartbeats 4000000 in
theorem first_law_ok (a : Access) (x : Rule) (q : Quest) (hs : SzA a) (hx : x.who.length ≤ 2 ^ 47) : CallsTo C 4 [.agg (encAccess a), .agg (encRule x), .agg (encQ q)] (fun r => r = .val (.bool true)) := by
  refine callsTo_of_evO ⟨[], [], false, [], [], []⟩ [] Tryz.func4 rfl rfl rfl ?_
  refine ⟨none, ?_⟩
  refine ⟨_, (fine_ok a q hs).opn, fun r hr => ?_⟩
  subst hr
  refine al_not ?_
  cases hfi : fineF a q with
  | false =>
    refine ⟨_, awake_ok.opn, fun r hr => ?_⟩
    subst hr
    exact rfl
  | true =>
  obtain ⟨ht, hck, hb, hp⟩ := fineQ_of hfi
  have hf := fineA_of hs ht
  refine al_dec (fun h => ?_) (fun h => ?_)
  · refine ⟨_, awake_ok.opn, fun r hr => ?_⟩
    subst hr
    exact rfl
  have hx1 : x.ref.length ≤ 40 := by
    have : ¬ (x.ref.length : Int) > 40 := h
    omega
  refine al_dec (fun h => ?_) (fun h => ?_)
  · refine ⟨_, awake_ok.opn, fun r hr => ?_⟩
    subst hr
    exact rfl
  have hx2 : x.path.length ≤ 40 := by
    have : ¬ (x.path.length : Int) > 40 := h
    omega
  have hrl := ht.rl
  have hfr := hf.rules
  have hxx : x.who.length ≤ 2 ^ 50 ∧ x.ref.length ≤ 2 ^ 29 ∧ x.path.length ≤ 2 ^ 29 := ⟨by omega, by omega, by omega⟩
  have f1 : ∀ y : Rule, y.who = x.who → y.ref = x.ref → y.path = x.path → FineA (a.wr [y]) := fun y e1 e2 e3 => fineA_wr hf (by simp) (fun r hr => by rw [List.mem_singleton.1 hr, e1, e2, e3]; exact hxx)
  have f2 : FineA (a.wr (x :: a.rules)) := fineA_wr hf (by rw [List.length_cons]; omega) (fun r hr => by
    rcases List.mem_cons.1 hr with rfl | hr
    · exact hxx
    · exact hfr r hr)
  have f3 : FineA (a.wr (a.rules ++ [x])) := fineA_wr hf (by rw [List.length_append]; show a.rules.length + 1 ≤ _; omega) (fun r hr => by
    rcases List.mem_append.1 hr with hr | hr
    · exact hfr r hr
    · rw [List.mem_singleton.1 hr]; exact hxx)
  have hall : ∀ zs, zs ∈ a.rules.map encRule → zs.length = 5 := all_enc (f := encRule) (n := 5) (fun _ => rfl) _
  refine ⟨.plan ⟨[0, 1, 2], [3, 4, 5, 6, 7, 8], [], [3]⟩ (.one 0 (.one 1 (.one 2 (.alt 3 (.alt 4 (.alt 5 (.alt 6 (.alt 7 (.alt 8 .fin .stop) .stop) .stop) .stop) (.alt 5 (.alt 4 (.alt 6 (.alt 7 (.alt 8 .fin .stop) .stop) .stop) .stop) .stop)) (.alt 4 (.alt 3 (.alt 5 (.alt 6 (.alt 7 (.alt 8 .fin .stop) .stop) .stop) .stop) (.alt 5 (.alt 3 (.alt 6 (.alt 7 (.alt 8 .fin .stop) .stop) .stop) .stop) .stop)) (.alt 5 (.alt 3 (.alt 4 (.alt 6 (.alt 7 (.alt 8 .fin .stop) .stop) .stop) .stop) (.alt 4 (.alt 3 (.alt 6 (.alt 7 (.alt 8 .fin .stop) .stop) .stop) .stop) .stop)) .stop))))))
    (some (mkS 111 0 frS (frO a x q) [] [])), by kernel_rfl, ?_, ?_⟩
  · refine ⟨_, rfl, rfl, ?_⟩
    refine ⟨_, rfl, rfl, ?_⟩
    refine ⟨_, rfl, rfl, ?_⟩
    refine ⟨⟨rfl, ?_⟩, ⟨rfl, ?_⟩, ⟨rfl, ?_⟩⟩
    · refine ⟨⟨rfl, ?_⟩, ⟨rfl, ?_⟩⟩
      · refine ⟨rfl, ?_⟩
        refine ⟨rfl, ?_⟩
        refine ⟨rfl, ?_⟩
        refine ⟨rfl, ?_⟩
        exact weaken_mk rfl ⟨Weak.refl _, Weak.refl _, Weak.refl _, Weak.refl _, Weak.refl _, Weak.refl _, trivial⟩ ⟨hasO_one rfl, hasO_one rfl, hasO_one rfl, hasO_one rfl, hasO_one rfl, hasO_one rfl, trivial⟩ trivial trivial
      · refine ⟨rfl, ?_⟩
        refine ⟨rfl, ?_⟩
        refine ⟨rfl, ?_⟩
        refine ⟨rfl, ?_⟩
        exact weaken_mk rfl ⟨Weak.refl _, Weak.refl _, Weak.refl _, Weak.refl _, Weak.refl _, Weak.refl _, trivial⟩ ⟨hasO_one rfl, hasO_one rfl, hasO_one rfl, hasO_one rfl, hasO_one rfl, hasO_one rfl, trivial⟩ trivial trivial
    · refine ⟨⟨rfl, ?_⟩, ⟨rfl, ?_⟩⟩
      · refine ⟨rfl, ?_⟩
        refine ⟨rfl, ?_⟩
        refine ⟨rfl, ?_⟩
        refine ⟨rfl, ?_⟩
        exact weaken_mk rfl ⟨Weak.refl _, Weak.refl _, Weak.refl _, Weak.refl _, Weak.refl _, Weak.refl _, trivial⟩ ⟨hasO_one rfl, hasO_one rfl, hasO_one rfl, hasO_one rfl, hasO_one rfl, hasO_one rfl, trivial⟩ trivial trivial
      · refine ⟨rfl, ?_⟩
        refine ⟨rfl, ?_⟩
        refine ⟨rfl, ?_⟩
        refine ⟨rfl, ?_⟩
        exact weaken_mk rfl ⟨Weak.refl _, Weak.refl _, Weak.refl _, Weak.refl _, Weak.refl _, Weak.refl _, trivial⟩ ⟨hasO_one rfl, hasO_one rfl, hasO_one rfl, hasO_one rfl, hasO_one rfl, hasO_one rfl, trivial⟩ trivial trivial
    · refine ⟨⟨rfl, ?_⟩, ⟨rfl, ?_⟩⟩
      · refine ⟨rfl, ?_⟩
        refine ⟨rfl, ?_⟩
        refine ⟨rfl, ?_⟩
        refine ⟨rfl, ?_⟩
        exact weaken_mk rfl ⟨Weak.refl _, Weak.refl _, Weak.refl _, Weak.refl _, Weak.refl _, Weak.refl _, trivial⟩ ⟨hasO_one rfl, hasO_one rfl, hasO_one rfl, hasO_one rfl, hasO_one rfl, hasO_one rfl, trivial⟩ trivial trivial
      · refine ⟨rfl, ?_⟩
        refine ⟨rfl, ?_⟩
        refine ⟨rfl, ?_⟩
        refine ⟨rfl, ?_⟩
        exact weaken_mk rfl ⟨Weak.refl _, Weak.refl _, Weak.refl _, Weak.refl _, Weak.refl _, Weak.refl _, trivial⟩ ⟨hasO_one rfl, hasO_one rfl, hasO_one rfl, hasO_one rfl, hasO_one rfl, hasO_one rfl, trivial⟩ trivial trivial
  refine ⟨all_one rfl, hall, ?_, (x :: a.rules).map encRule, rfl, ?_⟩
  · show (1 + (a.rules.map encRule).length) * 64 ≤ 140737488355328
    rw [List.length_map]
    omega
  refine ⟨.plan ⟨[4, 5], [3, 6, 8], [], [4]⟩ (.one 0 (.one 1 (.one 2 (.one 4 (.one 5 (.alt 3 (.alt 6 (.one 7 (.alt 8 .fin .stop)) .stop) .stop)))))) none, by kernel_rfl, ?_⟩
  refine ⟨_, rfl, ?_⟩
  refine ⟨_, rfl, ?_⟩
  refine ⟨_, rfl, ?_⟩
  refine ⟨_, rfl, rfl, ?_⟩
  refine ⟨_, rfl, rfl, ?_⟩
  refine ⟨rfl, hall, ?_, ?_⟩
  · show (a.rules.map encRule).length * 64 ≤ 140737488355328
    rw [List.length_map]
    omega
  refine ⟨rfl, hall, all_one rfl, ?_, (a.rules ++ [x]).map encRule, by rw [List.map_append]; rfl, ?_⟩
  · show ((a.rules.map encRule).length + 1) * 64 ≤ 140737488355328
    rw [List.length_map]
    omega
  refine ⟨_, rfl, ?_⟩
  refine ⟨rfl, ?_⟩
  refine ⟨_, (check_ok (a.wr [x]) (f1 x rfl rfl rfl)).opn, fun r hr => ?_⟩
  subst hr
  refine al_ne (fun h => ?_) (fun h => ?_)
  · refine ⟨_, awake_ok.opn, fun r hr => ?_⟩
    subst hr
    exact rfl
  have h1 : checkF (a.wr [x]) = 0 := h
  obtain ⟨v1, v2, v3⟩ := first_valid hck h1 (by omega)
  refine ⟨_, (may_ok (a.wr [⟨true, x.who, x.right, x.ref, x.path⟩]) q (f1 _ rfl rfl rfl) hb hp).opn, fun r hr => ?_⟩
  subst hr
  have m1 : mayF (a.wr [⟨true, x.who, x.right, x.ref, x.path⟩]) q = fitsF a q.who q.right q.branch q.path x := by
    rw [mayF_grant (v3 true), grant_flag]
    show flagOf (fitsF a q.who q.right q.branch q.path) [_] = _
    rw [flag_cons]
    show (if fitsF a q.who q.right q.branch q.path x = true then true else flagOf _ []) = _
    cases fitsF a q.who q.right q.branch q.path x <;> rfl
  have m2 : mayF (a.wr (x :: a.rules)) q = if fitsF a q.who q.right q.branch q.path x = true then x.flag else mayF a q := by
    rw [mayF_grant v1, mayF_grant hck, grant_flag, grant_flag]
    exact flag_cons _ _ _
  have m3 : mayF (a.wr (a.rules ++ [x])) q = if a.rules.any (fitsF a q.who q.right q.branch q.path) = true then mayF a q else (fitsF a q.who q.right q.branch q.path x && x.flag) := by
    rw [mayF_grant v2, mayF_grant hck, grant_flag, grant_flag]
    exact flag_back _ _ _
  have m4 : ¬ a.rules.any (fitsF a q.who q.right q.branch q.path) = true → mayF a q = false := fun h => by
    rw [mayF_grant hck, grant_flag]
    exact flag_none h
  rw [m1]
  have k1 : mayF a q = true → mayF (a.wr (a.rules ++ [x])) q = true := fun h => by
    rw [m3]
    by_cases hany : a.rules.any (fitsF a q.who q.right q.branch q.path) = true
    · rw [if_pos hany, h]
    · rw [m4 hany] at h; cases h
  have k2 : x.flag = false → mayF a q = false → mayF (a.wr (a.rules ++ [x])) q = false := fun e1 e2 => by
    rw [m3, e1, e2, Bool.and_false]
    split <;> rfl
  have c0 := (may_ok a q hf hb hp)
  have c2 := (may_ok (a.wr (x :: a.rules)) q f2 hb hp)
  have c3 := (may_ok (a.wr (a.rules ++ [x])) q f3 hb hp)
  obtain ⟨xf, xw, xr, xb, xp⟩ := x
  cases hft : fitsF a q.who q.right q.branch q.path ⟨xf, xw, xr, xb, xp⟩ with
  | true =>
    rw [hft, if_pos rfl] at m2
    rw [m2] at c2
    refine ⟨.lex 6, by kernel_rfl, ?_⟩
    refine ⟨_, rfl, ?_⟩
    refine ⟨_, rfl, ?_⟩
    refine ⟨.p (.bool xf), ⟨_, c2.opn, fun r hr => by subst hr; rfl⟩, ?_⟩
    refine ⟨_, rfl, ?_⟩
    refine ⟨_, rfl, ?_⟩
    refine ⟨.p (.bool false), ⟨fun t ht => by rw [ht]; simp⟩, ?_⟩
    refine ⟨none, ?_⟩
    refine ⟨_, c0.opn, fun r hr => ?_⟩
    subst hr
    cases hmp : mayF a q with
    | true =>
      rw [k1 hmp] at c3
      rw [hmp] at c0
      refine al_not ?_
      refine ⟨_, c3.opn, fun r hr => ?_⟩
      subst hr
      cases xf with
      | true =>
        refine ⟨_, awake_ok.opn, fun r hr => ?_⟩
        subst hr
        exact rfl
      | false =>
        refine ⟨_, c3.opn, fun r hr => ?_⟩
        subst hr
        refine al_not ?_
        refine ⟨_, c0.opn, fun r hr => ?_⟩
        subst hr
        refine ⟨_, awake_ok.opn, fun r hr => ?_⟩
        subst hr
        exact rfl
    | false =>
      refine al_not ?_
      cases xf with
      | true =>
        refine ⟨_, awake_ok.opn, fun r hr => ?_⟩
        subst hr
        exact rfl
      | false =>
        rw [k2 rfl hmp] at c3
        refine ⟨_, c3.opn, fun r hr => ?_⟩
        subst hr
        refine al_not ?_
        refine ⟨_, awake_ok.opn, fun r hr => ?_⟩
        subst hr
        exact rfl
  | false =>
    rw [hft, if_neg (by simp)] at m2
    rw [m2] at c2
    have m3' : mayF (a.wr (a.rules ++ [⟨xf, xw, xr, xb, xp⟩])) q = mayF a q := by
      rw [m3, hft, Bool.false_and]
      by_cases hany : a.rules.any (fitsF a q.who q.right q.branch q.path) = true
      · rw [if_pos hany]
      · rw [if_neg hany, m4 hany]
    have c3' := c3
    rw [m3'] at c3'
    refine ⟨.lex 16, by kernel_rfl, ?_⟩
    refine ⟨_, rfl, ?_⟩
    refine ⟨_, rfl, ?_⟩
    refine ⟨.p (.bool (mayF a q)), ⟨_, c2.opn, fun r hr => by subst hr; rfl⟩, ?_⟩
    refine ⟨_, rfl, ?_⟩
    refine ⟨_, rfl, ?_⟩
    refine ⟨.p (.bool (mayF a q)), ⟨_, c0.opn, fun r hr => by subst hr; rfl⟩, ?_⟩
    refine ⟨.p (.bool false), ⟨fun t ht => by rw [ht]; simp⟩, ?_⟩
    refine ⟨_, rfl, ?_⟩
    refine ⟨_, rfl, ?_⟩
    refine ⟨_, rfl, ?_⟩
    refine ⟨.p (.bool (mayF a q)), ⟨_, c3'.opn, fun r hr => by subst hr; rfl⟩, ?_⟩
    refine ⟨_, rfl, ?_⟩
    refine ⟨_, rfl, ?_⟩
    refine ⟨.p (.bool (mayF a q)), ⟨_, c0.opn, fun r hr => by subst hr; rfl⟩, ?_⟩
    refine ⟨.p (.bool false), ⟨fun t ht => by rw [ht]; simp⟩, ?_⟩
    refine ⟨_, rfl, ?_⟩
    refine ⟨none, ?_⟩
    refine ⟨_, c0.opn, fun r hr => ?_⟩
    subst hr
    cases hmp : mayF a q with
    | true =>
      rw [k1 hmp] at c3
      rw [hmp] at c0
      refine al_not ?_
      refine ⟨_, c3.opn, fun r hr => ?_⟩
      subst hr
      cases xf with
      | true =>
        refine ⟨_, awake_ok.opn, fun r hr => ?_⟩
        subst hr
        exact rfl
      | false =>
        refine ⟨_, c3.opn, fun r hr => ?_⟩
        subst hr
        refine al_not ?_
        refine ⟨_, c0.opn, fun r hr => ?_⟩
        subst hr
        refine ⟨_, awake_ok.opn, fun r hr => ?_⟩
        subst hr
        exact rfl
    | false =>
      refine al_not ?_
      cases xf with
      | true =>
        refine ⟨_, awake_ok.opn, fun r hr => ?_⟩
        subst hr
        exact rfl
      | false =>
        rw [k2 rfl hmp] at c3
        refine ⟨_, c3.opn, fun r hr => ?_⟩
        subst hr
        refine al_not ?_
        refine ⟨_, awake_ok.opn, fun r hr => ?_⟩
        subst hr
        exact rfl
end Qv
