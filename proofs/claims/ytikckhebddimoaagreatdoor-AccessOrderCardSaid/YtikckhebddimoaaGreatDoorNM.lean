/- The law AccessOrder as a contract. No condition. -/
import Derived.Test.YtikckhebddimoaaGreatDoorNK
import Derived.Test.YtikckhebddimoaaGreatDoorNO
set_option linter.unusedVariables false
set_option linter.unusedSimpArgs false
open Go Go.Proofs Go.RowKit
namespace Qv
theorem kill_mapP (d : Nat) (l : List AV) : FV.killL d (mapP l) = mapP l := by
  induction l with
  | nil => rfl
  | cons a l ih => show _ :: FV.killL d (mapP l) = _; rw [ih]; rfl
def cellsR (l : List Rule) : List FV := mapP (l.map encRule).flatten
theorem cellsR_cons (x : Rule) (l : List Rule) : cellsR (x :: l) = mapP (encRule x) ++ cellsR l := rfl
theorem cellsR_app (l m : List Rule) : cellsR (l ++ m) = cellsR l ++ cellsR m := by
  induction l with
  | nil => rfl
  | cons x l ih => rw [List.cons_append, cellsR_cons, cellsR_cons, ih, List.append_assoc]
theorem cellsR_len (l : List Rule) : (cellsR l).length = l.length * 5 := by
  induction l with
  | nil => rfl
  | cons x l ih => rw [cellsR_cons, List.length_append, ih, List.length_cons]; show 5 + _ = _; omega
theorem rule_all (l : List Rule) : ∀ ys, ys ∈ l.map encRule → ys.length = 5 ∧ ∀ z, z ∈ ys → z.one = true := fun ys hy => by
  obtain ⟨r, -, rfl⟩ := List.mem_map.1 hy
  refine ⟨rfl, fun z hz => ?_⟩
  simp only [encRule, List.mem_cons, List.not_mem_nil, or_false] at hz
  rcases hz with rfl | rfl | rfl | rfl | rfl <;> rfl
def orO (a : Access) (q : Quest) (more : List (Nat × List FV)) : List (Nat × List FV) := (3, mapP (encAccess a)) :: (4, mapP (encQ q)) :: more
set_option maxRecDepth 100000 in
set_option maxHeartbeats 4000000 in
theorem order_law_ok (a : Access) (q : Quest) (n : Nat) (hn : n < 256) (hs : SzA a) : CallsTo C 8 [.agg (encAccess a), .agg (encQ q), .int .u8 n] (fun r => r = .val (.bool true)) := by
  refine callsTo_of_evO ⟨[61], [10], false, [], [], []⟩ [7] Tryz.func8 rfl rfl rfl ?_
  refine ⟨none, ?_⟩
  refine ⟨_, (fine_ok a q hs).opn, fun r hr => ?_⟩
  subst hr
  refine al_not ?_
  cases hfi : fineF a q with
  | false =>
    refine ⟨_, awake_ok.opn, fun r hr => ?_⟩
    subst hr
    exact rfl
  | true =>
  obtain ⟨ht, hck, hb, hp⟩ := fineQ_of hfi
  have hf := fineA_of hs ht
  have hrl := ht.rl
  have hlen : ((a.rules.map encRule).length : Int) = (a.rules.length : Int) := by simp
  refine al_dec (fun h0 => ?_) (fun h0 => ?_)
  · refine ⟨_, awake_ok.opn, fun r hr => ?_⟩
    subst hr
    exact rfl
  have h0 : 2 ≤ a.rules.length := by
    have : ¬ ((a.rules.map encRule).length : Int) < 2 := h0
    omega
  obtain ⟨L, hL⟩ : ∃ L, a.rules.length = L + 1 := ⟨a.rules.length - 1, by omega⟩
  have hi : n % L < L := Nat.mod_lt _ (by omega)
  refine ⟨_, wrap64 (by omega) (by omega), ?_⟩
  refine ⟨((L : Nat) : Int), by rw [wrap64 (by omega) (by omega)]; omega, ?_⟩
  refine ⟨by omega, ((n % L : Nat) : Int), tmod_nat _ _, ?_⟩
  generalize n % L = i at hi ⊢
  obtain ⟨A, x, y, B, hr, hA⟩ : ∃ A x y B, a.rules = A ++ x :: y :: B ∧ A.length = i := by
    have h1 : i < a.rules.length := by omega
    have h2 : i + 1 < a.rules.length := by omega
    refine ⟨a.rules.take i, a.rules[i], a.rules[i + 1], a.rules.drop (i + 2), ?_, by rw [List.length_take]; omega⟩
    rw [← List.drop_eq_getElem_cons h2, ← List.drop_eq_getElem_cons h1, List.take_append_drop]
  have ix : (a.rules.map encRule)[((i : Nat) : Int).toNat]? = some [.bool x.flag, .str x.who, .int .i64 x.right, .str x.ref, .str x.path] := by
    rw [hr, ← hA]
    simp [encRule]
  have iy : (a.rules.map encRule)[((i + 1 : Nat) : Int).toNat]? = some [.bool y.flag, .str y.who, .int .i64 y.right, .str y.ref, .str y.path] := by
    rw [hr, ← hA]
    have : ((A.length + 1 : Nat) : Int).toNat = A.length + 1 := rfl
    rw [this, List.map_append, List.getElem?_append_right (by simp)]
    simp [encRule]
  have hwi : IntKind.i64.wrap ((i : Int) + 1) = ((i + 1 : Nat) : Int) := by rw [wrap64 (by omega) (by omega)]; omega
  have hxm : x ∈ a.rules := by rw [hr]; simp
  have hym : y ∈ a.rules := by rw [hr]; simp
  have hfx := hf.rules x hxm
  have hfy := hf.rules y hym
  refine ⟨.plan ⟨[0, 1, 2, 3, 4, 5, 6, 7, 8, 9, 10], [11, 12, 13, 14], [], [3]⟩ (.one 0 (.one 1 (.one 2 (.one 3 (.one 4 (.one 5 (.one 6 (.one 7 (.one 8 (.one 9 (.one 10 (.alt 11 (.alt 12 (.alt 13 (.alt 14 .fin .stop) .stop) .stop) (.alt 12 (.alt 11 (.alt 13 (.alt 14 .fin .stop) .stop) .stop) .stop)))))))))))))
    (some (mkS 87 0 [(3, .ptr 3 0), (4, .ptr 4 0), (7, .p (.int .i64 i)), (8, .ptr 8 0), (9, .ptr 9 0)] (orO a q [(8, mapP (encRule x)), (9, mapP (encRule y))]) [] [])), by kernel_rfl, ?_, ?_⟩
  · refine ⟨_, rfl, rfl, ?_⟩
    refine ⟨_, rfl, rfl, ?_⟩
    refine ⟨_, rfl, rfl, ?_⟩
    refine ⟨.p (.imp [.bool x.flag, .str x.who, .int .i64 x.right, .str x.ref, .str x.path]), ⟨by omega, _, ix, rfl, rfl⟩, rfl, ?_⟩
    refine ⟨_, rfl, rfl, ?_⟩
    refine ⟨_, rfl, rfl, ?_⟩
    refine ⟨_, rfl, rfl, ?_⟩
    refine ⟨_, rfl, rfl, ?_⟩
    refine ⟨_, ⟨_, hwi, rfl⟩, rfl, ?_⟩
    refine ⟨.p (.imp [.bool y.flag, .str y.who, .int .i64 y.right, .str y.ref, .str y.path]), ⟨by omega, _, iy, rfl, rfl⟩, rfl, ?_⟩
    refine ⟨_, rfl, rfl, ?_⟩
    refine ⟨⟨rfl, ?_⟩, ⟨rfl, ?_⟩⟩
    · refine ⟨rfl, ?_⟩
      refine ⟨rfl, ?_⟩
      refine ⟨rfl, ?_⟩
      exact weaken_mk rfl ⟨Weak.refl _, Weak.refl _, Weak.refl _, Weak.refl _, Weak.refl _, trivial⟩ ⟨hasO_one rfl, hasO_one rfl, hasO_one rfl, hasO_one rfl, trivial⟩ trivial trivial
    · refine ⟨rfl, ?_⟩
      refine ⟨rfl, ?_⟩
      refine ⟨rfl, ?_⟩
      exact weaken_mk rfl ⟨Weak.refl _, Weak.refl _, Weak.refl _, Weak.refl _, Weak.refl _, trivial⟩ ⟨hasO_one rfl, hasO_one rfl, hasO_one rfl, hasO_one rfl, trivial⟩ trivial trivial
  refine ⟨none, ?_⟩
  refine share (T := ¬ (x.right = y.right ∧ overF x.ref y.ref = true ∧ overF x.path y.path = true) → ?T) (fun H => ?main) ?rest
  case main =>
    refine al_eq (fun h1 => ?_) (fun h1 => ?_)
    case refine_2 =>
      refine cutR 87 [(3, .ptr 3 0), (4, .ptr 4 0), (7, .p (.int .i64 i)), (8, .ptr 8 0), (9, .ptr 9 0)] (orO a q [(8, mapP (encRule x)), (9, mapP (encRule y))]) rfl ⟨Weak.refl _, Weak.refl _, Weak.refl _, Weak.refl _, Weak.refl _, trivial⟩ ⟨hasO_one rfl, hasO_one rfl, hasO_one rfl, hasO_one rfl, trivial⟩ ?_
      exact H.out (fun h => h1 h.1)
    case refine_1 =>
    have h1 : x.right = y.right := h1
    refine ⟨_, (over_ok x.ref y.ref (by omega) (by omega)).opn, fun r hr => ?_⟩
    subst hr
    cases h2 : overF x.ref y.ref with
    | false =>
      refine cutR 87 [(3, .ptr 3 0), (4, .ptr 4 0), (7, .p (.int .i64 i)), (8, .ptr 8 0), (9, .ptr 9 0)] (orO a q [(8, mapP (encRule x)), (9, mapP (encRule y))]) rfl ⟨Weak.refl _, Weak.refl _, Weak.refl _, Weak.refl _, Weak.refl _, trivial⟩ ⟨hasO_one rfl, hasO_one rfl, hasO_one rfl, hasO_one rfl, trivial⟩ ?_
      exact H.out (fun h => by rw [h2] at h; cases h.2.1)
    | true =>
      refine ⟨_, (over_ok x.path y.path (by omega) (by omega)).opn, fun r hr => ?_⟩
      subst hr
      cases h3 : overF x.path y.path with
      | true =>
        refine ⟨_, awake_ok.opn, fun r hr => ?_⟩
        subst hr
        exact rfl
      | false =>
        refine cutR 87 [(3, .ptr 3 0), (4, .ptr 4 0), (7, .p (.int .i64 i)), (8, .ptr 8 0), (9, .ptr 9 0)] (orO a q [(8, mapP (encRule x)), (9, mapP (encRule y))]) rfl ⟨Weak.refl _, Weak.refl _, Weak.refl _, Weak.refl _, Weak.refl _, trivial⟩ ⟨hasO_one rfl, hasO_one rfl, hasO_one rfl, hasO_one rfl, trivial⟩ ?_
        exact H.out (fun h => by rw [h3] at h; cases h.2.2)
  case rest =>
  intro hno
  have hall : ∀ zs, zs ∈ a.rules.map encRule → zs.length = 5 := all_enc (f := encRule) (n := 5) (fun _ => rfl) _
  refine ⟨0, rfl, hall, ?_, cellsR a.rules, kill_mapP _ _, ?_⟩
  · show (0 + (a.rules.map encRule).length) * 64 ≤ 140737488355328
    rw [List.length_map]
    omega
  have c1 : cellsR a.rules = cellsR A ++ (mapP (encRule x) ++ (mapP (encRule y) ++ cellsR B)) := by rw [hr, cellsR_app, cellsR_cons, cellsR_cons]
  have c2 : cellsR A ++ (mapP (encRule y) ++ (mapP (encRule y) ++ cellsR B)) = (cellsR A ++ mapP (encRule y)) ++ (mapP (encRule y) ++ cellsR B) := by rw [List.append_assoc]
  have c3 : (cellsR A ++ mapP (encRule y)) ++ (mapP (encRule x) ++ cellsR B) = cellsR (A ++ y :: x :: B) := by rw [cellsR_app, cellsR_cons, cellsR_cons, List.append_assoc]
  have l1 : (cellsR A).length = i * 5 := by rw [cellsR_len, hA]
  have l2 : (cellsR A ++ mapP (encRule y)).length = (i + 1) * 5 := by rw [List.length_append, l1]; show i * 5 + 5 = _; omega
  have l3 : i * 5 + 5 ≤ (cellsR a.rules).length := by rw [cellsR_len]; omega
  have l4 : (i + 1) * 5 + 5 ≤ (cellsR A ++ (mapP (encRule y) ++ (mapP (encRule y) ++ cellsR B))).length := by
    have : (cellsR A ++ (mapP (encRule y) ++ (mapP (encRule y) ++ cellsR B))).length = (cellsR A).length + (5 + (5 + (cellsR B).length)) := by simp [mapP, encRule]; omega
    rw [this, l1]; omega
  refine ⟨.plan ⟨[0, 2, 3, 5, 6, 7, 8], [10, 12], [], [10, 8, 9]⟩ (.one 0 (.one 2 (.one 3 (.one 5 (.one 6 (.one 7 (.one 8 (.one 1 (.one 9 (.alt 4 (.alt 10 (.one 11 (.alt 12 .fin .stop)) .stop) (.alt 10 (.one 4 (.one 11 (.alt 12 .fin .stop))) .stop)))))))))))
    (some (mkS 87 0 [(3, .ptr 3 0), (4, .ptr 4 0), (10, .ptr 10 0)] (orO a q [(10, [.p (encGroups a.groups), .osl 61 33 5, .p (.int .i64 a.votes)]), (61, cellsR (A ++ y :: x :: B))]) [] [])), by kernel_rfl, ?_, ?_⟩
  · refine ⟨_, rfl, rfl, ?_⟩
    refine ⟨_, rfl, rfl, ?_⟩
    refine ⟨_, rfl, rfl, ?_⟩
    refine ⟨_, rfl, rfl, ?_⟩
    refine ⟨_, ⟨_, hwi, rfl⟩, rfl, ?_⟩
    refine ⟨_, rfl, rfl, ?_⟩
    refine ⟨_, rfl, rfl, ?_⟩
    refine ⟨_, rfl, ?_⟩
    refine ⟨_, ⟨i, i * 5, rfl, rfl, l3, rfl⟩, ?_⟩
    refine ⟨?_, ?_⟩
    · refine ⟨_, rfl, ?_⟩
      refine ⟨rfl, cellsR A, mapP (encRule x), mapP (encRule y) ++ cellsR B, c1, l1, cellsR A ++ (mapP (encRule y) ++ (mapP (encRule y) ++ cellsR B)), rfl, ?_⟩
      refine ⟨_, ⟨i + 1, (i + 1) * 5, rfl, rfl, l4, rfl⟩, ?_⟩
      refine ⟨rfl, cellsR A ++ mapP (encRule y), mapP (encRule y), cellsR B, c2, l2, cellsR (A ++ y :: x :: B), c3, ?_⟩
      exact weaken_mk rfl ⟨Weak.refl _, Weak.refl _, Weak.refl _, trivial⟩ ⟨hasO_one rfl, hasO_one rfl, hasO_one rfl, hasO_one rfl, trivial⟩ trivial trivial
    · refine ⟨rfl, cellsR A, mapP (encRule x), mapP (encRule y) ++ cellsR B, c1, l1, cellsR A ++ (mapP (encRule y) ++ (mapP (encRule y) ++ cellsR B)), rfl, ?_⟩
      refine ⟨_, rfl, ?_⟩
      refine ⟨_, ⟨i + 1, (i + 1) * 5, rfl, rfl, l4, rfl⟩, ?_⟩
      refine ⟨rfl, cellsR A ++ mapP (encRule y), mapP (encRule y), cellsR B, c2, l2, cellsR (A ++ y :: x :: B), c3, ?_⟩
      exact weaken_mk rfl ⟨Weak.refl _, Weak.refl _, Weak.refl _, trivial⟩ ⟨hasO_one rfl, hasO_one rfl, hasO_one rfl, hasO_one rfl, trivial⟩ trivial trivial
  refine ⟨61, 5, (A ++ y :: x :: B).map encRule, ⟨⟨_, rfl, toAVs_mapP _⟩, rule_all _⟩, ?_⟩
  have hv := swap_valid hck hr
  have hfw : FineA (a.wr (A ++ y :: x :: B)) := by
    refine fineA_wr' hf ?_ fun r hm => hf.rules r ?_
    · have : a.rules.length = (A ++ y :: x :: B).length := by rw [hr]; simp
      omega
    · rw [hr]
      simp only [List.mem_append, List.mem_cons] at hm ⊢
      rcases hm with h | h | h | h
      · exact .inl h
      · exact .inr (.inr (.inl h))
      · exact .inr (.inl h)
      · exact .inr (.inr (.inr h))
  have hmay : mayF (a.wr (A ++ y :: x :: B)) q = mayF a q := by
    rw [mayF_grant hv, mayF_grant hck, grant_flag, grant_flag]
    have e := flag_swap (p := fitsF a q.who q.right q.branch q.path) A B y x (fun h => order_fits hno q.who q.right q.branch q.path ⟨h.2, h.1⟩)
    exact e.trans (by rw [hr])
  have d2 := may_ok _ q hfw hb hp
  rw [hmay] at d2
  refine ⟨.lex 11, by kernel_rfl, ?_⟩
  refine ⟨_, rfl, ?_⟩
  refine ⟨_, rfl, ?_⟩
  refine ⟨.p (.bool (mayF a q)), ⟨_, d2.opn, fun r hr => by subst hr; rfl⟩, ?_⟩
  refine ⟨_, rfl, ?_⟩
  refine ⟨_, rfl, ?_⟩
  refine ⟨.p (.bool (mayF a q)), ⟨_, (may_ok a q hf hb hp).opn, fun r hr => by subst hr; rfl⟩, ?_⟩
  refine ⟨.p (.bool true), ⟨fun t ht => by rw [ht]; simp⟩, ?_⟩
  refine ⟨_, rfl, ?_⟩
  refine ⟨.p (.bool true), ⟨_, awake_ok.opn, fun r hr => by subst hr; rfl⟩, ?_⟩
  refine ⟨_, rfl, ?_⟩
  refine ⟨_, rfl, ?_⟩
  exact rfl
end Qv

