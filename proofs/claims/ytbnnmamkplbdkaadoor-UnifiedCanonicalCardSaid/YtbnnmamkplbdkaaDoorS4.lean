/- Contracts: the law UnifiedMoved. No condition. -/
import Derived.Test.YtbnnmamkplbdkaaDoorS3
set_option linter.unusedVariables false
set_option linter.unusedSimpArgs false
open Go Go.Proofs
namespace Qv

theorem oldTotal_le (l : List Hunk) : oldTotal l ≤ hSum l := by
  induction l with
  | nil => exact Nat.le_refl _
  | cons h r ih =>
    have h1 : oldTotal (h :: r) = h.old.length + oldTotal r := rfl
    have h2 : hSum (h :: r) = h.old.length + h.new.length + hSum r := rfl
    omega

theorem awakeT {K : Ret → Prop} (h : K (.val (.bool true))) : ∃ P, CallsTo C 13 [] P ∧ ∀ r, P r → K r := ⟨_, awake_ok, fun r hr => by rw [hr]; exact h⟩

set_option maxRecDepth 100000 in
set_option maxHeartbeats 4000000 in
theorem moved_ok' (a f : List Bytes) (l : List Hunk) (n : Nat) (hn : n < 256) (hs' : SzS a) (hf' : SzS f) (ht' : SzH l) :
    CallsTo C 7 [encS a, encS f, encHs l, .int .u8 n] (fun q => q = .val (.bool true)) := by
  refine callsTo_of_ev' Tryd.func7 rfl rfl rfl ?_
  refine ⟨none, _, (great_ok a l hs' ht').bool, ?_⟩
  rintro q ⟨t, hg, rfl⟩
  cases t with
  | true =>
    refine ⟨_, awake_ok, ?_⟩
    rintro q rfl
    exact rfl
  | false =>
  obtain ⟨z1, z2, z3⟩ := great_no hg.symm
  obtain ⟨hs, ht⟩ := great_tiny hg.symm
  refine ⟨_, (greatS_ok f hf').bool, ?_⟩
  rintro q ⟨t, hg2, rfl⟩
  cases t with
  | true =>
    refine ⟨_, awake_ok, ?_⟩
    rintro q rfl
    exact rfl
  | false =>
  have hf := greatS_no hg2.symm
  refine ⟨dc (fun q1 => ?_) (fun q1 => ⟨dc (fun q2 => ?_) (fun q2 => ?_)⟩)⟩
  · refine ⟨_, awake_ok, ?_⟩
    rintro q rfl
    exact rfl
  · refine ⟨_, awake_ok, ?_⟩
    rintro q rfl
    exact rfl
  have q2' : f.length ≤ 20 := by simp only [List.length_map] at q2; omega
  have hm : (n : Int).tmod 101 = ((n % 101 : Nat) : Int) := rfl
  have hm1 : n % 101 < 101 := Nat.mod_lt _ (by decide)
  have hm0 : 0 ≤ (n : Int).tmod 101 := by rw [hm]; omega
  have c1 := blocks_ok a l ((n : Int).tmod 101) hs ht (by omega)
  by_cases h : (happly a l).2 = 0
  case neg =>
    have hblk : blocksL a l ((n : Int).tmod 101) = ([], (happly a l).2) := by
      unfold blocksL
      rw [if_neg (by rw [hm]; omega), if_neg h]
    rw [hblk] at c1
    refine ⟨_, wrapS n hn, by decide, _, rfl, _, c1, ?_⟩
    rintro q rfl
    refine ⟨nec (fun _ => ?_) (fun h' => absurd h' h)⟩
    refine ⟨_, awake_ok, ?_⟩
    rintro q rfl
    exact rfl
  have hblk : blocksL a l ((n : Int).tmod 101) = (blocksF a ((n : Int).tmod 101) 0 (groupsL ((n : Int).tmod 101) l), 0) := by
    unfold blocksL
    rw [if_neg (by rw [hm]; omega), if_pos h]
  obtain ⟨t1, t2⟩ := blocks_tiny ((n : Int).tmod 101) z1 z2 z3
  have hnt := newTotal_le l
  have hck := blocks_check hm0 h (by omega)
  have hot := oldTotal_le l
  obtain ⟨m, ps, e1, e2, e3⟩ := moved_law (f := f) hm0 h
  rw [hblk] at c1
  generalize hB : blocksF a ((n : Int).tmod 101) 0 (groupsL ((n : Int).tmod 101) l) = B at *
  have c2 := uapply_ok (f ++ a) B ((f ++ a).length : Nat) (by simp only [List.length_append]; omega) t1 (by omega)
  have hu : uapply (f ++ a) B ((f ++ a).length : Nat) = (m, ps, 0) := by
    unfold uapply
    rw [hck, e1, if_pos rfl, if_pos (by simp [inR]; omega)]
    rfl
  rw [hu] at c2
  have c3 : CallsTo C 19 [encS (f ++ a), encBs B, .int .i64 ((List.map enc1 (f ++ a)).length : Nat)] (fun r => r = .val (.tup [encS m, encIs ps, .int .i64 0])) := by
    rw [List.length_map]
    exact c2
  refine ⟨_, wrapS n hn, by decide, _, rfl, _, c1, ?_⟩
  rintro q rfl
  refine ⟨nec (fun h => absurd rfl h) (fun _ => ?_)⟩
  refine ⟨fun zs h => (List.not_mem_nil h).elim, all_enc1 f, by show (0 + _) * 16 ≤ _; simp only [List.length_map]; omega, f.map enc1, rfl, ?_⟩
  refine ⟨all_enc1 f, all_enc1 a, by show (_ + _) * 16 ≤ _; simp only [List.length_map]; omega, (f ++ a).map enc1, by rw [List.map_append], ?_⟩
  refine ⟨_, c3, ?_⟩
  rintro q rfl
  refine ⟨none, ⟨nec (fun h => absurd rfl h) (fun _ => ?_)⟩⟩
  refine ⟨nec (fun h => absurd (by simp [e2]) h) (fun _ => ?_)⟩
  have b1 : newTotal l ≤ 40 := by omega
  refine loopR 96 (fun k : Nat => [(12, .p (encS m)), (15, .p (.int .i64 ((f.length : Int) + a.length + newTotal (l.take k) - oldTotal (l.take k)))), (73, .p (encHs l)), (74, .p (.int .i64 (l.map encHunk).length)), (75, .p (.int .i64 k))]) (fun _ => []) (fun k => k ≤ l.length) (fun k => l.length - k) 0 (Nat.zero_le _) rfl ⟨Weak.refl _, Weak.int (by simp [newTotal, oldTotal]), Weak.refl _, Weak.refl _, Weak.refl _, trivial⟩ trivial ?_
  intro k hk
  refine al_lt (fun hlt => ?_) (fun hge => ?_)
  · have d1 : newTotal (l.take (k + 1)) = newTotal (l.take k) + l[k].new.length := sum_take _ l k hlt
    have d2 : oldTotal (l.take (k + 1)) = oldTotal (l.take k) + l[k].old.length := sum_take _ l k hlt
    have d3 : newTotal (l.take (k + 1)) ≤ newTotal l := sum_take_le _ l (k + 1)
    have d4 : oldTotal (l.take (k + 1)) ≤ oldTotal l := sum_take_le _ l (k + 1)
    refine ⟨by omega, _, idx_map rfl hlt, rfl, _, wrap64 (by first | omega | (simp only [List.length_map, List.length_append, List.length_cons, List.length_nil] at *; omega)) (by first | omega | (simp only [List.length_map, List.length_append, List.length_cons, List.length_nil] at *; omega)), _, wrap64 (by first | omega | (simp only [List.length_map, List.length_append, List.length_cons, List.length_nil] at *; omega)) (by first | omega | (simp only [List.length_map, List.length_append, List.length_cons, List.length_nil] at *; omega)), k + 1, wrap64 (by first | omega | (simp only [List.length_map, List.length_append, List.length_cons, List.length_nil] at *; omega)) (by first | omega | (simp only [List.length_map, List.length_append, List.length_cons, List.length_nil] at *; omega)), roundR (k + 1) hlt (by omega) rfl ⟨Weak.refl _, Weak.int (by rw [d1, d2]; simp only [List.length_map]; omega), Weak.refl _, Weak.refl _, Weak.refl _, trivial⟩ trivial⟩
  · obtain rfl : k = l.length := by omega
    refine ⟨none, ⟨eqc (fun _ => ?_) (fun h => absurd (by simp only [List.length_map, List.take_length]; omega) h)⟩⟩
    refine ⟨_, awake_ok, ?_⟩
    rintro q rfl
    exact rfl

end Qv
