/- Contracts: the laws UnifiedApplies and UnifiedMoved. No condition. -/
import Derived.Test.YtbnnmamkplbdkaaDoorS2
set_option linter.unusedVariables false
set_option linter.unusedSimpArgs false
open Go Go.Proofs
namespace Qv

theorem seg_le {α : Type} (l : List α) (i j : Nat) : (seg l i j).length ≤ l.length := by
  unfold seg
  simp only [List.length_drop, List.length_take]
  omega

theorem blockLines_len (a : List Bytes) (e : Nat) : ∀ (g : List Hunk) (p : Nat), (blockLines a e p g).length ≤ a.length * (g.length + 1) + hSum g
  | [], p => by
    have := seg_le a p e
    simp only [blockLines, marked, List.length_map, List.length_nil]
    omega
  | h :: r, p => by
    have h1 := seg_le a p h.at_.toNat
    have ih := blockLines_len a e r (h.at_.toNat + h.old.length)
    have h2 : hSum (h :: r) = h.old.length + h.new.length + hSum r := rfl
    simp only [blockLines, marked, List.length_map, List.length_cons, List.length_append] at ih ⊢
    rw [h2, Nat.mul_add, Nat.mul_one]
    omega

theorem hSum_app (l r : List Hunk) : hSum (l ++ r) = hSum l + hSum r := by
  unfold hSum
  rw [List.map_append, List.sum_append]

theorem flat_mem {g : List Hunk} : ∀ {gs : List (List Hunk)}, g ∈ gs → g.length ≤ gs.flatten.length ∧ hSum g ≤ hSum gs.flatten
  | x :: gs, h => by
    rw [List.flatten_cons, List.length_append, hSum_app]
    rcases List.mem_cons.mp h with h | h
    · rw [h]; omega
    · have := flat_mem h; omega

theorem groupsL_len (n : Int) : ∀ (l : List Hunk), (groupsL n l).length ≤ l.length
  | [] => Nat.le_refl _
  | [x] => Nat.le_refl _
  | x :: y :: r => by
    obtain ⟨g, gs, h1, h2, h3⟩ := groups_ne n (y :: r) (by simp)
    have ih := groupsL_len n (y :: r)
    rw [groups_cons n x y r g gs h1]
    rw [h1] at ih
    simp only [List.length_cons] at ih ⊢
    split <;> simp only [List.length_cons] <;> omega

theorem blocksF_len (a : List Bytes) (n : Int) : ∀ (gs : List (List Hunk)) (sh : Int), (blocksF a n sh gs).length = gs.length
  | [], _ => rfl
  | g :: gs, sh => by simp only [blocksF, List.length_cons, blocksF_len a n gs]

theorem blocksF_mem {a : List Bytes} {n : Int} {b : Block} : ∀ {gs : List (List Hunk)} {sh : Int}, b ∈ blocksF a n sh gs → ∃ g, g ∈ gs ∧ ∃ s, b = blockOf a n s g
  | g :: gs, sh, h => by
    simp only [blocksF] at h
    rcases List.mem_cons.mp h with h | h
    · exact ⟨g, List.mem_cons_self, _, h⟩
    · obtain ⟨g', h1, h2⟩ := blocksF_mem h
      exact ⟨g', List.mem_cons_of_mem _ h1, h2⟩

theorem blocks_tiny {a : List Bytes} {l : List Hunk} (n : Int) (ha : a.length ≤ 40) (hl : l.length ≤ 12) (hh : hSum l ≤ 40) : TinyB (blocksF a n 0 (groupsL n l)) ∧ (blocksF a n 0 (groupsL n l)).length ≤ 12 := by
  have h1 := groupsL_len n l
  have h2 := blocksF_len a n (groupsL n l) 0
  refine ⟨⟨by omega, fun b hb => ?_⟩, by omega⟩
  obtain ⟨g, hg, s, rfl⟩ := blocksF_mem hb
  obtain ⟨f1, f2⟩ := flat_mem hg
  rw [groups_flat] at f1 f2
  have := blockLines_len a (min (a.length : Int) (gend g + n)).toNat g (max 0 (gbeg g - n)).toNat
  have h3 : a.length * (g.length + 1) ≤ 40 * 13 := Nat.mul_le_mul ha (by omega)
  show (blockLines a (min (a.length : Int) (gend g + n)).toNat (max 0 (gbeg g - n)).toNat g).length ≤ _
  omega

theorem great_no {a : List Bytes} {l : List Hunk} (h : (greatS a || greatHs l) = false) : a.length ≤ 40 ∧ l.length ≤ 12 ∧ hSum l ≤ 40 := by
  simp only [greatS, greatHs, Bool.or_eq_false_iff, decide_eq_false_iff_not] at h
  omega

theorem same_self (a : List Bytes) (h : a.length ≤ 2 ^ 40) : CallsTo C 21 [encS a, encS a] (fun r => r = .val (.bool true)) :=
  (same_ok a a h h).mono fun r hr => by rw [hr, decide_eq_true rfl]

theorem wrapS (n : Nat) (h : n < 256) : IntKind.i64.wrap (n : Int) = n := wrap64 (by omega) (by omega)

set_option maxRecDepth 100000 in
set_option maxHeartbeats 4000000 in
theorem applies_ok' (a : List Bytes) (l : List Hunk) (n r : Nat) (hn : n < 256) (hr : r < 256) (hs' : SzS a) (ht' : SzH l) :
    CallsTo C 5 [encS a, encHs l, .int .u8 n, .int .u8 r] (fun q => q = .val (.bool true)) := by
  refine callsTo_of_ev' Tryd.func5 rfl rfl rfl ?_
  refine ⟨_, (great_ok a l hs' ht').bool, ?_⟩
  rintro q ⟨t, hg, rfl⟩
  cases t with
  | true =>
    refine ⟨_, awake_ok, ?_⟩
    rintro q rfl
    exact rfl
  | false =>
  obtain ⟨z1, z2, z3⟩ := great_no hg.symm
  obtain ⟨hs, ht⟩ := great_tiny hg.symm
  refine ⟨_, apply_ok a l hs ht, ?_⟩
  rintro q rfl
  refine ⟨nec (fun h => ?_) (fun h => ?_)⟩
  · refine ⟨_, awake_ok, ?_⟩
    rintro q rfl
    exact rfl
  have hm : (n : Int).tmod 101 = ((n % 101 : Nat) : Int) := rfl
  have hm1 : n % 101 < 101 := Nat.mod_lt _ (by decide)
  have hm0 : 0 ≤ (n : Int).tmod 101 := by rw [hm]; omega
  have hblk : blocksL a l ((n : Int).tmod 101) = (blocksF a ((n : Int).tmod 101) 0 (groupsL ((n : Int).tmod 101) l), 0) := by
    unfold blocksL
    rw [if_neg (by rw [hm]; omega), if_pos h]
  obtain ⟨t1, t2⟩ := blocks_tiny ((n : Int).tmod 101) z1 z2 z3
  have hnt := newTotal_le l
  have hck := blocks_check hm0 h (by omega)
  have hlaw := applies_law hm0 (show (0 : Int) ≤ r from by omega) h
  have c1 := blocks_ok a l ((n : Int).tmod 101) hs ht (by omega)
  rw [hblk] at c1
  have hlen : (happly a l).1.length + oldTotal l = a.length + newTotal l := by
    obtain ⟨m, ps, e1, e2, e3⟩ := moved_law (f := []) hm0 h
    rw [List.nil_append, applies_law hm0 (by omega) h] at e1
    cases e1
    simp only [List.length_nil] at e3
    omega
  generalize hB : blocksF a ((n : Int).tmod 101) 0 (groupsL ((n : Int).tmod 101) l) = B at *
  have c2 := uapply_ok a B r (by omega) t1 (by omega)
  have hu : uapply a B r = ((happly a l).1, B.map (·.oldAt), 0) := by
    unfold uapply
    rw [hck, hlaw, if_pos rfl, if_pos (by simp [inR]; omega)]
    rfl
  rw [hu] at c2
  refine ⟨_, wrapS n hn, by decide, _, rfl, _, c1, ?_⟩
  rintro q rfl
  refine ⟨_, wrapS r hr, _, c2, ?_⟩
  rintro q rfl
  refine ⟨none, ⟨nec (fun h => absurd rfl h) (fun _ => ?_)⟩⟩
  refine ⟨nec (fun h => absurd rfl h) (fun _ => ?_)⟩
  refine ⟨_, same_self _ (show (happly a l).1.length ≤ _ by omega), ?_⟩
  rintro q rfl
  refine ⟨fun t ht => ?_⟩
  obtain rfl : t = false := ht
  refine ⟨nec (fun h => absurd (by simp) h) (fun _ => ?_)⟩
  refine loopR 84 (fun k : Nat => [(11, .p (encBs B)), (14, .p (encIs (B.map (·.oldAt)))), (68, .p (.int .i64 (B.map encBlock).length)), (69, .p (.int .i64 k))]) (fun _ => []) (fun k => k ≤ B.length) (fun k => B.length - k) 0 (Nat.zero_le _) rfl ⟨Weak.refl _, Weak.refl _, Weak.refl _, Weak.refl _, trivial⟩ trivial ?_
  intro k hk
  refine al_lt (fun hlt => ?_) (fun hge => ?_)
  · have hl2 : k < (B.map (·.oldAt)).length := by rw [List.length_map]; exact hlt
    refine ⟨.lex 9, by kernel_rfl, _, rfl, _, rfl, _, ⟨by omega, _, idx_map rfl hl2, rfl, rfl⟩, _, rfl, _, rfl, _, rfl, _, ⟨by omega, _, idx_map rfl hlt, rfl, rfl⟩, _, rfl, _, rfl, al_ne (fun h => absurd (by simp) h) (fun _ => ?_)⟩
    exact ⟨k + 1, wrap64 (by first | omega | (simp only [List.length_map, List.length_append, List.length_cons, List.length_nil] at *; omega)) (by first | omega | (simp only [List.length_map, List.length_append, List.length_cons, List.length_nil] at *; omega)), roundR (k + 1) hlt (by omega) rfl ⟨Weak.refl _, Weak.refl _, Weak.refl _, Weak.refl _, trivial⟩ trivial⟩
  · refine ⟨_, awake_ok, ?_⟩
    rintro q rfl
    exact rfl

end Qv
