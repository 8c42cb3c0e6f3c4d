/- Several texts in one: Contracts: the hunks of a block, in the reference, Contracts: the hunks of blocks, in the reference, Contracts: the hunks of blocks, in the program. No condition. -/
import Derived.Test.YtbnnmamkplbdkaaDoorS7

section
/- Contracts: the hunks of a block, in the reference. No condition. -/
set_option linter.unusedVariables false
set_option linter.unusedSimpArgs false
open Go Go.Proofs
namespace Qv

/-! ### Cells of open slices -/

theorem killL_append (d : Nat) (xs ys : List FV) : FV.killL d (xs ++ ys) = FV.killL d xs ++ FV.killL d ys := by
  simp [FV.killL_eq]

theorem killL_mapP (d : Nat) (xs : List AV) : FV.killL d (mapP xs) = mapP xs := by
  induction xs with
  | nil => rfl
  | cons x xs ih => simp [mapP, FV.killL, FV.kill, ih]

theorem mapP_append (xs ys : List AV) : mapP (xs ++ ys) = mapP xs ++ mapP ys := by
  induction xs with
  | nil => rfl
  | cons x xs ih => simp [mapP, ih]

theorem mapP_length (xs : List AV) : (mapP xs).length = xs.length := by
  induction xs with
  | nil => rfl
  | cons x xs ih => simp [mapP, ih]

theorem flat_length {α : Type} (f : α → List AV) (n : Nat) (hf : ∀ x, (f x).length = n) (l : List α) : (mapP (l.flatMap f)).length = l.length * n := by
  rw [mapP_length]
  induction l with
  | nil => simp
  | cons x l ih => simp only [List.flatMap_cons, List.length_append, List.length_cons, hf, ih, Nat.add_mul, Nat.one_mul]; omega

/-- Cell for cell no more. -/
def WeakL (xs ys : List FV) : Prop := xs.length = ys.length ∧ ∀ (i : Nat) (x y : FV), xs[i]? = some x → ys[i]? = some y → Weak x y

theorem WeakL.refl (xs : List FV) : WeakL xs xs := ⟨rfl, fun i x y h1 h2 => by rw [h1] at h2; obtain rfl := Option.some.inj h2; exact Weak.refl _⟩
theorem WeakL.nil : WeakL [] [] := WeakL.refl _
theorem WeakL.cons {x y : FV} {xs ys : List FV} (h : Weak x y) (h' : WeakL xs ys) : WeakL (x :: xs) (y :: ys) :=
  ⟨by simp [h'.1], fun i a b h1 h2 => by
    cases i with
    | zero => simp at h1 h2; subst h1; subst h2; exact h
    | succ i => exact h'.2 i a b (by simpa using h1) (by simpa using h2)⟩
theorem WeakL.append {xs ys xs' ys' : List FV} (h : WeakL xs ys) (h' : WeakL xs' ys') : WeakL (xs ++ xs') (ys ++ ys') :=
  ⟨by simp [h.1, h'.1], fun i a b h1 h2 => by
    by_cases hi : i < xs.length
    · rw [List.getElem?_append_left hi] at h1
      rw [List.getElem?_append_left (by rw [← h.1]; exact hi)] at h2
      exact h.2 i a b h1 h2
    · rw [List.getElem?_append_right (by omega)] at h1
      rw [List.getElem?_append_right (by have := h.1; omega), ← h.1] at h2
      exact h'.2 _ a b h1 h2⟩

theorem hasO_w {objs : List (Nat × List FV)} {o : Nat} {xs ys : List FV} (h : Qv.getObj objs o = some xs) (hw : WeakL xs ys) :
    ∃ zs, Qv.getObj objs o = some zs ∧ zs.length = ys.length ∧ ∀ (i : Nat) (x y : FV), zs[i]? = some x → ys[i]? = some y → Weak x y := ⟨xs, h, hw.1, hw.2⟩

/-! ### What it computes -/

/-- The hunks of lines: the place so far, the hunk that is open. -/
def hunkF (at_ : Int) : Option Hunk → List Bytes → List Hunk
  | cur, [] => cur.toList
  | cur, s :: l =>
    if sgn s = 32 then cur.toList ++ hunkF (at_ + 1) none l
    else if sgn s = 45 then hunkF (at_ + 1) (some { cur.getD ⟨at_, [], []⟩ with old := (cur.getD ⟨at_, [], []⟩).old ++ [s.tail] }) l
    else hunkF at_ (some { cur.getD ⟨at_, [], []⟩ with new := (cur.getD ⟨at_, [], []⟩).new ++ [s.tail] }) l

def hunksB (b : Block) : List Hunk := hunkF b.oldAt none b.lines

/-- The cells of the hunks: the last may be open. -/
def hCells (n1 n2 : Nat) (done : List Hunk) : Option Hunk → List FV
  | none => mapP (done.flatMap encHunk) ++ []
  | some h => mapP (done.flatMap encHunk) ++ [.p (.int .i64 h.at_), .tip n1 9 1 (h.old.map enc1), .tip n2 9 1 (h.new.map enc1)]

theorem hunk_flat (done : List Hunk) : (mapP (done.flatMap encHunk)).length = done.length * 3 := flat_length encHunk 3 (fun _ => rfl) done

theorem hCells_close (n1 n2 : Nat) (done : List Hunk) (cur : Option Hunk) : WeakL (hCells n1 n2 done cur) (hCells n1 n2 (done ++ cur.toList) none) := by
  cases cur with
  | none => simpa using WeakL.refl _
  | some h =>
    simp only [hCells, Option.toList, List.flatMap_append, mapP_append, List.append_nil]
    exact (WeakL.refl _).append (.cons (Weak.refl _) (.cons (Weak.tip_p _ _ _ _) (.cons (Weak.tip_p _ _ _ _) .nil)))

/-- The state of the loop over the lines. -/
structure HuI (b : Block) (i : Nat) (at_ : Int) (done : List Hunk) (cur : Option Hunk) : Prop where
  le : i ≤ b.lines.length
  eq : done ++ hunkF at_ cur (b.lines.drop i) = hunksB b
  lo : b.oldAt ≤ at_
  hi : at_ ≤ b.oldAt + i
  len : done.length + cur.toList.length ≤ i
  oldLe : ∀ h, cur = some h → h.old.length ≤ i ∧ h.new.length ≤ i

theorem HuI.zero (b : Block) : HuI b 0 b.oldAt [] none := ⟨Nat.zero_le _, by simp [hunksB], Int.le_refl _, by omega, by simp, fun h e => by cases e⟩

theorem HuI.ctx {b : Block} {i : Nat} {at_ : Int} {done : List Hunk} {cur : Option Hunk} (h : HuI b i at_ done cur) (hi : i < b.lines.length) (hs : sgn b.lines[i] = 32) : HuI b (i + 1) (at_ + 1) (done ++ cur.toList) none := by
  have he := h.eq
  rw [List.drop_eq_getElem_cons hi, hunkF, if_pos hs] at he
  exact ⟨hi, by rw [List.append_assoc]; exact he, by have := h.lo; omega, by have := h.hi; omega, by have := h.len; simp; omega, fun h e => by cases e⟩

theorem HuI.old {b : Block} {i : Nat} {at_ : Int} {done : List Hunk} {cur : Option Hunk} (h : HuI b i at_ done cur) (hi : i < b.lines.length) (hs : sgn b.lines[i] = 45) :
    HuI b (i + 1) (at_ + 1) done (some { cur.getD ⟨at_, [], []⟩ with old := (cur.getD ⟨at_, [], []⟩).old ++ [b.lines[i].tail] }) := by
  have he := h.eq
  rw [List.drop_eq_getElem_cons hi, hunkF, if_neg (by rw [hs]; decide), if_pos hs] at he
  have hl := h.len
  have ho := h.oldLe
  refine ⟨hi, he, by have := h.lo; omega, by have := h.hi; omega, ?_, fun g e => ?_⟩
  · cases cur <;> simp at hl ⊢ <;> omega
  · obtain rfl := Option.some.inj e
    cases cur with
    | none => simp
    | some c => have := ho c rfl; simp; omega

theorem HuI.new {b : Block} {i : Nat} {at_ : Int} {done : List Hunk} {cur : Option Hunk} (h : HuI b i at_ done cur) (hi : i < b.lines.length) (hs : sgn b.lines[i] ≠ 32) (hs' : sgn b.lines[i] ≠ 45) :
    HuI b (i + 1) at_ done (some { cur.getD ⟨at_, [], []⟩ with new := (cur.getD ⟨at_, [], []⟩).new ++ [b.lines[i].tail] }) := by
  have he := h.eq
  rw [List.drop_eq_getElem_cons hi, hunkF, if_neg hs, if_neg hs'] at he
  have hl := h.len
  have ho := h.oldLe
  refine ⟨hi, he, h.lo, by have := h.hi; omega, ?_, fun g e => ?_⟩
  · cases cur <;> simp at hl ⊢ <;> omega
  · obtain rfl := Option.some.inj e
    cases cur with
    | none => simp
    | some c => have := ho c rfl; simp; omega

theorem HuI.done_ {b : Block} {i : Nat} {at_ : Int} {done : List Hunk} {cur : Option Hunk} (h : HuI b i at_ done cur) (hi : ¬ i < b.lines.length) : done ++ cur.toList = hunksB b := by
  have he := h.eq
  rw [List.drop_of_length_le (by omega), hunkF] at he
  exact he

theorem toAVs_append {xs ys : List FV} {as_ bs : List AV} (h : FV.toAVs xs = some as_) (h' : FV.toAVs ys = some bs) : FV.toAVs (xs ++ ys) = some (as_ ++ bs) := by
  induction xs generalizing as_ with
  | nil => simp [FV.toAVs] at h; subst h; exact h'
  | cons x xs ih =>
    simp only [FV.toAVs] at h
    split at h
    · rename_i y hy
      split at h
      · rename_i zs hz
        obtain rfl := Option.some.inj h
        simp only [List.cons_append, FV.toAVs, hy, ih hz]
      · cases h
    · cases h

theorem toAVs_mapP (xs : List AV) : FV.toAVs (mapP xs) = some xs := by
  induction xs with
  | nil => rfl
  | cons x xs ih => simp [mapP, FV.toAVs, FV.toAV, ih]

theorem toAVs_hCells (n1 n2 : Nat) (done : List Hunk) (cur : Option Hunk) : FV.toAVs (hCells n1 n2 done cur) = some (((done ++ cur.toList).map encHunk).flatten) := by
  have hf : ((done ++ cur.toList).map encHunk).flatten = done.flatMap encHunk ++ cur.toList.flatMap encHunk := by
    rw [← List.flatMap_append]; rfl
  rw [hf]
  cases cur with
  | none => exact toAVs_append (toAVs_mapP _) rfl
  | some h => exact toAVs_append (toAVs_mapP _) rfl

set_option maxRecDepth 100000 in
set_option maxHeartbeats 4000000 in
theorem refHunks1_ok (b : Block) (hne : ∀ s, s ∈ b.lines → isSgn s = true) (hlen : b.lines.length ≤ 2 ^ 20) (hat : 0 ≤ b.oldAt ∧ b.oldAt ≤ 2 ^ 41) :
    CallsTo C 48 [.agg (encBlock b)] (fun r => r = .fresh 48 3 ((hunksB b).map encHunk)) := by
  refine callsTo_of_evO ⟨[9, 33], [19], false, []⟩ [14] Tryd.func48 rfl rfl rfl ?_
  refine loopR 70 (fun x : Nat × Int × List Hunk × Option Hunk => [(1, .ptr 1 0), (3, .osl 9 48 3), (4, .p (.int .i64 x.2.1)), (5, .p (.bool x.2.2.2.isSome)), (6, .p (.int .i64 x.1))]) (fun x => [(1, mapP (encBlock b)), (9, hCells 51 66 x.2.2.1 x.2.2.2)])
    (fun x => HuI b x.1 x.2.1 x.2.2.1 x.2.2.2) (fun x => b.lines.length - x.1) (0, b.oldAt, [], none) (HuI.zero b) rfl ⟨Weak.refl _, Weak.refl _, Weak.refl _, Weak.refl _, Weak.refl _, trivial⟩ ⟨hasO_one rfl, hasO_one rfl, trivial⟩ ?_
  rintro ⟨i, at_, done, cur⟩ hI
  simp only at hI
  refine ⟨ltc (fun hlt => ?_) (fun hge => ?_)⟩
  · have hlt : i < b.lines.length := hlt
    obtain ⟨c, s, hs, hcs⟩ := sgn_cases (hne _ (List.getElem_mem hlt))
    have hctx := context_ok c s
    rw [← hs] at hctx
    have g1 := hI.lo
    have g2 := hI.hi
    have g3 := hI.len
    have hsg : sgn b.lines[i] = c := by simp [sgn, hs]
    refine ⟨by omega, _, idx_map rfl hlt, rfl, _, hctx.opn, ?_⟩
    rintro r ⟨t, ht, rfl⟩
    cases t with
    | true =>
      have hc : c = 32 := of_decide_eq_true ht.symm
      have hN := hI.ctx hlt (hsg.trans hc)
      exact ⟨at_ + 1, (show IntKind.i64.wrap (at_ + 1) = _ from wrap64 (by omega) (by omega)), i + 1, (show IntKind.i64.wrap ((i : Int) + 1) = _ from wrap64 (by omega) (by omega)), roundR (i + 1, at_ + 1, done ++ cur.toList, none) hN (by simp only; omega) rfl ⟨Weak.refl _, Weak.refl _, Weak.refl _, Weak.refl _, Weak.refl _, trivial⟩ ⟨hasO_one rfl, hasO_w rfl (hCells_close _ _ _ _), trivial⟩⟩
    | false =>
      have hc : ¬ c = 32 := of_decide_eq_false ht.symm
      obtain ⟨g, hg⟩ : ∃ g : Hunk, g = cur.getD ⟨at_, [], []⟩ := ⟨_, rfl⟩
      have hO := hI.old hlt
      have hNw := hI.new hlt (by rw [hsg]; exact hc)
      rw [← hg] at hO hNw
      have htl : b.lines[i].tail = s := by rw [hs]; rfl
      rw [htl, hsg] at hO hNw
      have hgl : g.old.length ≤ i ∧ g.new.length ≤ i := by
        cases cur with
        | none => subst hg; simp
        | some h1 => subst hg; exact hI.oldLe _ rfl
      have hfl := hunk_flat done
      have hdl : done.length ≤ i := by omega
      rcases cur with _ | h0
      refine ⟨fun t ht => ?_⟩
      obtain rfl : t = true := ht
      refine ⟨done.length, 1, ?_, rfl, rfl, ?_, mapP (done.flatMap encHunk) ++ [.p (.int .i64 at_), .full [], .full []], ?_, ?_⟩
      · simp [hCells, killL_append, killL_mapP, FV.killL, hfl]
      · show (done.length + 1) * 56 ≤ _; omega
      · simp [hCells, killL_append, killL_mapP, FV.killL, FV.kill]
      refine cutR 70 [(1, .ptr 1 0), (3, .osl 9 48 3), (4, .p (.int .i64 at_)), (5, .p (.bool true)), (6, .p (.int .i64 i)), (7, .p (.str b.lines[i])) ] [(1, mapP (encBlock b)), (9, hCells 51 66 done (some g))] rfl ⟨Weak.refl _, Weak.refl _, Weak.refl _, Weak.refl _, Weak.refl _, Weak.refl _, trivial⟩ ⟨hasO_one rfl, hasO_w rfl ?_, trivial⟩ ?_
      · subst hg
        exact (WeakL.refl _).append (.cons (Weak.refl _) (.cons (Weak.full_tip _ _ _) (.cons (Weak.full_tip _ _ _) .nil)))
      rotate_left
      refine ⟨fun t ht => ?_⟩
      obtain rfl : t = false := ht
      refine cutR 70 [(1, .ptr 1 0), (3, .osl 9 48 3), (4, .p (.int .i64 at_)), (5, .p (.bool true)), (6, .p (.int .i64 i)), (7, .p (.str b.lines[i])) ] [(1, mapP (encBlock b)), (9, hCells 51 66 done (some g))] rfl ⟨Weak.refl _, Weak.refl _, Weak.refl _, Weak.refl _, Weak.refl _, Weak.refl _, trivial⟩ ⟨hasO_one rfl, hasO_w rfl ?_, trivial⟩ ?_
      · subst hg
        exact WeakL.refl _
      all_goals
        refine ⟨done.length + 1, by simp [hCells, hfl]; omega, (done.length : Int), (by rw [wrap64 (by omega) (by omega)]; omega), Int.le_refl 0, c, by rw [hs]; rfl, ⟨eqc (fun hc45 => ?_) (fun hc43 => ?_)⟩⟩
        · refine ⟨.plan ⟨[0, 1], [10], [13], [9]⟩ (.one 2 (.one 3 (.one 4 (.one 5 (.one 6 (.one 7 (.one 8 (.one 9 (.one 0 (.one 1 (.alt 10 (.one 11 (.one 12 (.alt 13 (.fin) (.stop)))) (.stop)))))))))))) none, by kernel_rfl, ?_⟩
          refine ⟨_, rfl, _, rfl, .eptr 9 (done.length * 3) 0, ⟨done.length, done.length * 3, rfl, rfl, ?_, rfl⟩, _, rfl, .tip 51 9 1 (g.old.map enc1), ⟨mapP (done.flatMap encHunk), [.p (.int .i64 g.at_), .tip 51 9 1 (g.old.map enc1), .tip 66 9 1 (g.new.map enc1)], [], by simp [hCells], hfl, rfl⟩, _, rfl, .p (.str s), ⟨1, rfl, ?_, Nat.le_refl _, s, ?_, rfl⟩, _, rfl, ?_⟩
          · simp [hCells, hfl]
          · rw [hs]; simp
          · rw [hs]; simp
          refine ⟨_, rfl, rfl, _, rfl, rfl, rfl, all_enc1 _, all_one rfl, ?_, (g.old ++ [s]).map enc1, ?_, ?_⟩
          · show ((g.old.map enc1).length + 1) * 16 ≤ _; rw [List.length_map]; omega
          · rw [List.map_append]; rfl
          have hk : FV.killL 51 (hCells 51 66 done (some g)) = mapP (done.flatMap encHunk) ++ ([.p (.int .i64 g.at_), .p (encS g.old), .tip 66 9 1 (g.new.map enc1)] ++ []) := by
            simp [hCells, killL_append, killL_mapP, FV.killL, FV.kill]; rfl
          refine ⟨.eptr 9 (done.length * 3) 0, ⟨done.length, done.length * 3, rfl, rfl, by rw [hk]; simp [hfl], rfl⟩, _, rfl, _, _, _, hk, hfl, ?_⟩
          have hN := hO (by rcases hcs with h | h | h <;> first | exact absurd h hc | exact h | (subst h; simp at hc45))
          exact ⟨hCells 51 66 done (some { g with old := g.old ++ [s] }), by simp [hCells], at_ + 1, (show IntKind.i64.wrap (at_ + 1) = _ from wrap64 (by omega) (by omega)), i + 1, (show IntKind.i64.wrap ((i : Int) + 1) = _ from wrap64 (by omega) (by omega)), roundR (i + 1, at_ + 1, done, some { g with old := g.old ++ [s] }) hN (by simp only; omega) rfl ⟨Weak.refl _, Weak.refl _, Weak.refl _, Weak.refl _, Weak.refl _, trivial⟩ ⟨hasO_one rfl, hasO_w rfl (WeakL.refl _), trivial⟩⟩
        · refine ⟨.plan ⟨[0, 1], [10], [13], [9]⟩ (.one 2 (.one 3 (.one 4 (.one 5 (.one 6 (.one 7 (.one 8 (.one 9 (.one 0 (.one 1 (.alt 10 (.one 11 (.one 12 (.alt 13 (.fin) (.stop)))) (.stop)))))))))))) none, by kernel_rfl, ?_⟩
          refine ⟨_, rfl, _, rfl, .eptr 9 (done.length * 3) 0, ⟨done.length, done.length * 3, rfl, rfl, ?_, rfl⟩, _, rfl, .tip 66 9 1 (g.new.map enc1), ⟨mapP (done.flatMap encHunk), [.p (.int .i64 g.at_), .tip 51 9 1 (g.old.map enc1), .tip 66 9 1 (g.new.map enc1)], [], by simp [hCells], hfl, rfl⟩, _, rfl, .p (.str s), ⟨1, rfl, ?_, Nat.le_refl _, s, ?_, rfl⟩, _, rfl, ?_⟩
          · simp [hCells, hfl]
          · rw [hs]; simp
          · rw [hs]; simp
          refine ⟨_, rfl, rfl, _, rfl, rfl, rfl, all_enc1 _, all_one rfl, ?_, (g.new ++ [s]).map enc1, ?_, ?_⟩
          · show ((g.new.map enc1).length + 1) * 16 ≤ _; rw [List.length_map]; omega
          · rw [List.map_append]; rfl
          have hk : FV.killL 66 (hCells 51 66 done (some g)) = mapP (done.flatMap encHunk) ++ ([.p (.int .i64 g.at_), .tip 51 9 1 (g.old.map enc1), .p (encS g.new)] ++ []) := by
            simp [hCells, killL_append, killL_mapP, FV.killL, FV.kill]; rfl
          refine ⟨.eptr 9 (done.length * 3) 0, ⟨done.length, done.length * 3, rfl, rfl, by rw [hk]; simp [hfl], rfl⟩, _, rfl, _, _, _, hk, hfl, ?_⟩
          have hN := hNw (by intro h; subst h; exact hc43 (by simp))
          exact ⟨hCells 51 66 done (some { g with new := g.new ++ [s] }), by simp [hCells], i + 1, (show IntKind.i64.wrap ((i : Int) + 1) = _ from wrap64 (by omega) (by omega)), roundR (i + 1, at_, done, some { g with new := g.new ++ [s] }) hN (by simp only; omega) rfl ⟨Weak.refl _, Weak.refl _, Weak.refl _, Weak.refl _, Weak.refl _, trivial⟩ ⟨hasO_one rfl, hasO_w rfl (WeakL.refl _), trivial⟩⟩
  · have hd := hI.done_ hge
    refine ⟨9, 3, (hunksB b).map encHunk, ⟨⟨_, rfl, ?_⟩, ?_⟩, .inl rfl⟩
    · rw [toAVs_hCells, hd]
    · intro ys hy
      obtain ⟨h, -, rfl⟩ := List.mem_map.1 hy
      exact ⟨rfl, by intro y hy; simp [encHunk] at hy; rcases hy with rfl | rfl | rfl <;> rfl⟩

end Qv
end

section
/- Contracts: the hunks of blocks, in the reference. No condition. -/
set_option linter.unusedVariables false
set_option linter.unusedSimpArgs false
open Go Go.Proofs
namespace Qv

def uhunks (l : List Block) : List Hunk × Int := if (checkL l).2 = 0 then (l.flatMap hunksB, 0) else ([], (checkL l).2)

theorem hunkF_len (l : List Bytes) : ∀ (at_ : Int) (cur : Option Hunk), (hunkF at_ cur l).length ≤ cur.toList.length + l.length := by
  induction l with
  | nil => intro at_ cur; simp [hunkF]
  | cons s l ih =>
    intro at_ cur
    unfold hunkF
    split
    · have := ih (at_ + 1) none; simp at *; omega
    · split
      · have := ih (at_ + 1) (some { cur.getD ⟨at_, [], []⟩ with old := (cur.getD ⟨at_, [], []⟩).old ++ [s.tail] }); simp at *; omega
      · have := ih at_ (some { cur.getD ⟨at_, [], []⟩ with new := (cur.getD ⟨at_, [], []⟩).new ++ [s.tail] }); simp at *; omega

theorem hunksB_len (b : Block) : (hunksB b).length ≤ b.lines.length := by
  have := hunkF_len b.lines b.oldAt none
  simpa [hunksB] using this

theorem hunks_take (l : List Block) (k : Nat) (h : k < l.length) : (l.take (k + 1)).flatMap hunksB = (l.take k).flatMap hunksB ++ hunksB l[k] := by
  rw [List.take_succ_eq_append_getElem h, List.flatMap_append]
  simp

theorem hunks_len (l : List Block) (n : Nat) (h : ∀ b, b ∈ l → b.lines.length ≤ n) : (l.flatMap hunksB).length ≤ l.length * n := by
  induction l with
  | nil => simp
  | cons b l ih =>
    have h1 := ih (fun x hx => h x (List.mem_cons_of_mem _ hx))
    have h2 := hunksB_len b
    have h3 := h b (List.mem_cons_self ..)
    simp only [List.flatMap_cons, List.length_append, List.length_cons, Nat.add_mul, Nat.one_mul]
    omega

theorem bok_sgn {b : Block} (h : BOK b) : ∀ s, s ∈ b.lines → isSgn s = true := fun s hs => List.all_eq_true.1 h.signs s hs

set_option maxHeartbeats 1000000 in
theorem refHunks_ok (l : List Block) (ht : TinyB l) (hl : l.length ≤ 2 ^ 10) : CallsTo C 26 [encBs l] (fun r => r = .val (.tup [encHs (uhunks l).1, .int .i64 (uhunks l).2])) := by
  have hlen := ht.len
  refine callsTo_of_ev' Tryd.func26 rfl rfl rfl ?_
  refine ⟨_, checkR_ok l ht, ?_⟩
  rintro r rfl
  refine ⟨nec (fun h => ?_) (fun h => ?_)⟩
  · unfold uhunks
    rw [if_neg h]
    exact rfl
  have hu : uhunks l = (l.flatMap hunksB, 0) := by unfold uhunks; rw [if_pos h]
  have hBOK := checkF_ok h
  rw [hu]
  refine loopR 31 (fun k : Nat => [(0, .p (encBs l)), (6, .tip 16 48 3 (((l.take k).flatMap hunksB).map encHunk)), (7, .p (.int .i64 k))]) (fun _ => []) (fun k => k ≤ l.length) (fun k => l.length - k) 0 (Nat.zero_le _) rfl ⟨Weak.refl _, Weak.refl _, Weak.refl _, trivial⟩ trivial ?_
  intro k hk
  refine ⟨ltc (fun hlt => ?_) (fun hge => ?_)⟩
  · have hlt : k < l.length := hlt
    have hb := hBOK _ (List.getElem_mem hlt)
    have hll := ht.each _ (List.getElem_mem hlt)
    have b2 := hb.at_
    have n1 := hunksB_len l[k]
    have n2 := hunks_len (l.take k) (2 ^ 20) (fun b hb => ht.each _ (List.mem_of_mem_take hb))
    rw [List.length_take] at n2
    refine ⟨by omega, _, idx_map rfl hlt, rfl, _, refHunks1_ok l[k] (bok_sgn hb) hll (by omega), ?_⟩
    rintro r rfl
    refine ⟨all_enc (f := encHunk) (n := 3) (fun _ => rfl) _, all_enc (f := encHunk) (n := 3) (fun _ => rfl) _, ?_, (((l.take (k + 1)).flatMap hunksB).map encHunk), ?_, ?_⟩
    · show ((List.map encHunk _).length + (List.map encHunk _).length) * 56 ≤ _
      simp only [List.length_map]
      omega
    · rw [hunks_take l k hlt, List.map_append]
    exact ⟨k + 1, wrap64 (by first | omega | (simp only [List.length_map, List.length_append, List.length_cons, List.length_nil] at *; omega)) (by first | omega | (simp only [List.length_map, List.length_append, List.length_cons, List.length_nil] at *; omega)), roundR (k + 1) hlt (by omega) rfl ⟨Weak.refl _, Weak.refl _, Weak.refl _, trivial⟩ trivial⟩
  · obtain rfl : k = l.length := by omega
    rw [List.take_length]
    exact rfl

end Qv
end

section
/- Contracts: the hunks of blocks, in the program. No condition. -/
set_option linter.unusedVariables false
set_option linter.unusedSimpArgs false
open Go Go.Proofs
namespace Qv

def sl6 : Bool → FV
  | false => .full []
  | true => .osl 48 48 3
def ob6 (cs : List FV) : Bool → List (Nat × List FV)
  | false => []
  | true => [(48, cs)]

theorem hunkF_ne (l : List Bytes) : ∀ (at_ : Int) (cur : Option Hunk), (∀ s, s ∈ l → isSgn s = true) → (cur ≠ none ∨ ∃ s, s ∈ l ∧ sgn s ≠ 32) → hunkF at_ cur l ≠ [] := by
  induction l with
  | nil =>
    intro at_ cur hs h
    rcases h with h | ⟨s, h, -⟩
    · cases cur with
      | none => exact absurd rfl h
      | some c => simp [hunkF]
    · cases h
  | cons s l ih =>
    intro at_ cur hs h
    unfold hunkF
    split
    · rename_i h1
      cases cur with
      | some c => simp
      | none =>
        simp only [Option.toList, List.nil_append]
        refine ih _ _ (fun x hx => hs x (List.mem_cons_of_mem _ hx)) (.inr ?_)
        rcases h with h | ⟨x, hx, hx'⟩
        · exact absurd rfl h
        · rcases List.mem_cons.1 hx with rfl | hx
          · exact absurd h1 hx'
          · exact ⟨x, hx, hx'⟩
    · split
      · exact ih _ _ (fun x hx => hs x (List.mem_cons_of_mem _ hx)) (.inl (by simp))
      · exact ih _ _ (fun x hx => hs x (List.mem_cons_of_mem _ hx)) (.inl (by simp))

theorem hunksB_ne {b : Block} (h : BOK b) : hunksB b ≠ [] := by
  refine hunkF_ne _ _ _ (bok_sgn h) (.inr ?_)
  by_cases h1 : ∃ s, s ∈ b.lines ∧ sgn s ≠ 32
  · exact h1
  have h2 : ∀ s, s ∈ b.lines → sgn s = 32 := fun s hs => Classical.byContradiction fun e => h1 ⟨s, hs, e⟩
  have e1 : nR b.lines = 0 := List.countP_eq_zero.2 fun s hs => by rw [h2 s hs]; decide
  have e2 : nA b.lines = 0 := List.countP_eq_zero.2 fun s hs => by rw [h2 s hs]; decide
  exact absurd (by rw [e1, e2]) h.some_

theorem hunks_ne {l : List Block} (h : ∀ b, b ∈ l → BOK b) (hl : l ≠ []) : l.flatMap hunksB ≠ [] := by
  cases l with
  | nil => exact absurd rfl hl
  | cons b l =>
    intro e
    rw [List.flatMap_cons] at e
    exact hunksB_ne (h b (List.mem_cons_self ..)) (List.append_eq_nil_iff.1 e).1

theorem hCells_len (n1 n2 : Nat) (d : List Hunk) (g : Hunk) : (hCells n1 n2 d (some g)).length = (d.length + 1) * 3 := by
  unfold hCells
  rw [List.length_append, hunk_flat]
  simp only [List.length_cons, List.length_nil]
  omega

theorem hCells_kill1 (d : List Hunk) (g : Hunk) : FV.killL 65 (hCells 65 78 d (some g)) = mapP (d.flatMap encHunk) ++ ([.p (.int .i64 g.at_), .p (encS g.old), .tip 78 9 1 (g.new.map enc1)] ++ []) := by
  simp [hCells, killL_append, killL_mapP, FV.killL, FV.kill]; rfl
theorem hCells_kill2 (d : List Hunk) (g : Hunk) : FV.killL 78 (hCells 65 78 d (some g)) = mapP (d.flatMap encHunk) ++ ([.p (.int .i64 g.at_), .tip 65 9 1 (g.old.map enc1), .p (encS g.new)] ++ []) := by
  simp [hCells, killL_append, killL_mapP, FV.killL, FV.kill]; rfl

/-- No blocks: no hunks. -/
theorem uhunks_nil : CallsTo C 25 [encBs []] (fun r => r = .val (.tup [encHs (uhunks []).1, .int .i64 (uhunks []).2])) := by
  refine callsTo_of_ev' Tryd.func25 rfl rfl rfl ?_
  refine ⟨_, check_ok [] ⟨by decide, fun b hb => (List.not_mem_nil hb).elim⟩, ?_⟩
  rintro r rfl
  refine ⟨nec (fun h => absurd rfl h) (fun h => ?_)⟩
  refine loopR 84 (fun k : Nat => [(0, .p (encBs [])), (6, .full []), (22, .p (encBs [])), (23, .p (.int .i64 0)), (24, .p (.int .i64 0))]) (fun _ => []) (fun k => True) (fun k => k) 0 trivial rfl ⟨Weak.refl _, Weak.refl _, Weak.refl _, Weak.refl _, Weak.refl _, trivial⟩ trivial ?_
  intro k hk
  refine ⟨fun t ht => ?_⟩
  obtain rfl : t = false := ht
  exact rfl

set_option maxRecDepth 100000 in
set_option maxHeartbeats 8000000 in
theorem uhunks1 (l : List Block) (ht : TinyB l) (hl : l.length ≤ 2 ^ 10) (hl0 : l ≠ []) : CallsTo C 25 [encBs l] (fun r => r = .val (.tup [encHs (uhunks l).1, .int .i64 (uhunks l).2])) := by
  have hlen := ht.len
  refine callsTo_of_evO ⟨[47], [26], false, []⟩ [19] Tryd.func25 rfl rfl rfl ?_
  refine ⟨_, (check_ok l ht).opn, ?_⟩
  rintro r rfl
  refine ⟨nec (fun h => ?_) (fun h => ?_)⟩
  · unfold uhunks
    rw [if_neg h]
    exact rfl
  have hu : uhunks l = (l.flatMap hunksB, 0) := by unfold uhunks; rw [if_pos h]
  have hBOK := checkF_ok h
  rw [hu]
  refine loopR 84 (fun x : Nat × Bool => [(0, .p (encBs l)), (6, sl6 x.2), (22, .p (encBs l)), (23, .p (.int .i64 (l.map encBlock).length)), (24, .p (.int .i64 x.1))]) (fun x => ob6 (hCells 65 78 ((l.take x.1).flatMap hunksB) none) x.2)
    (fun x => x.1 ≤ l.length ∧ x.2 = decide (0 < x.1)) (fun x => l.length - x.1) (0, false) ⟨Nat.zero_le _, rfl⟩ rfl ⟨Weak.refl _, Weak.refl _, Weak.refl _, Weak.refl _, Weak.refl _, trivial⟩ trivial ?_
  rintro ⟨k, st⟩ ⟨hk, hst⟩
  simp only at hk hst
  refine ⟨ltc (fun hlt => ?_) (fun hge => ?_)⟩
  · have hlt : k < l.length := hlt
    have hb := hBOK _ (List.getElem_mem hlt)
    have hll := ht.each _ (List.getElem_mem hlt)
    have b2 := hb.at_
    have n1 := hunksB_len l[k]
    have n2 := hunks_len (l.take k) (2 ^ 20) (fun b hb => ht.each _ (List.mem_of_mem_take hb))
    rw [List.length_take] at n2
    have hne := bok_sgn hb
    generalize hpre : (l.take k).flatMap hunksB = pre at *
    have hfin : pre ++ hunksB l[k] = (l.take (k + 1)).flatMap hunksB := by rw [hunks_take l k hlt, hpre]
    refine ⟨by omega, _, idx_map rfl hlt, rfl, ?_⟩
    refine loopR 84 (fun x : Nat × Int × List Hunk × Option Hunk × Bool => [(0, .p (encBs l)), (6, sl6 x.2.2.2.2), (9, .p (.int .i64 x.2.1)), (10, .p (.bool x.2.2.2.1.isSome)), (22, .p (encBs l)), (23, .p (.int .i64 (l.map encBlock).length)), (24, .p (.int .i64 k)), (31, .p (encS l[k].lines)), (32, .p (.int .i64 (l[k].lines.map enc1).length)), (33, .p (.int .i64 x.1))]) (fun x => ob6 (hCells 65 78 (pre ++ x.2.2.1) x.2.2.2.1) x.2.2.2.2)
      (fun x => HuI l[k] x.1 x.2.1 x.2.2.1 x.2.2.2.1 ∧ (x.2.2.2.2 = false → pre = [] ∧ x.2.2.1 = [] ∧ x.2.2.2.1 = none)) (fun x => l[k].lines.length - x.1) (0, l[k].oldAt, [], none, st) ⟨HuI.zero l[k], fun e => ⟨?_, rfl, rfl⟩⟩ rfl ⟨Weak.refl _, (by cases st <;> exact Weak.refl _), Weak.refl _, Weak.refl _, Weak.refl _, Weak.refl _, Weak.refl _, Weak.refl _, Weak.refl _, Weak.refl _, trivial⟩ (by cases st; exact trivial; exact ⟨hasO_w rfl (by simp [hCells, killL_append, killL_mapP, FV.killL]; exact WeakL.refl _), trivial⟩) ?_
    · obtain rfl : st = false := e
      have : k = 0 := by simpa using hst.symm
      rw [← hpre, this]; rfl
    rintro ⟨i, at_, done, cur, st'⟩ ⟨hI, hst'⟩
    simp only at hI hst'
    refine ⟨ltc (fun hlt => ?_) (fun hge => ?_)⟩
    · have hlt : i < l[k].lines.length := hlt
      obtain ⟨c, s, hs, hcs⟩ := sgn_cases (hne _ (List.getElem_mem hlt))
      have g1 := hI.lo
      have g2 := hI.hi
      have g3 := hI.len
      have hsg : sgn l[k].lines[i] = c := by simp [sgn, hs]
      refine ⟨by omega, _, idx_map rfl hlt, rfl, Int.le_refl 0, c, by rw [hs]; rfl, ⟨eqc (fun hc => ?_) (fun hc => ?_)⟩⟩
      · have hc : c = 32 := by rcases hcs with h | h | h <;> first | exact h | (subst h; simp at hc)
        have hN := hI.ctx hlt (hsg.trans hc)
        exact ⟨at_ + 1, (show IntKind.i64.wrap (at_ + 1) = _ from wrap64 (by omega) (by omega)), ((i + 1 : Nat) : Int), (show IntKind.i64.wrap ((i : Int) + 1) = _ from by rw [wrap64 (by omega) (by omega)]; omega), roundR (i + 1, at_ + 1, done ++ cur.toList, none, st') ⟨hN, fun e => by obtain ⟨e1, e2, e3⟩ := hst' e; subst e2; subst e3; exact ⟨e1, rfl, rfl⟩⟩ (by simp only; omega) rfl ⟨Weak.refl _, (by cases st' <;> exact Weak.refl _), Weak.refl _, Weak.refl _, Weak.refl _, Weak.refl _, Weak.refl _, Weak.refl _, Weak.refl _, Weak.refl _, trivial⟩ (by cases st'; exact trivial; exact ⟨hasO_w rfl (by rw [← List.append_assoc]; exact hCells_close _ _ _ _), trivial⟩)⟩
      have hc : ¬ c = 32 := by intro h; subst h; exact hc (by simp)
      obtain ⟨g, hg⟩ : ∃ g : Hunk, g = cur.getD ⟨at_, [], []⟩ := ⟨_, rfl⟩
      have hO := hI.old hlt
      have hNw := hI.new hlt (by rw [hsg]; exact hc)
      rw [← hg] at hO hNw
      have htl : l[k].lines[i].tail = s := by rw [hs]; rfl
      rw [htl, hsg] at hO hNw
      have hgl : g.old.length ≤ i ∧ g.new.length ≤ i := by
        cases cur with
        | none => subst hg; simp
        | some h1 => subst hg; exact hI.oldLe _ rfl
      have hfl := hunk_flat (pre ++ done)
      have hdl : done.length ≤ i := by omega
      have hcl := hCells_len 65 78 (pre ++ done) g
      have hc48 := hCells_kill1 (pre ++ done) g
      have hc78 := hCells_kill2 (pre ++ done) g
      have hpd : (pre ++ done).length ≤ 2 ^ 31 := by rw [List.length_append]; omega
      rcases cur with _ | h0
      rcases st' with _ | _
      obtain ⟨e1, e2, -⟩ := hst' rfl
      have e2 : done = [] := e2
      refine ⟨fun t ht => ?_⟩
      obtain rfl : t = true := ht
      refine ⟨1, by omega, rfl, rfl, by decide, [.p (.int .i64 at_), .full [], .full []], rfl, ?_⟩
      refine cutR 84 [(0, .p (encBs l)), (6, .osl 48 48 3), (9, .p (.int .i64 at_)), (10, .p (.bool true)), (12, .p (.str l[k].lines[i])), (22, .p (encBs l)), (23, .p (.int .i64 (l.map encBlock).length)), (24, .p (.int .i64 k)), (31, .p (encS l[k].lines)), (32, .p (.int .i64 (l[k].lines.map enc1).length)), (33, .p (.int .i64 i))] [(48, hCells 65 78 (pre ++ done) (some g))] rfl ⟨Weak.refl _, Weak.refl _, Weak.refl _, Weak.refl _, Weak.refl _, Weak.refl _, Weak.refl _, Weak.refl _, Weak.refl _, Weak.refl _, Weak.refl _, trivial⟩ ⟨hasO_w rfl ?_, trivial⟩ ?_
      · subst hg e1 e2
        exact .cons (Weak.refl _) (.cons (Weak.full_tip _ _ _) (.cons (Weak.full_tip _ _ _) .nil))
      rotate_left
      refine ⟨fun t ht => ?_⟩
      obtain rfl : t = true := ht
      refine ⟨(pre ++ done).length, 1, ?_, rfl, rfl, ?_, mapP ((pre ++ done).flatMap encHunk) ++ [.p (.int .i64 at_), .full [], .full []], ?_, ?_⟩
      · simp only [hCells, killL_append, killL_mapP, FV.killL, List.append_nil, hfl]
      · show (_ + 1) * 56 ≤ _; omega
      · simp [hCells, killL_append, killL_mapP, FV.killL, FV.kill]
      refine cutR 84 [(0, .p (encBs l)), (6, .osl 48 48 3), (9, .p (.int .i64 at_)), (10, .p (.bool true)), (12, .p (.str l[k].lines[i])), (22, .p (encBs l)), (23, .p (.int .i64 (l.map encBlock).length)), (24, .p (.int .i64 k)), (31, .p (encS l[k].lines)), (32, .p (.int .i64 (l[k].lines.map enc1).length)), (33, .p (.int .i64 i))] [(48, hCells 65 78 (pre ++ done) (some g))] rfl ⟨Weak.refl _, Weak.refl _, Weak.refl _, Weak.refl _, Weak.refl _, Weak.refl _, Weak.refl _, Weak.refl _, Weak.refl _, Weak.refl _, Weak.refl _, trivial⟩ ⟨hasO_w rfl ?_, trivial⟩ ?_
      · subst hg
        exact (WeakL.refl _).append (.cons (Weak.refl _) (.cons (Weak.full_tip _ _ _) (.cons (Weak.full_tip _ _ _) .nil)))
      rotate_left
      obtain rfl : st' = true := by
        cases st' with
        | true => rfl
        | false => exact absurd (hst' rfl).2.2 (by simp)
      refine ⟨fun t ht => ?_⟩
      obtain rfl : t = false := ht
      refine cutR 84 [(0, .p (encBs l)), (6, .osl 48 48 3), (9, .p (.int .i64 at_)), (10, .p (.bool true)), (12, .p (.str l[k].lines[i])), (22, .p (encBs l)), (23, .p (.int .i64 (l.map encBlock).length)), (24, .p (.int .i64 k)), (31, .p (encS l[k].lines)), (32, .p (.int .i64 (l[k].lines.map enc1).length)), (33, .p (.int .i64 i))] [(48, hCells 65 78 (pre ++ done) (some g))] rfl ⟨Weak.refl _, Weak.refl _, Weak.refl _, Weak.refl _, Weak.refl _, Weak.refl _, Weak.refl _, Weak.refl _, Weak.refl _, Weak.refl _, Weak.refl _, trivial⟩ ⟨hasO_w rfl ?_, trivial⟩ ?_
      · subst hg
        exact WeakL.refl _
      all_goals
        refine ⟨(pre ++ done).length + 1, hcl, ((pre ++ done).length : Int), (by rw [wrap64 (by omega) (by omega)]; omega), (pre ++ done).length, (pre ++ done).length * 3, rfl, rfl, ?_, Int.le_refl 0, c, by rw [hs]; rfl, ⟨eqc (fun hc45 => ?_) (fun hc43 => ?_)⟩⟩
        · rw [hcl]; omega
        · refine ⟨.plan ⟨[0], [8], [11], [48]⟩ (.one 1 (.one 2 (.one 3 (.one 4 (.one 5 (.one 6 (.one 7 (.one 0 (.alt 8 (.one 9 (.one 10 (.alt 11 (.fin) (.stop)))) (.stop)))))))))) none, by kernel_rfl, _, rfl, _, rfl, _, rfl, .tip 65 9 1 (g.old.map enc1), ⟨mapP ((pre ++ done).flatMap encHunk), [.p (.int .i64 g.at_), .tip 65 9 1 (g.old.map enc1), .tip 78 9 1 (g.new.map enc1)], [], by rw [List.append_nil]; rfl, hfl, rfl⟩, _, rfl, .p (.str s), ⟨1, rfl, ?_, Nat.le_refl _, s, ?_, rfl⟩, _, rfl, _, rfl, rfl, ?_⟩
          · rw [hs]; simp
          · rw [hs]; simp
          refine ⟨rfl, all_enc1 _, all_one rfl, ?_, (g.old ++ [s]).map enc1, ?_, ?_⟩
          · show ((g.old.map enc1).length + 1) * 16 ≤ _; rw [List.length_map]; omega
          · rw [List.map_append]; rfl
          refine ⟨_, rfl, _, rfl, _, _, _, hc48, hfl, ?_⟩
          have hN := hO (by rcases hcs with h | h | h <;> first | exact absurd h hc | exact h | (subst h; simp at hc45))
          exact ⟨hCells 65 78 (pre ++ done) (some { g with old := g.old ++ [s] }), by rw [List.append_nil]; rfl, at_ + 1, (show IntKind.i64.wrap (at_ + 1) = _ from wrap64 (by omega) (by omega)), ((i + 1 : Nat) : Int), (show IntKind.i64.wrap ((i : Int) + 1) = _ from by rw [wrap64 (by omega) (by omega)]; omega), roundR (i + 1, at_ + 1, done, some { g with old := g.old ++ [s] }, true) ⟨hN, fun e => by cases e⟩ (by simp only; omega) rfl ⟨Weak.refl _, Weak.refl _, Weak.refl _, Weak.refl _, Weak.refl _, Weak.refl _, Weak.refl _, Weak.refl _, Weak.refl _, Weak.refl _, trivial⟩ ⟨hasO_w rfl (WeakL.refl _), trivial⟩⟩
        · refine ⟨.plan ⟨[0], [8], [11], [48]⟩ (.one 1 (.one 2 (.one 3 (.one 4 (.one 5 (.one 6 (.one 7 (.one 0 (.alt 8 (.one 9 (.one 10 (.alt 11 (.fin) (.stop)))) (.stop)))))))))) none, by kernel_rfl, _, rfl, _, rfl, _, rfl, .tip 78 9 1 (g.new.map enc1), ⟨mapP ((pre ++ done).flatMap encHunk), [.p (.int .i64 g.at_), .tip 65 9 1 (g.old.map enc1), .tip 78 9 1 (g.new.map enc1)], [], by rw [List.append_nil]; rfl, hfl, rfl⟩, _, rfl, .p (.str s), ⟨1, rfl, ?_, Nat.le_refl _, s, ?_, rfl⟩, _, rfl, _, rfl, rfl, ?_⟩
          · rw [hs]; simp
          · rw [hs]; simp
          refine ⟨rfl, all_enc1 _, all_one rfl, ?_, (g.new ++ [s]).map enc1, ?_, ?_⟩
          · show ((g.new.map enc1).length + 1) * 16 ≤ _; rw [List.length_map]; omega
          · rw [List.map_append]; rfl
          refine ⟨_, rfl, _, rfl, _, _, _, hc78, hfl, ?_⟩
          have hN := hNw (by intro h; subst h; exact hc43 (by simp))
          exact ⟨hCells 65 78 (pre ++ done) (some { g with new := g.new ++ [s] }), by rw [List.append_nil]; rfl, ((i + 1 : Nat) : Int), (show IntKind.i64.wrap ((i : Int) + 1) = _ from by rw [wrap64 (by omega) (by omega)]; omega), roundR (i + 1, at_, done, some { g with new := g.new ++ [s] }, true) ⟨hN, fun e => by cases e⟩ (by simp only; omega) rfl ⟨Weak.refl _, Weak.refl _, Weak.refl _, Weak.refl _, Weak.refl _, Weak.refl _, Weak.refl _, Weak.refl _, Weak.refl _, Weak.refl _, trivial⟩ ⟨hasO_w rfl (WeakL.refl _), trivial⟩⟩
    · have hd := hI.done_ hge
      obtain rfl : st' = true := by
        cases st' with
        | true => rfl
        | false =>
          obtain ⟨-, e2, e3⟩ := hst' rfl
          rw [e2, e3] at hd
          exact absurd hd.symm (hunksB_ne hb)
      refine ⟨((k + 1 : Nat) : Int), (show IntKind.i64.wrap ((k : Int) + 1) = _ from by rw [wrap64 (by omega) (by omega)]; omega), roundR (k + 1, true) ⟨by omega, (decide_eq_true (Nat.succ_pos k)).symm⟩ (by simp only; omega) rfl ⟨Weak.refl _, Weak.refl _, Weak.refl _, Weak.refl _, Weak.refl _, trivial⟩ ⟨hasO_w rfl ?_, trivial⟩⟩
      have := hCells_close 65 78 (pre ++ done) cur
      rw [List.append_assoc, hd, hfin] at this
      exact this
  · have hk' : k = l.length := by simp only at hge; omega
    have hkp : 0 < k := by rw [hk']; exact List.length_pos_iff.2 hl0
    obtain rfl : st = true := by rw [hst, decide_eq_true hkp]
    simp only
    rw [hk', List.take_length]
    refine ⟨48, 3, (l.flatMap hunksB).map encHunk, ⟨⟨_, rfl, ?_⟩, ?_⟩, ?_⟩
    · rw [toAVs_hCells, Option.toList, List.append_nil]
    · intro ys hy
      obtain ⟨h, -, rfl⟩ := List.mem_map.1 hy
      exact ⟨rfl, by intro y hy; simp [encHunk] at hy; rcases hy with rfl | rfl | rfl <;> rfl⟩
    · exact rfl

theorem uhunks_ok (l : List Block) (ht : TinyB l) (hl : l.length ≤ 2 ^ 10) : CallsTo C 25 [encBs l] (fun r => r = .val (.tup [encHs (uhunks l).1, .int .i64 (uhunks l).2])) := by
  cases l with
  | nil => exact uhunks_nil
  | cons b l => exact uhunks1 _ ht hl (by simp)

end Qv
end
