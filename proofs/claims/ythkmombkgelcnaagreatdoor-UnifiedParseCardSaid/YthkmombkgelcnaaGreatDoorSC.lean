/- Several texts in one: Contracts: parsing, in the program, Contracts: parsing, in the program: the walk. No condition. -/
import Derived.Test.YthkmombkgelcnaaGreatDoorSB

section
/- Contracts: parsing, in the program. No condition. -/
set_option linter.unusedVariables false
set_option linter.unusedSimpArgs false
open Go Go.Proofs
namespace Qv

/-- The cells of the blocks: the last may be open. -/
def pCells (t : Nat) (done : List Block) : Option Block → List FV
  | none => mapP (done.flatMap encBlock) ++ []
  | some b => mapP (done.flatMap encBlock) ++ [.p (.int .i64 b.oldAt), .p (.int .i64 b.oldLen), .p (.int .i64 b.newAt), .p (.int .i64 b.newLen), .tip t 9 1 (b.lines.map enc1)]

theorem block_flat (done : List Block) : (mapP (done.flatMap encBlock)).length = done.length * 5 := flat_length encBlock 5 (fun _ => rfl) done

theorem pCells_len (t : Nat) (done : List Block) (b : Block) : (pCells t done (some b)).length = (done.length + 1) * 5 := by
  unfold pCells
  rw [List.length_append, block_flat]
  simp only [List.length_cons, List.length_nil]
  omega

theorem pCells_none (t : Nat) (done : List Block) : (pCells t done none).length = done.length * 5 := by
  unfold pCells
  rw [List.append_nil, block_flat]

theorem pCells_close (t : Nat) (done : List Block) (cur : Option Block) : WeakL (pCells t done cur) (pCells t (done ++ cur.toList) none) := by
  cases cur with
  | none => simpa using WeakL.refl _
  | some h =>
    simp only [pCells, Option.toList, List.flatMap_append, mapP_append, List.append_nil]
    exact (WeakL.refl _).append (.cons (Weak.refl _) (.cons (Weak.refl _) (.cons (Weak.refl _) (.cons (Weak.refl _) (.cons (Weak.tip_p _ _ _ _) .nil)))))

theorem toAVs_pCells (t : Nat) (done : List Block) (cur : Option Block) : FV.toAVs (pCells t done cur) = some (((done ++ cur.toList).map encBlock).flatten) := by
  have hf : ((done ++ cur.toList).map encBlock).flatten = done.flatMap encBlock ++ cur.toList.flatMap encBlock := by
    rw [← List.flatMap_append]; rfl
  rw [hf]
  cases cur with
  | none => exact toAVs_append (toAVs_mapP _) rfl
  | some h => exact toAVs_append (toAVs_mapP _) rfl

/-- The state of the loop over the lines. -/
structure PaI (s : Bytes) (n : Nat) (rest : Bytes) (old new : Int) (done : List Block) (cur : Option Block) (heads : List Nat) : Prop where
  eq : pF n old new done cur heads (lns [] rest) = pF 0 0 0 [] none [] (lns [] s)
  len : rest.length + n ≤ s.length
  old0 : 0 ≤ old ∧ old ≤ 1099511627776
  new0 : 0 ≤ new ∧ new ≤ 1099511627776
  cnt : done.length + cur.toList.length ≤ n
  hl : heads.length = done.length + cur.toList.length
  no : cur = none → old = 0 ∧ new = 0 ∧ done = [] ∧ heads = [] ∧ n = 0 ∧ rest = s
  each : ∀ b, b ∈ done ++ cur.toList → b.lines.length ≤ n
  hle : ∀ h, h ∈ heads → h ≤ n

theorem PaI.zero (s : Bytes) : PaI s 0 s 0 0 [] none [] :=
  ⟨rfl, Nat.le_refl _, by omega, by omega, Nat.le_refl _, rfl, fun _ => ⟨rfl, rfl, rfl, rfl, rfl, rfl⟩, fun b h => (List.not_mem_nil h).elim, fun h hh => (List.not_mem_nil hh).elim⟩

theorem cut_shorter (r : Bytes) (h : r ≠ []) : (Lib.cut r [10]).2.1.length < r.length := by
  have hp := List.length_pos_iff.2 h
  rcases cut_spec r [10] with ⟨-, e⟩ | e
  · have := congrArg List.length e
    simp only [List.length_append, List.length_cons, List.length_nil] at this
    omega
  · rw [e]; exact hp

section
variable {s : Bytes} {n : Nat} {rest : Bytes} {old new : Int} {done : List Block} {cur : Option Block} {heads : List Nat}

theorem PaI.step (h : PaI s n rest old new done cur heads) (hr : rest ≠ []) {x r : Bytes} {e : Bool} (hc : Lib.cut rest [10] = (x, r, e)) :
    pF n old new done cur heads ((x, e) :: lns [] r) = pF 0 0 0 [] none [] (lns [] s) ∧ r.length + (n + 1) ≤ s.length := by
  have h1 := h.eq
  rw [lns_cut rest hr, hc] at h1
  have h2 := cut_shorter rest hr
  rw [hc] at h2
  have h3 := h.len
  exact ⟨h1, by simp only at h2; omega⟩

theorem PaI.noend (h : PaI s n rest old new done cur heads) (hr : rest ≠ []) {x r : Bytes} (hc : Lib.cut rest [10] = (x, r, false)) : pF 0 0 0 [] none [] (lns [] s) = .inl (n + 1) := by
  rw [← (h.step hr hc).1, pF, if_pos rfl]

theorem PaI.nohead (h : PaI s n rest old new done cur heads) (hr : rest ≠ []) {x r : Bytes} (hc : Lib.cut rest [10] = (x, r, true)) (h0 : old + new = 0) (hh : headerV x = none) : pF 0 0 0 [] none [] (lns [] s) = .inl (n + 1) := by
  rw [← (h.step hr hc).1, pF, if_neg (by simp), if_pos h0, hh]

theorem PaI.head (h : PaI s n rest old new done cur heads) (hr : rest ≠ []) {x r : Bytes} (hc : Lib.cut rest [10] = (x, r, true)) (h0 : old + new = 0) {b : Block} (hh : headerV x = some b) :
    PaI s (n + 1) r b.oldLen b.newLen (done ++ cur.toList) (some b) (heads ++ [n + 1]) := by
  obtain ⟨h1, h2⟩ := h.step hr hc
  rw [pF, if_neg (by simp), if_pos h0, hh] at h1
  obtain ⟨-, e0, e1, e2, e3, e4, e5, e6, e7, e8⟩ := headerV_some hh
  have h3 := h.cnt
  have h4 := h.hl
  refine ⟨h1, h2, ⟨e3, e4⟩, ⟨e7, e8⟩, ?_, ?_, fun e => (by cases e), ?_, ?_⟩
  · simp; omega
  · simp; omega
  · intro c hcm
    rcases List.mem_append.1 hcm with hcm | hcm
    · have := h.each c hcm; omega
    · obtain rfl : c = b := by simpa using hcm
      rw [e0]; simp
  · intro q hq
    rcases List.mem_append.1 hq with hq | hq
    · have := h.hle q hq; omega
    · obtain rfl : q = n + 1 := by simpa using hq
      omega

theorem PaI.bad (h : PaI s n rest old new done cur heads) (hr : rest ≠ []) {x r : Bytes} (hc : Lib.cut rest [10] = (x, r, true)) (h0 : ¬ old + new = 0) (hh : ¬ (isSgn x = true ∧ 0 ≤ old - nK [x] - nR [x] ∧ 0 ≤ new - nK [x] - nA [x])) : pF 0 0 0 [] none [] (lns [] s) = .inl (n + 1) := by
  rw [← (h.step hr hc).1, pF, if_neg (by simp), if_neg h0, if_neg hh]

theorem PaI.line (h : PaI s n rest old new done cur heads) (hr : rest ≠ []) {x r : Bytes} (hc : Lib.cut rest [10] = (x, r, true)) (h0 : ¬ old + new = 0) (hh : isSgn x = true ∧ 0 ≤ old - nK [x] - nR [x] ∧ 0 ≤ new - nK [x] - nA [x]) :
    ∃ c, cur = some c ∧ PaI s (n + 1) r (old - nK [x] - nR [x]) (new - nK [x] - nA [x]) done (some (addL x c)) heads := by
  obtain ⟨h1, h2⟩ := h.step hr hc
  rw [pF, if_neg (by simp), if_neg h0, if_pos hh] at h1
  have h3 := h.cnt
  have h4 := h.hl
  have h5 := h.old0
  have h6 := h.new0
  cases cur with
  | none => have := h.no rfl; omega
  | some c =>
    refine ⟨c, rfl, h1, h2, ⟨hh.2.1, by omega⟩, ⟨hh.2.2, by omega⟩, by simp at h3 ⊢; omega, by simpa using h4, fun e => (by cases e), ?_, fun q hq => by have := h.hle q hq; omega⟩
    intro b hb
    rcases List.mem_append.1 hb with hb | hb
    · have := h.each b (List.mem_append_left _ hb); omega
    · obtain rfl : b = addL x c := by simpa using hb
      have := h.each c (by simp)
      simp [addL]; omega

theorem PaI.end_ (h : PaI s n [] old new done cur heads) : pF 0 0 0 [] none [] (lns [] s) = .inr (done ++ cur.toList, heads, n, old + new) := by
  rw [← h.eq]
  rfl
end

theorem checkF_at : ∀ (l : List Block) (prev : Option Block) (i shift : Int), (checkF prev i shift l).2 ≠ 0 → i ≤ (checkF prev i shift l).1 ∧ (checkF prev i shift l).1 < i + l.length
  | [], prev, i, shift, h => absurd rfl h
  | b :: l, prev, i, shift, h => by
    unfold checkF at h ⊢
    split
    · rename_i h0
      rw [if_pos h0] at h
      have := checkF_at l _ _ _ h
      simp only [List.length_cons]
      omega
    · simp only [List.length_cons]
      omega

end Qv
end

section
/- Contracts: parsing, in the program: the walk. No condition. -/
set_option linter.unusedVariables false
set_option linter.unusedSimpArgs false
open Go Go.Proofs
namespace Qv

/-- The state laid anew in an inner frame. -/
theorem cutG {S : AState} (n off : Nat) (rel : List (Nat × FV)) (objs : List (Nat × List FV)) (susp : List (Nat × Nat × List (Nat × FV))) (pend : List PSt) {K : AState → Prop} (hn : (n, off, pend) = (S.n, S.off, S.pend)) (h1 : HasT S.tmps rel) (h2 : HasO S.objs objs) (h3 : HasF S.susp susp) (h : K (mkS n off rel objs susp pend [])) :
    ∃ T, Weaken S T ∧ K T := ⟨_, weaken_mk (blds := []) hn h1 h2 h3 trivial, h⟩

def s5 : Option Block → FV
  | none => .full []
  | some _ => .osl 2046 48 5
def ob5 (cs : List FV) : Option Block → List (Nat × List FV)
  | none => []
  | some _ => [(2046, cs)]

def encN (n : Nat) : List AV := [.int .i64 n]

theorem upar_fail {s : Bytes} {n : Nat} (h : pF 0 0 0 [] none [] (lns [] s) = .inl n) : uparse s = ([], (n : Int), 3) := by
  unfold uparse
  rw [h]

theorem pCells_kill (d : Nat) (hd : Nat.beq 2098 d = false) (done : List Block) (cur : Option Block) : WeakL (FV.killL d (pCells 2098 done cur)) (pCells 2098 done cur) := by
  cases cur with
  | none => simp only [pCells, killL_append, killL_mapP, FV.killL]; exact WeakL.refl _
  | some b => simp only [pCells, killL_append, killL_mapP, FV.killL, FV.kill, hd]; exact WeakL.refl _

theorem counts1 (x : Bytes) : ∃ (k1 k2 k3 : Int) (ok : Bool), (0 ≤ k1 ∧ k1 ≤ 1) ∧ (0 ≤ k2 ∧ k2 ≤ 1) ∧ (0 ≤ k3 ∧ k3 ≤ 1) ∧ countsP [x] = .tup [.int .i64 k1, .int .i64 k2, .int .i64 k3, .bool ok] ∧ (ok = true ∧ isSgn x = true ∧ k1 = nK [x] ∧ k2 = nR [x] ∧ k3 = nA [x] ∨ ok = false ∧ isSgn x = false) := by
  have h1 := nK_le [x]
  have h2 := nR_le [x]
  have h3 := nA_le [x]
  simp only [List.length_singleton] at h1 h2 h3
  cases hq : isSgn x with
  | true => exact ⟨nK [x], nR [x], nA [x], true, by omega, by omega, by omega, by simp [countsP, hq], .inl ⟨rfl, rfl, rfl, rfl, rfl⟩⟩
  | false => exact ⟨0, 0, 0, false, by omega, by omega, by omega, by simp [countsP, hq], .inr ⟨rfl, rfl⟩⟩

theorem pCells_killE (d : Nat) (hd : Nat.beq 2098 d = false) (done : List Block) (cur : Option Block) : FV.killL d (pCells 2098 done cur) = pCells 2098 done cur := by
  cases cur with
  | none => simp only [pCells, killL_append, killL_mapP, FV.killL]
  | some b => simp only [pCells, killL_append, killL_mapP, FV.killL, FV.kill, hd]

theorem pCells_new (done : List Block) (b : Block) (h : b.lines = []) : WeakL (mapP (done.flatMap encBlock) ++ [.p (.int .i64 b.oldAt), .p (.int .i64 b.oldLen), .p (.int .i64 b.newAt), .p (.int .i64 b.newLen), .full []]) (pCells 2098 done (some b)) := by
  simp only [pCells, h]
  exact (WeakL.refl _).append (.cons (Weak.refl _) (.cons (Weak.refl _) (.cons (Weak.refl _) (.cons (Weak.refl _) (.cons (Weak.full_tip _ _ _) .nil)))))

theorem pCells_next (done : List Block) (c b : Block) (h : b.lines = []) : WeakL (pCells 2098 done (some c) ++ [.p (.int .i64 b.oldAt), .p (.int .i64 b.oldLen), .p (.int .i64 b.newAt), .p (.int .i64 b.newLen), .full []]) (pCells 2098 (done ++ [c]) (some b)) := by
  have h1 : WeakL (pCells 2098 done (some c)) (mapP ((done ++ [c]).flatMap encBlock)) := by
    have := pCells_close 2098 done (some c)
    unfold pCells at this ⊢
    simpa using this
  simp only [pCells, h] at h1 ⊢
  exact h1.append (.cons (Weak.refl _) (.cons (Weak.refl _) (.cons (Weak.refl _) (.cons (Weak.refl _) (.cons (Weak.full_tip _ _ _) .nil)))))

set_option maxRecDepth 100000 in
set_option maxHeartbeats 8000000 in
theorem uparse1 (s : Bytes) (hs : s.length ≤ 2 ^ 20) (hs0 : s ≠ []) : CallsTo D 5 [.str s] (fun r => r = .val (.tup [encBs (uparse s).1, .int .i64 (uparse s).2.1, .int .i64 (uparse s).2.2])) := by
  refine callsTo_of_evO ⟨[45], [25], false, [13]⟩ [5, 11, 21] Tryz.func5 rfl rfl rfl ?_
  refine cutR 120 [(0, .p (.str s)), (2, .ptr 2 0), (3, .ptr 3 0), (4, .ptr 4 0), (5, .ptr 5 0), (6, .ptr 6 0), (7, .ptr 7 0), (8, .ptr 8 0), (9, .ptr 9 0)] [(2, [.full []]), (3, [.p (.int .i64 0)]), (4, [.p (.int .i64 0)]), (5, [.full []]), (6, [.full []]), (7, [.p (.int .i64 0)]), (8, [.p (.int .i64 0)]), (9, [.p (.int .i64 0)])] rfl ⟨Weak.refl _, Weak.refl _, Weak.refl _, Weak.refl _, Weak.refl _, Weak.refl _, Weak.refl _, Weak.refl _, Weak.refl _, trivial⟩ ⟨hasO_one rfl, hasO_one rfl, hasO_one rfl, hasO_one rfl, hasO_one rfl, hasO_one rfl, hasO_one rfl, hasO_one rfl, trivial⟩ ?_
  refine .inl ⟨_, Tryz.func13, rfl, rfl, rfl, ?_⟩
  refine ⟨[], ?_⟩
  refine ⟨_, Tryz.func32, rfl, rfl, rfl, ?_⟩
  refine loopG 25 1000 (fun x : Nat × Bytes × Int × Int × List Block × Option Block × List Nat => [(0, .yld 1000000), (1, .ptr 1001 0), (3, .p (.int .i64 ((x.1 + 1 : Nat) : Int)))])
    (fun x => (1001, [.p (.str x.2.1)]) :: (2, [.full []]) :: (3, [.p (.int .i64 0)]) :: (4, [.p (.int .i64 0)]) :: (5, [s5 x.2.2.2.2.2.1]) :: (6, [.tip 2050 3 1 (x.2.2.2.2.2.2.map encN)]) :: (7, [.p (.int .i64 x.2.2.1)]) :: (8, [.p (.int .i64 x.2.2.2.1)]) :: (9, [.p (.int .i64 x.1)]) :: ob5 (pCells 2098 x.2.2.2.2.1 x.2.2.2.2.2.1) x.2.2.2.2.2.1)
    (fun _ => [(120, 0, [(2, .ptr 2 0), (3, .ptr 3 0), (4, .ptr 4 0), (5, .ptr 5 0), (6, .ptr 6 0), (7, .ptr 7 0), (8, .ptr 8 0), (9, .ptr 9 0)])]) [.ready] (fun _ => [])
    (fun x => PaI s x.1 x.2.1 x.2.2.1 x.2.2.2.1 x.2.2.2.2.1 x.2.2.2.2.2.1 x.2.2.2.2.2.2) (fun x => x.2.1.length) (0, s, 0, 0, [], none, []) (PaI.zero s)
    rfl ⟨Weak.refl _, Weak.refl _, Weak.refl _, trivial⟩ ⟨hasO_one rfl, hasO_one rfl, hasO_one rfl, hasO_one rfl, hasO_one rfl, hasO_w rfl (.cons (Weak.full_tip _ _ _) .nil), hasO_one rfl, hasO_one rfl, hasO_one rfl, trivial⟩ ⟨rfl, ⟨Weak.refl _, Weak.refl _, Weak.refl _, Weak.refl _, Weak.refl _, Weak.refl _, Weak.refl _, Weak.refl _, trivial⟩, trivial⟩ trivial ?_
  rintro ⟨n, rest, old, new, done, cur, heads⟩ hI
  simp only at hI
  refine ⟨nesc (fun hr => ?_) (fun hr => ?_)⟩
  · have hr : rest ≠ [] := hr
    have hlen := hI.len
    refine ⟨_, (cut_ok rest [10] (by omega)).opn, ?_⟩
    rintro q rfl
    obtain ⟨x, r, e, hc⟩ : ∃ x r e, Lib.cut rest [10] = (x, r, e) := ⟨_, _, _, rfl⟩
    rw [hc]
    refine ⟨rfl, ⟨fun t ht => ?_⟩⟩
    cases e with
    | false =>
      obtain rfl : t = true := ht
      refine ⟨fun t ht => ?_⟩
      obtain rfl : t = true := ht
      rw [upar_fail (hI.noend hr hc)]
      exact rfl
    | true =>
      obtain rfl : t = false := ht
      obtain ⟨hst, hrl⟩ := hI.step hr hc
      have hsh : r.length < rest.length := by
        have := cut_shorter rest hr
        rw [hc] at this
        exact this
      refine cutG 120 2000 [(2, .ptr 2 0), (3, .ptr 3 0), (4, .ptr 4 0), (5, .ptr 5 0), (6, .ptr 6 0), (7, .ptr 7 0), (8, .ptr 8 0), (9, .ptr 9 0), (10, .p (.int .i64 ((n + 1 : Nat) : Int))), (11, .ptr 2011 0)]
        ((2011, [.p (.str x), .p (.bool true)]) :: (1001, [.p (.str rest)]) :: (2, [.full []]) :: (3, [.p (.int .i64 0)]) :: (4, [.p (.int .i64 0)]) :: (5, [s5 cur]) :: (6, [.tip 2050 3 1 (heads.map encN)]) :: (7, [.p (.int .i64 old)]) :: (8, [.p (.int .i64 new)]) :: (9, [.p (.int .i64 ((n + 1 : Nat) : Int))]) :: ob5 (pCells 2098 done cur) cur)
        [(25, 1000, [(0, .yld 1000000), (1, .ptr 1001 0), (3, .p (.int .i64 ((n + 1 : Nat) : Int))), (5, .p (.str r))]), (120, 0, [(2, .ptr 2 0), (3, .ptr 3 0), (4, .ptr 4 0), (5, .ptr 5 0), (6, .ptr 6 0), (7, .ptr 7 0), (8, .ptr 8 0), (9, .ptr 9 0)])] [.busy]
        rfl ⟨Weak.refl _, Weak.refl _, Weak.refl _, Weak.refl _, Weak.refl _, Weak.refl _, Weak.refl _, Weak.refl _, Weak.refl _, Weak.refl _, trivial⟩ ⟨hasO_one rfl, hasO_one rfl, hasO_one rfl, hasO_one rfl, hasO_one rfl, hasO_w rfl (by cases cur <;> exact .cons (Weak.refl _) .nil), hasO_one rfl, hasO_one rfl, hasO_one rfl, hasO_one rfl, (by cases cur; exact trivial; exact ⟨hasO_w rfl (pCells_kill 2011 rfl _ _), trivial⟩)⟩ ⟨rfl, ⟨Weak.refl _, Weak.refl _, Weak.refl _, Weak.refl _, trivial⟩, rfl, ⟨Weak.refl _, Weak.refl _, Weak.refl _, Weak.refl _, Weak.refl _, Weak.refl _, Weak.refl _, Weak.refl _, trivial⟩, trivial⟩ ?_
      refine ⟨old + new, (show IntKind.i64.wrap (old + new) = _ from wrap64 (by have := hI.old0; have := hI.new0; omega) (by have := hI.old0; have := hI.new0; omega)), ⟨eqc (fun h0 => ?_) (fun h0 => ?_)⟩⟩
      · refine ⟨_, (header_ok x ?_).opn, ?_⟩
        · have := cut_len rest [10]
          rw [hc] at this
          simp only at this
          omega
        rintro q (⟨b, hb, rfl⟩ | ⟨hb, a1, a2, a3, a4, rfl⟩)
        · have hN := hI.head hr hc h0 hb
          have hb0 := (headerV_some hb).2.1
          refine ⟨fun t ht => ?_⟩
          obtain rfl : t = false := ht
          rcases cur with _ | c
          · obtain ⟨-, -, e2, e3, e4⟩ := hI.no rfl
            subst e2 e3
            refine ⟨.plan ⟨[1, 4, 5, 6], [2, 3], [7, 8, 9], [2012, 6, 2050]⟩ (.one 5 (.one 6 (.one 4 (.one 1 (.alt 0 (.alt 2 (.alt 3 (.alt 7 (.alt 8 (.alt 9 (.fin) (.stop)) (.stop)) (.stop)) (.stop)) (.stop)) (.alt 2 (.alt 0 (.alt 3 (.alt 7 (.alt 8 (.alt 9 (.fin) (.stop)) (.stop)) (.stop)) (.stop)) (.stop)) (.stop))))))) none, by kernel_rfl, _, rfl, rfl, _, rfl, rfl, _, rfl, rfl, _, rfl, rfl, ?_⟩
            refine ⟨?_, ?_⟩
            refine ⟨_, rfl, rfl, rfl, 1, by omega, rfl, rfl, by decide, [.p (.int .i64 b.oldAt), .p (.int .i64 b.oldLen), .p (.int .i64 b.newAt), .p (.int .i64 b.newLen), .full []], rfl, ?_⟩
            rotate_left
            refine ⟨rfl, _, rfl, rfl, 1, by omega, rfl, rfl, by decide, [.p (.int .i64 b.oldAt), .p (.int .i64 b.oldLen), .p (.int .i64 b.newAt), .p (.int .i64 b.newLen), .full []], rfl, ?_⟩
            all_goals
              refine ⟨fun zs h => (List.not_mem_nil h).elim, all_one rfl, (by show (0 + 1) * 8 ≤ _; decide), [n + 1].map encN, rfl, ?_⟩
              refine ⟨.plan ⟨[2, 3], [4, 5], [], [2012]⟩ (.one 0 (.one 1 (.one 2 (.one 3 (.alt 4 (.alt 5 (.fin) (.stop)) (.stop)))))) none, by kernel_rfl, _, rfl, _, rfl, _, rfl, rfl, _, rfl, rfl, rfl, rfl, ⟨fun t ht => ?_⟩⟩
              obtain rfl : t = false := ht
              refine cutG 25 1000 [(0, .yld 1000000), (1, .ptr 1001 0), (3, .p (.int .i64 ((n + 1 : Nat) : Int))), (5, .p (.str r))]
                ((1001, [.p (.str rest)]) :: (2, [.full []]) :: (3, [.p (.int .i64 0)]) :: (4, [.p (.int .i64 0)]) :: (5, [.osl 2046 48 5]) :: (6, [.tip 2050 3 1 (([n + 1]).map encN)]) :: (7, [.p (.int .i64 b.oldLen)]) :: (8, [.p (.int .i64 b.newLen)]) :: (9, [.p (.int .i64 ((n + 1 : Nat) : Int))]) :: (2046, pCells 2098 [] (some b)) :: [])
                [(120, 0, [(2, .ptr 2 0), (3, .ptr 3 0), (4, .ptr 4 0), (5, .ptr 5 0), (6, .ptr 6 0), (7, .ptr 7 0), (8, .ptr 8 0), (9, .ptr 9 0)])] [.ready]
                rfl ⟨Weak.refl _, Weak.refl _, Weak.refl _, Weak.refl _, trivial⟩ ⟨hasO_one rfl, hasO_one rfl, hasO_one rfl, hasO_one rfl, hasO_one rfl, hasO_one rfl, hasO_one rfl, hasO_one rfl, hasO_one rfl, hasO_w rfl ?_, trivial⟩ ⟨rfl, ⟨Weak.refl _, Weak.refl _, Weak.refl _, Weak.refl _, Weak.refl _, Weak.refl _, Weak.refl _, Weak.refl _, trivial⟩, trivial⟩ ?_
              · exact pCells_new [] b hb0
              exact ⟨((n + 1 + 1 : Nat) : Int), (show IntKind.i64.wrap (((n + 1 : Nat) : Int) + 1) = _ from by rw [wrap64 (by omega) (by omega)]; omega), roundG (n + 1, r, b.oldLen, b.newLen, [], some b, [n + 1]) hN hsh rfl ⟨Weak.refl _, Weak.refl _, Weak.refl _, trivial⟩ ⟨hasO_one rfl, hasO_one rfl, hasO_one rfl, hasO_one rfl, hasO_one rfl, hasO_one rfl, hasO_one rfl, hasO_one rfl, hasO_one rfl, hasO_one rfl, trivial⟩ ⟨rfl, ⟨Weak.refl _, Weak.refl _, Weak.refl _, Weak.refl _, Weak.refl _, Weak.refl _, Weak.refl _, Weak.refl _, trivial⟩, trivial⟩ trivial⟩
          · have hcn := hI.cnt
            simp only [Option.toList, List.length_singleton] at hcn
            have hhl := hI.hl
            simp only [Option.toList, List.length_singleton] at hhl
            refine ⟨.plan ⟨[1, 4, 5, 6], [2, 3], [7, 8, 9], [2012, 6, 2050]⟩ (.one 5 (.one 6 (.one 4 (.one 1 (.alt 0 (.alt 2 (.alt 3 (.alt 7 (.alt 8 (.alt 9 (.fin) (.stop)) (.stop)) (.stop)) (.stop)) (.stop)) (.alt 2 (.alt 0 (.alt 3 (.alt 7 (.alt 8 (.alt 9 (.fin) (.stop)) (.stop)) (.stop)) (.stop)) (.stop)) (.stop))))))) none, by kernel_rfl, _, rfl, rfl, _, rfl, rfl, _, rfl, rfl, _, rfl, rfl, ?_⟩
            have hlC := pCells_len 2098 done c
            have hbd : (done.length + 1 + 1) * 56 ≤ 140737488355328 := by omega
            refine ⟨?_, ?_⟩
            refine ⟨_, rfl, rfl, rfl, done.length + 1, 1, (by rw [pCells_killE _ rfl, pCells_killE _ rfl, hlC]), rfl, rfl, hbd, pCells 2098 done (some c) ++ [.p (.int .i64 b.oldAt), .p (.int .i64 b.oldLen), .p (.int .i64 b.newAt), .p (.int .i64 b.newLen), .full []], (by rw [killL_append, pCells_killE _ rfl, pCells_killE _ rfl, pCells_killE _ rfl]; rfl), ?_⟩
            rotate_left
            refine ⟨rfl, _, rfl, rfl, done.length + 1, 1, (by rw [pCells_killE _ rfl, pCells_killE _ rfl, hlC]), rfl, rfl, hbd, pCells 2098 done (some c) ++ [.p (.int .i64 b.oldAt), .p (.int .i64 b.oldLen), .p (.int .i64 b.newAt), .p (.int .i64 b.newLen), .full []], (by rw [killL_append, pCells_killE _ rfl, pCells_killE _ rfl, pCells_killE _ rfl]; rfl), ?_⟩
            all_goals
              refine ⟨all_enc (f := encN) (n := 1) (fun _ => rfl) _, all_one rfl, (by show ((heads.map encN).length + 1) * 8 ≤ _; rw [List.length_map]; omega), (heads ++ [n + 1]).map encN, (by rw [List.map_append]; rfl), ?_⟩
              refine ⟨.plan ⟨[2, 3], [4, 5], [], [2012]⟩ (.one 0 (.one 1 (.one 2 (.one 3 (.alt 4 (.alt 5 (.fin) (.stop)) (.stop)))))) none, by kernel_rfl, _, rfl, _, rfl, _, rfl, rfl, _, rfl, rfl, rfl, rfl, ⟨fun t ht => ?_⟩⟩
              obtain rfl : t = false := ht
              refine cutG 25 1000 [(0, .yld 1000000), (1, .ptr 1001 0), (3, .p (.int .i64 ((n + 1 : Nat) : Int))), (5, .p (.str r))]
                ((1001, [.p (.str rest)]) :: (2, [.full []]) :: (3, [.p (.int .i64 0)]) :: (4, [.p (.int .i64 0)]) :: (5, [.osl 2046 48 5]) :: (6, [.tip 2050 3 1 ((heads ++ [n + 1]).map encN)]) :: (7, [.p (.int .i64 b.oldLen)]) :: (8, [.p (.int .i64 b.newLen)]) :: (9, [.p (.int .i64 ((n + 1 : Nat) : Int))]) :: (2046, pCells 2098 (done ++ [c]) (some b)) :: [])
                [(120, 0, [(2, .ptr 2 0), (3, .ptr 3 0), (4, .ptr 4 0), (5, .ptr 5 0), (6, .ptr 6 0), (7, .ptr 7 0), (8, .ptr 8 0), (9, .ptr 9 0)])] [.ready]
                rfl ⟨Weak.refl _, Weak.refl _, Weak.refl _, Weak.refl _, trivial⟩ ⟨hasO_one rfl, hasO_one rfl, hasO_one rfl, hasO_one rfl, hasO_one rfl, hasO_one rfl, hasO_one rfl, hasO_one rfl, hasO_one rfl, hasO_w rfl ?_, trivial⟩ ⟨rfl, ⟨Weak.refl _, Weak.refl _, Weak.refl _, Weak.refl _, Weak.refl _, Weak.refl _, Weak.refl _, Weak.refl _, trivial⟩, trivial⟩ ?_
              · rw [killL_append, pCells_killE _ rfl]
                exact pCells_next done c b hb0
              exact ⟨((n + 1 + 1 : Nat) : Int), (show IntKind.i64.wrap (((n + 1 : Nat) : Int) + 1) = _ from by rw [wrap64 (by omega) (by omega)]; omega), roundG (n + 1, r, b.oldLen, b.newLen, done ++ [c], some b, heads ++ [n + 1]) hN hsh rfl ⟨Weak.refl _, Weak.refl _, Weak.refl _, trivial⟩ ⟨hasO_one rfl, hasO_one rfl, hasO_one rfl, hasO_one rfl, hasO_one rfl, hasO_one rfl, hasO_one rfl, hasO_one rfl, hasO_one rfl, hasO_one rfl, trivial⟩ ⟨rfl, ⟨Weak.refl _, Weak.refl _, Weak.refl _, Weak.refl _, Weak.refl _, Weak.refl _, Weak.refl _, Weak.refl _, trivial⟩, trivial⟩ trivial⟩
        · refine ⟨fun t ht => ?_⟩
          obtain rfl : t = true := ht
          refine ⟨fun t ht => ?_⟩
          obtain rfl : t = true := ht
          rw [upar_fail (hI.nohead hr hc h0 hb)]
          exact rfl
      · have hcur : ∃ c, cur = some c := by
          cases cur with
          | none => have := hI.no rfl; omega
          | some c => exact ⟨c, rfl⟩
        obtain ⟨c, rfl⟩ := hcur
        have o1 := hI.old0
        have o2 := hI.new0
        have hcn := hI.cnt
        simp only [Option.toList, List.length_singleton] at hcn
        obtain ⟨k1, k2, k3, ok, hk1, hk2, hk3, hcs, hok⟩ : ∃ (k1 k2 k3 : Int) (ok : Bool), (0 ≤ k1 ∧ k1 ≤ 1) ∧ (0 ≤ k2 ∧ k2 ≤ 1) ∧ (0 ≤ k3 ∧ k3 ≤ 1) ∧ countsP [x] = .tup [.int .i64 k1, .int .i64 k2, .int .i64 k3, .bool ok] ∧ (ok = true ∧ isSgn x = true ∧ k1 = nK [x] ∧ k2 = nR [x] ∧ k3 = nA [x] ∨ ok = false ∧ isSgn x = false) := counts1 x
        have hct := counts_ok [x] (by simp)
        rw [hcs] at hct
        refine ⟨_, hct.up.opn, ?_⟩
        rintro q rfl
        refine ⟨.plan ⟨[5, 6, 7, 8, 9], [10], [11], [8]⟩ (.one 0 (.one 1 (.one 2 (.one 3 (.one 4 (.one 5 (.one 6 (.one 7 (.one 8 (.one 9 (.alt 10 (.alt 11 (.fin) (.stop)) (.stop)))))))))))) none, by kernel_rfl, _, rfl, _, rfl, _, ⟨old - k1, wrap64 (by omega) (by omega), rfl⟩, _, rfl, _, ⟨old - k1 - k2, wrap64 (by omega) (by omega), rfl⟩, _, rfl, rfl, _, rfl, rfl, _, ⟨new - k1, wrap64 (by omega) (by omega), rfl⟩, rfl, _, rfl, rfl, _, ⟨new - k1 - k3, wrap64 (by omega) (by omega), rfl⟩, rfl, rfl, ?_⟩
        have hfail : ∀ (hbad : ¬ (isSgn x = true ∧ 0 ≤ old - nK [x] - nR [x] ∧ 0 ≤ new - nK [x] - nA [x])), Ret.val (.tup [.sl [], .int .i64 ((n + 1 : Nat) : Int), .int .i64 3]) = Ret.val (.tup [encBs (uparse s).1, .int .i64 (uparse s).2.1, .int .i64 (uparse s).2.2]) := fun hbad => by
          rw [upar_fail (hI.bad hr hc h0 hbad)]
          rfl
        rcases hok with ⟨rfl, hsg, rfl, rfl, rfl⟩ | ⟨rfl, hsg⟩
        rotate_left
        · refine ⟨none, ⟨fun t ht => ?_⟩⟩
          obtain rfl : t = true := ht
          refine ⟨fun t ht => ?_⟩
          obtain rfl : t = true := ht
          exact hfail (by rw [hsg]; simp)
        refine ⟨none, ⟨fun t ht => ?_⟩⟩
        obtain rfl : t = false := ht
        refine ⟨dc (fun hlo => ?_) (fun hlo => ⟨dc (fun hln => ?_) (fun hln => ?_)⟩)⟩
        · refine ⟨fun t ht => ?_⟩
          obtain rfl : t = true := ht
          exact hfail (by omega)
        · refine ⟨fun t ht => ?_⟩
          obtain rfl : t = true := ht
          exact hfail (by omega)
        obtain ⟨c', hc', hN⟩ := hI.line hr hc h0 ⟨hsg, by omega, by omega⟩
        obtain rfl := Option.some.inj hc'
        have hlC := pCells_len 2098 done c
        have hcl := hI.each c (by simp)
        refine cutG 120 2000 [(2, .ptr 2 0), (3, .ptr 3 0), (4, .ptr 4 0), (5, .ptr 5 0), (6, .ptr 6 0), (7, .ptr 7 0), (8, .ptr 8 0), (9, .ptr 9 0), (11, .ptr 2011 0)]
          ((2011, [.p (.str x), .p (.bool true)]) :: (1001, [.p (.str rest)]) :: (2, [.full []]) :: (3, [.p (.int .i64 0)]) :: (4, [.p (.int .i64 0)]) :: (5, [.osl 2046 48 5]) :: (6, [.tip 2050 3 1 (heads.map encN)]) :: (7, [.p (.int .i64 (old - nK [x] - nR [x]))]) :: (8, [.p (.int .i64 (new - nK [x] - nA [x]))]) :: (9, [.p (.int .i64 ((n + 1 : Nat) : Int))]) :: (2046, pCells 2098 done (some c)) :: [])
          [(25, 1000, [(0, .yld 1000000), (1, .ptr 1001 0), (3, .p (.int .i64 ((n + 1 : Nat) : Int))), (5, .p (.str r))]), (120, 0, [(2, .ptr 2 0), (3, .ptr 3 0), (4, .ptr 4 0), (5, .ptr 5 0), (6, .ptr 6 0), (7, .ptr 7 0), (8, .ptr 8 0), (9, .ptr 9 0)])] [.busy]
          rfl ⟨Weak.refl _, Weak.refl _, Weak.refl _, Weak.refl _, Weak.refl _, Weak.refl _, Weak.refl _, Weak.refl _, Weak.refl _, trivial⟩ ⟨hasO_one rfl, hasO_one rfl, hasO_one rfl, hasO_one rfl, hasO_one rfl, hasO_one rfl, hasO_one rfl, hasO_one rfl, hasO_one rfl, hasO_one rfl, hasO_w rfl ?_, trivial⟩ ⟨rfl, ⟨Weak.refl _, Weak.refl _, Weak.refl _, Weak.refl _, trivial⟩, rfl, ⟨Weak.refl _, Weak.refl _, Weak.refl _, Weak.refl _, Weak.refl _, Weak.refl _, Weak.refl _, Weak.refl _, trivial⟩, trivial⟩ ?_
        · rw [pCells_killE _ rfl]
          exact WeakL.refl _
        refine ⟨done.length + 1, hlC, (done.length : Int), (by rw [wrap64 (by omega) (by omega)]; omega), done.length, done.length * 5, rfl, rfl, (by rw [hlC]; omega), ?_⟩
        refine ⟨.plan ⟨[0], [8], [11], [2046]⟩ (.one 1 (.one 2 (.one 3 (.one 4 (.one 5 (.one 6 (.one 7 (.one 0 (.alt 8 (.one 9 (.one 10 (.alt 11 (.fin) (.stop)))) (.stop)))))))))) none, by kernel_rfl, _, rfl, _, rfl, _, rfl, .tip 2098 9 1 (c.lines.map enc1), ⟨mapP (done.flatMap encBlock), [.p (.int .i64 c.oldAt), .p (.int .i64 c.oldLen), .p (.int .i64 c.newAt), .p (.int .i64 c.newLen), .tip 2098 9 1 (c.lines.map enc1)], [], (by rw [List.append_nil]; rfl), block_flat done, rfl⟩, _, rfl, _, rfl, _, rfl, _, rfl, rfl, ?_⟩
        refine ⟨rfl, all_enc1 _, all_one rfl, ?_, (c.lines ++ [x]).map enc1, ?_, ?_⟩
        · show ((c.lines.map enc1).length + 1) * 16 ≤ _; rw [List.length_map]; omega
        · rw [List.map_append]; rfl
        have hk : FV.killL 2098 (pCells 2098 done (some c)) = mapP (done.flatMap encBlock) ++ ([.p (.int .i64 c.oldAt), .p (.int .i64 c.oldLen), .p (.int .i64 c.newAt), .p (.int .i64 c.newLen), .p (encS c.lines)] ++ []) := by
          simp [pCells, killL_append, killL_mapP, FV.killL, FV.kill]; rfl
        refine ⟨_, rfl, _, rfl, _, _, _, hk, block_flat done, pCells 2098 done (some (addL x c)), (by rw [List.append_nil]; rfl), ⟨fun t ht => ?_⟩⟩
        obtain rfl : t = false := ht
        refine cutG 25 1000 [(0, .yld 1000000), (1, .ptr 1001 0), (3, .p (.int .i64 ((n + 1 : Nat) : Int))), (5, .p (.str r))]
          ((1001, [.p (.str rest)]) :: (2, [.full []]) :: (3, [.p (.int .i64 0)]) :: (4, [.p (.int .i64 0)]) :: (5, [.osl 2046 48 5]) :: (6, [.tip 2050 3 1 ((heads).map encN)]) :: (7, [.p (.int .i64 (old - nK [x] - nR [x]))]) :: (8, [.p (.int .i64 (new - nK [x] - nA [x]))]) :: (9, [.p (.int .i64 ((n + 1 : Nat) : Int))]) :: (2046, pCells 2098 done (some (addL x c))) :: [])
          [(120, 0, [(2, .ptr 2 0), (3, .ptr 3 0), (4, .ptr 4 0), (5, .ptr 5 0), (6, .ptr 6 0), (7, .ptr 7 0), (8, .ptr 8 0), (9, .ptr 9 0)])] [.ready]
          rfl ⟨Weak.refl _, Weak.refl _, Weak.refl _, Weak.refl _, trivial⟩ ⟨hasO_one rfl, hasO_one rfl, hasO_one rfl, hasO_one rfl, hasO_one rfl, hasO_one rfl, hasO_one rfl, hasO_one rfl, hasO_one rfl, hasO_w rfl ?_, trivial⟩ ⟨rfl, ⟨Weak.refl _, Weak.refl _, Weak.refl _, Weak.refl _, Weak.refl _, Weak.refl _, Weak.refl _, Weak.refl _, trivial⟩, trivial⟩ ?_
        · exact WeakL.refl _
        exact ⟨((n + 1 + 1 : Nat) : Int), (show IntKind.i64.wrap (((n + 1 : Nat) : Int) + 1) = _ from by rw [wrap64 (by omega) (by omega)]; omega), roundG (n + 1, r, old - nK [x] - nR [x], new - nK [x] - nA [x], done, some (addL x c), heads) hN hsh rfl ⟨Weak.refl _, Weak.refl _, Weak.refl _, trivial⟩ ⟨hasO_one rfl, hasO_one rfl, hasO_one rfl, hasO_one rfl, hasO_one rfl, hasO_one rfl, hasO_one rfl, hasO_one rfl, hasO_one rfl, hasO_one rfl, trivial⟩ ⟨rfl, ⟨Weak.refl _, Weak.refl _, Weak.refl _, Weak.refl _, Weak.refl _, Weak.refl _, Weak.refl _, Weak.refl _, trivial⟩, trivial⟩ trivial⟩
  · have hr : rest = [] := hr
    subst hr
    have hend := hI.end_
    obtain ⟨c, rfl⟩ : ∃ c, cur = some c := by
      cases cur with
      | some c => exact ⟨c, rfl⟩
      | none => exact absurd (hI.no rfl).2.2.2.2.2.symm hs0
    have o1 := hI.old0
    have o2 := hI.new0
    have hlen := hI.len
    have hhl := hI.hl
    simp only [Option.toList, List.length_singleton] at hhl hend
    have hcn := hI.cnt
    simp only [Option.toList, List.length_singleton] at hcn
    have hu : uparse s = if 0 < old + new then ([], (n : Int) + 1, 3) else if (checkL (done ++ [c])).2 = 0 then (done ++ [c], 0, 0) else ([], ((heads.getD (checkL (done ++ [c])).1.toNat 0 : Nat) : Int), (checkL (done ++ [c])).2) := by
      unfold uparse
      rw [hend]
    refine ⟨old + new, (show IntKind.i64.wrap (old + new) = _ from wrap64 (by omega) (by omega)), ⟨dc (fun ho => ?_) (fun ho => ?_)⟩⟩
    · rw [if_pos ho] at hu
      rw [hu]
      refine ⟨.plan ⟨[0, 1], [2], [3, 4], [9]⟩ (.one 0 (.one 1 (.alt 2 (.alt 3 (.alt 4 (.fin) (.stop)) (.stop)) (.stop)))) none, by kernel_rfl, _, rfl, rfl, _, ⟨(n : Int) + 1, (show IntKind.i64.wrap ((n : Int) + 1) = _ from wrap64 (by omega) (by omega)), rfl⟩, rfl, rfl, ?_⟩
      exact rfl
    · rw [if_neg ho] at hu
      have htb : TinyB (done ++ [c]) := ⟨by simp; omega, fun b hb => by
        have := hI.each b (by simpa using hb)
        omega⟩
      refine ⟨2046, 5, (done ++ [c]).map encBlock, ⟨⟨_, rfl, toAVs_pCells 2098 done (some c)⟩, ?_⟩, ?_⟩
      · intro ys hy
        obtain ⟨h, -, rfl⟩ := List.mem_map.1 hy
        exact ⟨rfl, by intro y hy; simp [encBlock] at hy; rcases hy with rfl | rfl | rfl | rfl | rfl <;> rfl⟩
      refine ⟨_, (check_ok (done ++ [c]) htb).up.opn, ?_⟩
      rintro q rfl
      refine ⟨nec (fun hk => ?_) (fun hk => ?_)⟩
      · rw [if_neg hk] at hu
        rw [hu]
        have hat := checkF_at (done ++ [c]) none 0 0 hk
        have hat : 0 ≤ (checkL (done ++ [c])).1 ∧ (checkL (done ++ [c])).1 < 0 + ((done ++ [c]).length : Nat) := hat
        rw [List.length_append, List.length_singleton] at hat
        obtain ⟨k, hk1⟩ := Int.eq_ofNat_of_zero_le hat.1
        have hk2 : k < heads.length := by omega
        refine ⟨.plan ⟨[0, 1, 2, 3, 4], [5, 6, 7], [], [6, 2050]⟩ (.one 0 (.one 1 (.one 2 (.one 3 (.one 4 (.alt 5 (.alt 6 (.alt 7 (.fin) (.stop)) (.stop)) (.stop))))))) none, by kernel_rfl, _, rfl, rfl, _, rfl, rfl, _, ⟨by omega, _, idx_map hk1 hk2, rfl, rfl⟩, rfl, _, rfl, rfl, _, rfl, rfl, rfl, rfl, rfl, ?_⟩
        rw [hk1, Int.toNat_natCast]
        show Ret.val _ = _
        rw [List.getD_eq_getElem?_getD, List.getElem?_eq_getElem hk2]
        rfl
      · rw [if_pos hk] at hu
        rw [hu]
        exact rfl

theorem uparse_nil : CallsTo D 5 [.str []] (fun r => r = .val (.tup [encBs (uparse []).1, .int .i64 (uparse []).2.1, .int .i64 (uparse []).2.2])) := by
  refine callsTo_of_evO ⟨[45], [], false, [13]⟩ [5] Tryz.func5 rfl rfl rfl ?_
  refine cutR 120 [(0, .p (.str [])), (2, .ptr 2 0), (3, .ptr 3 0), (4, .ptr 4 0), (5, .ptr 5 0), (6, .ptr 6 0), (7, .ptr 7 0), (8, .ptr 8 0), (9, .ptr 9 0)] [(2, [.full []]), (3, [.p (.int .i64 0)]), (4, [.p (.int .i64 0)]), (5, [.full []]), (6, [.full []]), (7, [.p (.int .i64 0)]), (8, [.p (.int .i64 0)]), (9, [.p (.int .i64 0)])] rfl ⟨Weak.refl _, Weak.refl _, Weak.refl _, Weak.refl _, Weak.refl _, Weak.refl _, Weak.refl _, Weak.refl _, Weak.refl _, trivial⟩ ⟨hasO_one rfl, hasO_one rfl, hasO_one rfl, hasO_one rfl, hasO_one rfl, hasO_one rfl, hasO_one rfl, hasO_one rfl, trivial⟩ ?_
  refine .inl ⟨_, Tryz.func13, rfl, rfl, rfl, ?_⟩
  refine ⟨[], ?_⟩
  refine ⟨_, Tryz.func32, rfl, rfl, rfl, ?_⟩
  refine loopG 25 1000 (fun x : Nat => [(0, .yld 1000000), (1, .ptr 1001 0), (3, .p (.int .i64 1))])
    (fun x => (1001, [.p (.str [])]) :: (2, [.full []]) :: (3, [.p (.int .i64 0)]) :: (4, [.p (.int .i64 0)]) :: (5, [.full []]) :: (6, [.full []]) :: (7, [.p (.int .i64 0)]) :: (8, [.p (.int .i64 0)]) :: (9, [.p (.int .i64 0)]) :: [])
    (fun _ => [(120, 0, [(2, .ptr 2 0), (3, .ptr 3 0), (4, .ptr 4 0), (5, .ptr 5 0), (6, .ptr 6 0), (7, .ptr 7 0), (8, .ptr 8 0), (9, .ptr 9 0)])]) [.ready] (fun _ => [])
    (fun x => True) (fun x => x) 0 trivial
    rfl ⟨Weak.refl _, Weak.refl _, Weak.refl _, trivial⟩ ⟨hasO_one rfl, hasO_one rfl, hasO_one rfl, hasO_one rfl, hasO_one rfl, hasO_one rfl, hasO_one rfl, hasO_one rfl, hasO_one rfl, trivial⟩ ⟨rfl, ⟨Weak.refl _, Weak.refl _, Weak.refl _, Weak.refl _, Weak.refl _, Weak.refl _, Weak.refl _, Weak.refl _, trivial⟩, trivial⟩ trivial ?_
  intro x hx
  refine ⟨nesc (fun hr => absurd rfl hr) (fun hr => ?_)⟩
  refine ⟨0, rfl, ⟨dc (fun ho => absurd ho (by decide)) (fun ho => ?_)⟩⟩
  refine ⟨_, (check_ok [] ⟨by decide, fun b hb => (List.not_mem_nil hb).elim⟩).up.opn, ?_⟩
  rintro q rfl
  refine ⟨nec (fun hk => absurd rfl hk) (fun hk => ?_)⟩
  exact rfl

theorem uparse_ok (s : Bytes) (hs : s.length ≤ 2 ^ 20) : CallsTo D 5 [.str s] (fun r => r = .val (.tup [encBs (uparse s).1, .int .i64 (uparse s).2.1, .int .i64 (uparse s).2.2])) := by
  by_cases h : s = []
  · subst h; exact uparse_nil
  · exact uparse1 s hs h

end Qv
end
