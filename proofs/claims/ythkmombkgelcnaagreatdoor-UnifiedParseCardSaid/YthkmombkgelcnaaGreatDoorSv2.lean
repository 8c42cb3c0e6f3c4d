/- Several texts in one: The same: structs, arrays and slices written out, The operations that only leave a value, calls among them, taken together; and those that change memory of the call's own, The operations that change memory of the call's own: new objects, stores, append, and calls whose result has room behind, append; and calls whose result has room behind its end, Slices that are kept open: their elements lie in an object, behind whose end the call owns the room, Every operation; regions in their own order, Regions that draw their order; and the evaluator as a whole: what it asks suffices for the model. No condition. -/
import Derived.Test.YthkmombkgelcnaaGreatDoorSv1
import Derived.Laws.Append
import Derived.Laws.Tables
import Derived.Laws.AppendOwn
import Derived.Deep.LoopGhost

section
/- The same: structs, arrays and slices written out. No condition. -/
set_option linter.unusedSimpArgs false
set_option linter.unusedVariables false
namespace Qv
open Go Go.RowKit

section
variable {E : Env} {G : Ghost} {S : AState} {a : Act} {w : World} {o : Oper} {K : FV → Prop}

def RepL (G : Ghost) (w : World) (cs : List Value) (xs : List FV) : Prop :=
  cs.length = xs.length ∧ ∀ (i : Nat) (c : Value) (x : FV), cs[i]? = some c → xs[i]? = some x → RepF G w c x

theorem mapP_eq (xs : List AV) : mapP xs = xs.map FV.p := by
  induction xs with
  | nil => rfl
  | cons x xs ih => simp [mapP, ih]

theorem allOne_iff {xs : List FV} : allOne xs = true ↔ ∀ x, x ∈ xs → x.one = true := by
  induction xs with
  | nil => simp [allOne]
  | cons x xs ih =>
    simp only [allOne]
    cases hx : x.one <;> simp [hx, ih]

/-- A value's cells read as the abstract value's cells. -/
theorem cells_rep {v : Value} {x : FV} (h : RepF G w v x) (h1 : allOne x.cells = true) : RepL G w v.cells.toList x.cells ∧ (∀ u, u ∈ v.cells.toList → u.oneCell' = true) := by
  have one : ∀ {cs : List Value} {xs : List FV}, RepL G w cs xs → allOne xs = true → ∀ u, u ∈ cs → u.oneCell' = true := fun {cs xs} hr ho u hu => by
    obtain ⟨i, hi⟩ := List.mem_iff_getElem?.1 hu
    have hl : i < xs.length := by rw [← hr.1]; exact (List.getElem?_eq_some_iff.1 hi).1
    exact (hr.2 i u _ hi (List.getElem?_eq_getElem hl)).oneV (allOne_iff.1 ho _ (List.getElem_mem hl))
  have single : ∀ {v : Value} {x : FV}, RepF G w v x → v.cells = #[v] → RepL G w v.cells.toList [x] := fun {v x} h hv => by
    rw [hv]
    refine ⟨rfl, fun i c y hc hy => ?_⟩
    cases i with
    | zero => simp at hc hy; subst hc; subst hy; exact h
    | succ i => simp at hc
  have key : RepL G w v.cells.toList x.cells := by
    cases h with
    | p v x h =>
      cases h with
      | agg cs xs hl ho hc =>
        simp only [FV.cells, Value.cells, mapP_eq]
        refine ⟨by simp [hl], fun i c y h2 h3 => ?_⟩
        rw [List.getElem?_map] at h3
        cases hx : xs[i]? with
        | none => simp [hx] at h3
        | some z => simp [hx] at h3; subst h3; exact .p _ _ (hc i c z (by simpa using h2) hx)
      | tup cs xs hl hc => simp [FV.cells, allOne, FV.one, AV.one] at h1
      | _ => exact single (.p _ _ (by constructor <;> assumption)) rfl
    | agg cs xs hl hc => exact ⟨by simpa [Value.cells, FV.cells] using hl, fun i c y h2 h3 => hc i c y (by simpa [Value.cells] using h2) h3⟩
    | tup cs xs hl hc => simp [FV.cells, allOne, FV.one] at h1
    | junk v => simp [FV.cells, allOne, FV.one] at h1
    | ptr o off b h => exact single (.ptr o off b h) rfl
    | tip t T esz xs a c h3 h4 => exact single (.tip t T esz xs a c h3 h4) rfl
    | yld l k h => exact single (.yld l k h) rfl
    | osl o T esz n c b q1 q2 q3 q4 => exact single (.osl o T esz n c b q1 q2 q3 q4) rfl
    | eptr o base off b h => exact single (.eptr o base off b h) rfl
    | full xs a h => exact single (.full xs a h) rfl
    | fn f fs cs first captured a b c d => exact single (.fn f fs cs first captured a b c d) rfl
  exact ⟨key, one key h1⟩

theorem setN_some {α : Type} {xs zs : List α} {n : Nat} {y : α} (h : setN xs n y = some zs) : n < xs.length ∧ zs = xs.set n y := by
  induction xs generalizing n zs with
  | nil => simp [setN] at h
  | cons x xs ih =>
    cases n with
    | zero => simp [setN] at h; simp [h]
    | succ n =>
      simp only [setN] at h
      split at h
      · rename_i us hu
        obtain rfl := Option.some.inj h
        obtain ⟨h1, rfl⟩ := ih hu
        simp [h1]
      · cases h

theorem setRange_some {α : Type} {xs zs : List α} {n : Nat} {ys : List α} (h : setRange xs n ys = some zs) :
    zs.length = xs.length ∧ (ys ≠ [] → n + ys.length ≤ xs.length) ∧ ∀ (i : Nat), zs[i]? = if n ≤ i ∧ i < n + ys.length then ys[i - n]? else xs[i]? := by
  induction ys generalizing xs n with
  | nil =>
    simp only [setRange, Option.some.injEq] at h
    subst h
    refine ⟨rfl, fun h => absurd rfl h, fun i => ?_⟩
    rw [if_neg (by simp)]
  | cons y ys ih =>
    simp only [setRange] at h
    split at h
    · rename_i us hu
      obtain ⟨h1, rfl⟩ := setN_some hu
      obtain ⟨h2, h3, h4⟩ := ih h
      refine ⟨by simpa using h2, fun _ => ?_, fun i => ?_⟩
      · cases ys with
        | nil => simp; omega
        | cons z ys => have := h3 (by simp); simp at this ⊢; omega
      · rw [h4 i]
        by_cases hi : i = n
        · subst hi
          rw [if_neg (by omega), if_pos (by simp)]
          simp [h1]
        · by_cases hlt : n + 1 ≤ i ∧ i < n + 1 + ys.length
          · rw [if_pos hlt, if_pos (by simp; omega)]
            have : i - n = (i - (n + 1)) + 1 := by omega
            rw [this, List.getElem?_cons_succ]
          · rw [if_neg hlt, if_neg (by simp; omega), List.getElem?_set_ne (Ne.symm hi)]
    · cases h

/-- The model's way of laying cells over others. -/
theorem foldl_set_spec (vs : List Value) (off : Nat) : ∀ (k : Nat) (cs : Array Value),
    let r := (vs.zipIdx k).foldl (fun cs (c, j) => cs.setIfInBounds (off + j) c) cs
    r.size = cs.size ∧ ∀ i, i < cs.size → r[i]? = if off + k ≤ i ∧ i < off + k + vs.length then vs[i - (off + k)]? else cs[i]? := by
  induction vs with
  | nil => intro k cs; refine ⟨rfl, fun i hi => ?_⟩; rw [if_neg (by simp)]; rfl
  | cons v vs ih =>
    intro k cs
    simp only [List.zipIdx_cons, List.foldl_cons]
    obtain ⟨h1, h2⟩ := ih (k + 1) (cs.setIfInBounds (off + k) v)
    refine ⟨by simpa using h1, fun i hi => ?_⟩
    rw [h2 i (by simpa using hi)]
    by_cases he : i = off + k
    · subst he
      rw [if_neg (by omega), if_pos (by simp)]
      simp [hi]
    · by_cases hlt : off + (k + 1) ≤ i ∧ i < off + (k + 1) + vs.length
      · rw [if_pos hlt, if_pos (by simp; omega)]
        have : i - (off + k) = (i - (off + (k + 1))) + 1 := by omega
        rw [this, List.getElem?_cons_succ]
      · rw [if_neg hlt, if_neg (by simp; omega)]
        rw [Array.getElem?_setIfInBounds_ne (Ne.symm he)]

theorem fill_one {place : Nat → Option (Nat × Nat)} {cells : Array Value} {i off size : Nat} {v : Value} {rest : List (Nat × Value)}
    (hp : place i = some (off, size)) (hs : v.cells.size = size) (hb : off + size ≤ cells.size) :
    Instr.fill place cells ((i, v) :: rest) = Instr.fill place (v.cells.zipIdx.foldl (fun cs (c, j) => cs.setIfInBounds (off + j) c) cells) rest := by
  have hne : ¬ (v.cells.size ≠ size ∨ off + v.cells.size > cells.size) := by rw [hs]; omega
  simp only [Instr.fill, hp]
  rw [if_neg (by simpa using hne)]

theorem fill_step {cells : Array Value} {xs zs : List FV} {off : Nat} {v : Value} {x : FV} (hr : RepL G w cells.toList xs) (hv : RepF G w v x) (h1 : allOne x.cells = true)
    (hset : setRange xs off x.cells = some zs) (hne : v.cells.size = 0 → off ≤ cells.size) :
    off + v.cells.size ≤ cells.size ∧ RepL G w (v.cells.zipIdx.foldl (fun cs (c, j) => cs.setIfInBounds (off + j) c) cells).toList zs := by
  obtain ⟨hcr, hco⟩ := cells_rep hv h1
  obtain ⟨g1, g2, g3⟩ := setRange_some hset
  have hlen : v.cells.size = x.cells.length := by rw [← hcr.1]; simp
  have hsz : cells.size = xs.length := by rw [← hr.1]; simp
  have hb : off + v.cells.size ≤ cells.size := by
    by_cases h0 : x.cells = []
    · have hl0 : v.cells.size = 0 := by rw [hlen, h0]; rfl
      have := hne hl0
      omega
    · have := g2 h0; omega
  refine ⟨hb, ?_⟩
  have hf := foldl_set_spec v.cells.toList off 0 cells
  have he : v.cells.zipIdx.foldl (fun cs (c, j) => cs.setIfInBounds (off + j) c) cells = (v.cells.toList.zipIdx 0).foldl (fun cs (c, j) => cs.setIfInBounds (off + j) c) cells := by
    rw [← Array.foldl_toList, Array.toList_zipIdx]
  rw [he]
  obtain ⟨f1, f2⟩ := hf
  refine ⟨by rw [Array.length_toList, f1, g1, hsz], fun i c y hc hy => ?_⟩
  have hi : i < cells.size := by
    have := (List.getElem?_eq_some_iff.1 hy).1
    omega
  rw [g3 i] at hy
  rw [Array.getElem?_toList, f2 i hi] at hc
  simp only [Nat.add_zero] at hc
  by_cases hin : off ≤ i ∧ i < off + x.cells.length
  · rw [if_pos hin] at hy
    rw [if_pos (by rw [hcr.1]; exact hin)] at hc
    exact hcr.2 _ _ _ hc hy
  · rw [if_neg hin] at hy
    rw [if_neg (by rw [hcr.1]; exact hin)] at hc
    exact hr.2 i c y (by simpa using hc) hy

theorem repL_zero (zs : List Value) : RepL G w zs (zs.map FV.ofVal1) :=
  ⟨by simp, fun i c x hc hx => by
    rw [List.getElem?_map, hc] at hx
    simp only [Option.map_some, Option.some.injEq] at hx
    subst hx
    exact repF_ofVal1 _ _ _⟩

theorem placeParts_fill (hs : SimG E G S a w) {fs : List (Nat × TypeId)} {gs : Array Field} (hfs : fs = gs.toList.map fun f => (f.offset, f.type)) :
    ∀ (parts : List (Nat × Operand)) (cells : Array Value) (xs zs : List FV), RepL G w cells.toList xs → placeParts fs E.C.tab S parts xs = some zs →
      ∃ cs, Instr.fill ((gs.map fun f => (f.offset, E.C.P.cellsOf f.type))[·]?) cells (parts.map fun (i, x) => (i, a.eval x)) = some cs ∧ RepL G w cs.toList zs := by
  intro parts
  induction parts with
  | nil =>
    intro cells xs zs hr h
    simp only [placeParts, Option.some.injEq] at h
    exact ⟨cells, rfl, h ▸ hr⟩
  | cons p parts ih =>
    obtain ⟨i, x⟩ := p
    intro cells xs zs hr h
    simp only [placeParts] at h
    split at h
    · cases h
    · rename_i off t r hd
      split at h
      · cases h
      · rename_i j hj
        split at h
        · rename_i hz hlen h1
          split at h
          · cases h
          · rename_i us hu
            have hv := RepF.val hs x
            have hlen' : (S.val x).cells.length = j.size := Nat.eq_of_beq_eq_true hlen
            have hgi : gs.toList[i]?.map (fun f => (f.offset, f.type)) = some (off, t) := by
              have := dropN_head hd
              rwa [hfs, List.getElem?_map] at this
            obtain ⟨inf, z, hinf, hsz, -⟩ := (E.C.ok hj).info'
            have hcs : E.C.P.cellsOf t = j.size := by simp [Program.cellsOf, hinf, hsz]
            have hp : (gs.map fun f => (f.offset, E.C.P.cellsOf f.type))[i]? = some (off, j.size) := by
              rw [Array.getElem?_map]
              cases hg : gs[i]? with
              | none => simp [hg] at hgi
              | some g =>
                rw [Array.getElem?_toList, hg] at hgi
                simp only [Option.map_some, Option.some.injEq, Prod.mk.injEq] at hgi
                simp [hgi.1, hgi.2, hcs]
            have hcr := (cells_rep hv h1).1
            have hvs : (a.eval x).cells.size = j.size := by rw [← hlen', ← hcr.1]; simp
            have h0 : j.size ≠ 0 := Nat.ne_of_beq_eq_false hz
            obtain ⟨hb, hr'⟩ := fill_step hr hv h1 hu (fun e => by omega)
            obtain ⟨cs, h3, h4⟩ := ih _ _ _ hr' h
            refine ⟨cs, ?_, h4⟩
            rw [List.map_cons, fill_one hp hvs (by omega)]
            exact h3
        · cases h

theorem placeElems_fill (hs : SimG E G S a w) {size : Nat} :
    ∀ (parts : List (Nat × Operand)) (cells : Array Value) (xs zs : List FV), RepL G w cells.toList xs → placeElems size S parts xs = some zs →
      ∃ cs, Instr.fill (fun i => some (i * size, size)) cells (parts.map fun (i, x) => (i, a.eval x)) = some cs ∧ RepL G w cs.toList zs := by
  intro parts
  induction parts with
  | nil =>
    intro cells xs zs hr h
    simp only [placeElems, Option.some.injEq] at h
    exact ⟨cells, rfl, h ▸ hr⟩
  | cons p parts ih =>
    obtain ⟨i, x⟩ := p
    intro cells xs zs hr h
    simp only [placeElems] at h
    split at h
    · rename_i hz hlen h1
      split at h
      · cases h
      · rename_i us hu
        have hv := RepF.val hs x
        have hlen' : (S.val x).cells.length = size := Nat.eq_of_beq_eq_true hlen
        have hcr := (cells_rep hv h1).1
        have hvs : (a.eval x).cells.size = size := by rw [← hlen', ← hcr.1]; simp
        have h0 : size ≠ 0 := Nat.ne_of_beq_eq_false hz
        obtain ⟨hb, hr'⟩ := fill_step hr hv h1 hu (fun e => by omega)
        obtain ⟨cs, h3, h4⟩ := ih _ _ _ hr' h
        refine ⟨cs, ?_, h4⟩
        rw [List.map_cons, fill_one rfl hvs (by omega)]
        exact h3
    · cases h

theorem TabOK.zeroV {P : Program} {t : TypeId} {i : TInfo} (h : TabOK P t i) (w : World) : ∃ z, (zeroValue t).run P w = .ok z w ∧ z.cells.toList = i.zero := by
  obtain ⟨inf, z, h1, -, -, h2, h3⟩ := h.info'
  exact ⟨z, by simp [zeroValue, run_typeInfo w h1, h2], h3⟩

theorem placesOf_spec (C : Ctx) {fs : List (Nat × TypeId)} {ps : List (Nat × Nat)} (h : placesOf C.tab fs = some ps) :
    ∀ (gs : List Field), fs = gs.map (fun f => (f.offset, f.type)) → gs.mapM (fun f => (C.P.info? f.type).map fun i => (f.offset, i.size)) = some ps ∧ ps = gs.map fun f => (f.offset, C.P.cellsOf f.type) := by
  induction fs generalizing ps with
  | nil =>
    intro gs hg
    simp only [placesOf, Option.some.injEq] at h
    have : gs = [] := by simpa using hg.symm
    subst this; subst h; simp
  | cons p fs ih =>
    obtain ⟨o, t⟩ := p
    intro gs hg
    cases gs with
    | nil => simp at hg
    | cons g gs =>
      simp only [List.map_cons, List.cons.injEq, Prod.mk.injEq] at hg
      obtain ⟨⟨rfl, rfl⟩, hg⟩ := hg
      simp only [placesOf] at h
      split at h
      · cases h
      · rename_i j hj
        split at h
        · cases h
        · rename_i qs hqs
          obtain rfl := Option.some.inj h
          obtain ⟨h1, h2⟩ := ih hqs gs hg
          obtain ⟨inf, z, hinf, hsz, -⟩ := (C.ok hj).info'
          simp only [List.mapM_cons, hinf, Option.map_some, h1]
          simp [hsz, h2, Program.cellsOf, hinf]

theorem yields_build (hs : SimG E G S a w) {t : TypeId} {parts : Array (Nat × Operand)} (ho : o.op = .build t parts) (h : evBuild E.C S t parts.toList K) : Yields E G a w o K := by
  unfold evBuild at h
  split at h
  · rename_i fs zero ht
    have hok := E.C.ok ht
    obtain ⟨gs, hu, hfs⟩ := hok.struct
    obtain ⟨inf, z, hinf, -, -, hz, hzc⟩ := hok.info'
    split at h
    · exact h.elim
    · rename_i ps hps
      split at h
      · rename_i cs hcs
        rw [forceL_eq] at h
        obtain ⟨p1, p2⟩ := placesOf_spec E.C hps gs.toList hfs
        obtain ⟨us, h3, h4⟩ := placeParts_fill hs hfs parts.toList z.cells _ _ (hzc ▸ repL_zero _) hcs
        have hb : E.C.P.built t (parts.toList.map fun (i, x) => (i, a.eval x)) = some us := by
          unfold Program.built
          simp only [hinf, hu, hz, p1]
          rw [p2]
          simpa using h3
        have hrun := run_build (P := E.C.P) w t (parts.map fun (i, x) => (i, a.eval x)) us (by simpa using hb)
        exact Yields.same (by simp only [execOp, ho, Sem.run_bind, hrun, Result.andThen_ok]; rfl) h (by simpa using RepF.agg us.toList cs h4.1 h4.2)
      · exact h.elim
  · rename_i n e zero ht
    have hok := E.C.ok ht
    have hu := hok.array
    obtain ⟨inf, z, hinf, -, -, hz, hzc⟩ := hok.info'
    split at h
    · exact h.elim
    · rename_i j hj
      obtain ⟨inf', z', hinf', hsz', -⟩ := (E.C.ok hj).info'
      split at h
      · rename_i cs hcs
        rw [forceL_eq] at h
        obtain ⟨us, h3, h4⟩ := placeElems_fill hs parts.toList z.cells _ _ (hzc ▸ repL_zero _) hcs
        have hb : E.C.P.built t (parts.toList.map fun (i, x) => (i, a.eval x)) = some us := by
          unfold Program.built
          simp only [hinf, hu, hz, hinf', hsz']
          exact h3
        have hrun := run_build (P := E.C.P) w t (parts.map fun (i, x) => (i, a.eval x)) us (by simpa using hb)
        exact Yields.same (by simp only [execOp, ho, Sem.run_bind, hrun, Result.andThen_ok]; rfl) h (by simpa using RepF.agg us.toList cs h4.1 h4.2)
      · exact h.elim
  · exact h.elim

theorem repl_get {α : Type} (xs : List α) (n : Nat) : (repl n xs).length = n * xs.length ∧ ∀ i, i < n * xs.length → (repl n xs)[i]? = xs[i % xs.length]? := by
  induction n with
  | zero => simp [repl]
  | succ n ih =>
    refine ⟨by simp [repl, ih.1, Nat.add_mul, Nat.add_comm], fun i hi => ?_⟩
    simp only [repl]
    by_cases h : i < xs.length
    · rw [List.getElem?_append_left h, Nat.mod_eq_of_lt h]
    · rw [List.getElem?_append_right (by omega), ih.2 _ (by rw [Nat.add_mul] at hi; omega)]
      congr 1
      exact (Nat.mod_eq_sub_mod (by omega)).symm

theorem repl_map {α β : Type} (f : α → β) (xs : List α) (n : Nat) : repl n (xs.map f) = (repl n xs).map f := by
  induction n with
  | zero => rfl
  | succ n ih => simp [repl, ih]

theorem chunk_get {α : Type} (size : Nat) : ∀ (n : Nat) (xs : List α), (chunk size n xs).length = n ∧ ∀ i zs, (chunk size n xs)[i]? = some zs → zs = (xs.drop (i * size)).take size := by
  intro n
  induction n with
  | zero => intro xs; simp [chunk]
  | succ n ih =>
    intro xs
    obtain ⟨h1, h2⟩ := ih (xs.drop size)
    refine ⟨by simp [chunk, h1], fun i zs h => ?_⟩
    cases i with
    | zero => simp [chunk] at h; simp [h]
    | succ i =>
      simp only [chunk, List.getElem?_cons_succ] at h
      rw [h2 i zs h, List.drop_drop, Nat.add_mul, Nat.one_mul, Nat.add_comm]

theorem toAV_one {x : FV} {y : AV} (h : x.one = true) (hy : x.toAV = some y) : y.one = true := by
  cases x with
  | p z => simp only [FV.toAV, Option.some.injEq] at hy; subst hy; exact h
  | agg xs => simp [FV.one] at h
  | tup xs => simp [FV.one] at h
  | ptr o off => simp [FV.toAV] at hy
  | tip t T e xs => simp only [FV.toAV, Option.some.injEq] at hy; subst hy; rfl
  | yld l => simp [FV.toAV] at hy
  | osl o T e => simp [FV.toAV] at hy
  | eptr o b off => simp [FV.toAV] at hy
  | full xs => simp only [FV.toAV, Option.some.injEq] at hy; subst hy; rfl
  | fn f a b =>
    simp only [FV.toAV] at hy
    split at hy
    · split at hy
      · obtain rfl := Option.some.inj hy; rfl
      · cases hy
    · cases hy
  | junk => simp [FV.one] at h

theorem buildSlice_core (hs : SimG E G S a w) {t : TypeId} {len : Nat} {parts : Array (Nat × Operand)} (ho : o.op = .buildSlice t len parts)
    (h : evBuildSlice E.C S t len parts.toList K) : ∃ (xs : List (List AV)) (us : Array Value) (e : TypeId) (j : TInfo), (∃ a b z, tabGet E.C.tab t = some ⟨a, b, .slice e, z⟩) ∧ tabGet E.C.tab e = some j ∧ K (.full xs) ∧
      (execOp a.eval o).run E.C.P w = .ok (.value (.slice (some ⟨w.heap.size, 0, none⟩) xs.length xs.length)) (w.alloc (.cells us e)) ∧ (∀ zs, zs ∈ xs → zs.length = j.size) ∧
      Rep (fun b o => G.imm b o ∨ (w.heap.size ≤ b ∧ b < (w.alloc (.cells us e)).heap.size ∧ o < xs.length * j.size)) (w.alloc (.cells us e)) (.slice (some ⟨w.heap.size, 0, none⟩) xs.length xs.length) (.sl xs) := by
  unfold evBuildSlice at h
  split at h
  · rename_i e _ ht
    have hu := (E.C.ok ht).slice
    split at h
    · exact h.elim
    · rename_i j hj
      have hok := E.C.ok hj
      split at h
      · exact h.elim
      · rename_i hle
        have hle' : len * j.size ≤ 1000000 := Nat.le_of_ble_eq_true hle
        split at h
        · rename_i cs hcs
          split at h
          · exact h.elim
          · rename_i h1
            split at h
            · rename_i ys hys
              obtain ⟨z, hzr, hzc⟩ := hok.zeroV w
              have hzsz : z.cells.size = j.size := by rw [← Array.length_toList, hzc, hok.len]
              -- the cells before anything is laid over them
              have hbase : ∀ zz : Array Value, (len * j.size = 0 ∨ zz = z.cells) → ((Array.range (len * j.size)).map (zz[· % zz.size]!)).toList = repl len j.zero := fun zz hzz => by
                obtain ⟨r1, r2⟩ := repl_get j.zero len
                rw [hok.len] at r1 r2
                apply List.ext_getElem?
                intro i
                by_cases hi : i < len * j.size
                · rcases hzz with h0 | rfl
                  · omega
                  · rw [r2 i hi, ← hzc, hzsz]
                    have hjp : 0 < j.size := by
                      rcases Nat.eq_zero_or_pos j.size with h0 | h0
                      · rw [h0] at hi; simp at hi
                      · exact h0
                    have hm : i % j.size < z.cells.size := by rw [hzsz]; exact Nat.mod_lt _ hjp
                    simp [hi, hm]
                · rw [List.getElem?_eq_none (by simp; omega), List.getElem?_eq_none (by omega)]
              have hrl : ∀ zz : Array Value, (len * j.size = 0 ∨ zz = z.cells) → RepL G w ((Array.range (len * j.size)).map (zz[· % zz.size]!)).toList (repl len (j.zero.map FV.ofVal1)) := fun zz hzz => by
                rw [hbase zz hzz, repl_map]
                exact repL_zero _
              obtain ⟨us, hus, hrep⟩ : ∃ us, (∀ zz : Array Value, (len * j.size = 0 ∨ zz = z.cells) → Instr.fill (fun i => some (i * j.size, j.size)) ((Array.range (len * j.size)).map (zz[· % zz.size]!)) (parts.toList.map fun (i, x) => (i, a.eval x)) = some us) ∧ RepL G w us.toList cs := by
                obtain ⟨us, h3, h4⟩ := placeElems_fill hs parts.toList _ _ _ (hrl z.cells (.inr rfl)) hcs
                refine ⟨us, fun zz hzz => ?_, h4⟩
                have : (Array.range (len * j.size)).map (zz[· % zz.size]!) = (Array.range (len * j.size)).map (z.cells[· % z.cells.size]!) := Array.toList_inj.1 ((hbase zz hzz).trans (hbase z.cells (.inr rfl)).symm)
                rw [this]; exact h3
              have hbig : ¬ len * j.size > 2 ^ 24 := by omega
              have hrun : (execOp a.eval o).run E.C.P w = .ok (.value (.slice (some ⟨w.heap.size, 0, none⟩) len len)) (w.alloc (.cells us e)) := by
                by_cases h0 : len * j.size = 0
                · have h5 := hus #[] (.inl h0)
                  have h5' : Instr.fill (fun i => some (i * j.size, j.size)) #[] (List.map (fun x => (x.1, a.eval x.2)) parts.toList) = some us := by
                    have h6 : (Array.range (len * j.size)).map ((#[] : Array Value)[· % (#[] : Array Value).size]!) = #[] := by rw [h0]; simp
                    rw [h6] at h5; exact h5
                  have hm0 : ∀ f : Nat → Value, (Array.range 0).map f = #[] := fun f => by simp
                  simp only [execOp, ho, Instr.buildSlice, Sem.run_bind, run_underlying hu, Result.andThen_ok, hok.sizeOf, hbig, if_false, h0, if_true, Sem.run_pure, Array.toList_map]
                  simp only [show ¬ (0 > 2 ^ 24) from by omega, if_false, Sem.run_pure, Result.andThen_ok, hm0, h5']
                  simp [newRow]
                · have h5 := hus z.cells (.inr rfl)
                  simp only [execOp, ho, Instr.buildSlice, Sem.run_bind, run_underlying hu, Result.andThen_ok, hok.sizeOf, hbig, if_false, h0, Sem.run_pure, hzr, Array.toList_map]
                  simp only [h5]
                  simp [newRow]
              obtain ⟨y1, y2⟩ := FV.toAVs_get hys
              have hlen : us.size = len * j.size := by
                have h6 : us.size = cs.length := by rw [← hrep.1]; simp
                have h7 : ∀ (parts : List (Nat × Operand)) (xs zs : List FV), placeElems j.size S parts xs = some zs → zs.length = xs.length := by
                  intro parts
                  induction parts with
                  | nil => intro xs zs h; simp only [placeElems, Option.some.injEq] at h; rw [h]
                  | cons p parts ih =>
                    obtain ⟨i, x⟩ := p
                    intro xs zs h
                    simp only [placeElems] at h
                    split at h
                    · split at h
                      · cases h
                      · rename_i us hus
                        rw [ih _ _ h, (setRange_some hus).1]
                    · cases h
                rw [h6, h7 _ _ _ hcs, (repl_get _ _).1]
                simp [hok.len]
              have hal : Below w.heap.size w (w.alloc (.cells us e)) := (Below.refl _ _).alloc (Nat.le_refl _) _
              obtain ⟨c1, c2⟩ := chunk_get j.size len ys
              have hcell : ∀ i, (w.alloc (.cells us e)).cell? ⟨w.heap.size, i, none⟩ = us[i]? := fun i => World.cell?_alloc_new w us e i
              have hlens : ∀ (i : Nat) (zs : List AV), (chunk j.size len ys)[i]? = some zs → zs.length = j.size := fun i zs hzs => by
                have hi : i < len := by rw [← c1]; exact (List.getElem?_eq_some_iff.1 hzs).1
                rw [c2 i zs hzs, List.length_take, List.length_drop, y1, ← hrep.1, Array.length_toList, hlen]
                have : (i + 1) * j.size ≤ len * j.size := Nat.mul_le_mul_right _ hi
                rw [Nat.add_mul] at this
                omega
              have hfin : Rep (fun b o => G.imm b o ∨ (w.heap.size ≤ b ∧ b < (w.alloc (.cells us e)).heap.size ∧ o < len * j.size)) (w.alloc (.cells us e)) (.slice (some ⟨w.heap.size, 0, none⟩) (chunk j.size len ys).length len) (.sl (chunk j.size len ys)) := by
                refine Rep.sl_mk (esz := j.size) (by omega) hlens (fun i zs k y hzs hy => ?_)
                · have hi : i < len := by rw [← c1]; exact (List.getElem?_eq_some_iff.1 hzs).1
                  have hk : k < j.size := by
                    have h8 := (List.getElem?_eq_some_iff.1 hy).1
                    rw [c2 i zs hzs, List.length_take] at h8
                    omega
                  rw [c2 i zs hzs, List.getElem?_take_of_lt hk, List.getElem?_drop] at hy
                  obtain ⟨x, hx, hxy⟩ := y2 _ _ hy
                  have hlt : i * j.size + k < us.size := by
                    have h9 := (List.getElem?_eq_some_iff.1 hx).1
                    rw [← Array.length_toList, hrep.1]; exact h9
                  have hr := hrep.2 (i * j.size + k) us[i * j.size + k] x (by simp [hlt]) hx
                  have hxo := allOne_iff.1 h1 x (List.mem_of_getElem? hx)
                  refine ⟨us[i * j.size + k], toAV_one hxo hxy, ?_, .inr ⟨Nat.le_refl _, by simp, by omega⟩, ?_⟩
                  · rw [Nat.zero_add, hcell]; simp [hlt]
                  · refine (hr.toAV hxy).keep (fun b o hi => .inl hi) (fun b o c hi hc => ?_)
                    rw [World.cell?_alloc_lt _ _ _ (hs.immLt b o hi)]
                    exact hc
              refine ⟨chunk j.size len ys, us, e, j, ⟨_, _, _, ht⟩, hj, h, by rw [c1]; exact hrun, fun zs hz => ?_, by rw [c1] at hfin ⊢; exact hfin⟩
              obtain ⟨q, hq⟩ := List.getElem?_of_mem hz
              exact hlens q zs hq
            · exact h.elim
        · exact h.elim
  · exact h.elim


theorem yields_buildSlice (hs : SimG E G S a w) {t : TypeId} {len : Nat} {parts : Array (Nat × Operand)} (ho : o.op = .buildSlice t len parts)
    (h : evBuildSlice E.C S t len parts.toList K) : Yields E G a w o K := by
  obtain ⟨xs, us, e, j, -, -, hK, hrun, -, hr⟩ := buildSlice_core hs ho h
  exact ⟨_, _, _, hrun, hK, (Below.refl _ _).alloc (Nat.le_refl _) _, .full xs _ (hr.keep (fun b o h => h.imp id fun h => ⟨h.1, h.2.1⟩) (fun _ _ _ _ h => h))⟩

end
end Qv
end

section
/- The operations that only leave a value, calls among them, taken together; and those that change memory of the call's own. No condition. -/
set_option linter.unusedSimpArgs false
set_option linter.unusedVariables false
namespace Qv
open Go Go.RowKit

section
variable {E : Env} {G : Ghost} {S : AState} {a : Act} {w : World} {o : Oper}

/-- The fence in which the frame goes. -/
def Env.fence (E : Env) : Fence := match E.rnd with
  | none => Fence.wide
  | some l => Fence.wide.inRound l

theorem Env.fence_fn (f : FuncId) : E.fence.fn f := by
  unfold Env.fence
  split <;> trivial

theorem Env.fence_depth : E.fence.depth = none := by
  unfold Env.fence
  split <;> rfl

theorem Env.fence_round : E.fence.round = E.rnd := by
  unfold Env.fence
  split <;> rename_i h <;> rw [h] <;> rfl

theorem callsIn_fence {P : Program} {f : FuncId} {args : Array Value} {w : World} {R : Ending → World → Prop} (h : Calls P f args w R) : CallsIn E.fence 0 P f args w R := by
  unfold Env.fence
  split
  · exact callsIn_wide.2 h
  · exact CallsIn.inRound _ (callsIn_wide.2 h)

/-- What is owed at an operation. -/
abbrev Owp (E : Env) (o : Oper) (a : Act) (w : World) (next : Act → World → Prop) (Q : Exit → Act → World → Prop) : Prop := o.wpIn E.fence 0 E.C.P a w next Q

theorem not_defer {P : Program} {ρ : Operand → Value} {v : Value} {w' : World} (h : (execOp ρ o).run P w = .ok (.value v) w') : ∀ c, o.op ≠ .defer c := fun c hc => by
  unfold execOp at h
  rw [hc] at h
  simp only [Sem.run_bind] at h
  cases hr : (resolve ρ c o.type).run P w <;> simp [hr, Result.andThen] at h

theorem wp_value {v : Value} {w' : World} {next : Act → World → Prop} {Q : Exit → Act → World → Prop} (h : (execOp a.eval o).run E.C.P w = .ok (.value v) w') (hn : next (a.put o.dst v) w') : Owp E o a w next Q := by
  refine ⟨fun f _ => Env.fence_fn f, ?_⟩
  rw [Oper.semAt_eq _ _ _ (not_defer h), h]
  exact hn

theorem wp_of_yields {K : FV → Prop} (hs : SimG E G S a w) (h : Yields E G a w o K) {next : Act → World → Prop} {Q : Exit → Act → World → Prop}
    (hn : ∀ x v G' w', K x → SimG E G' S a w' → RepF G' w' v x → next (a.put o.dst v) w') : Owp E o a w next Q := by
  obtain ⟨v, x, w', h1, h2, h3, h4⟩ := h
  exact wp_value h1 (hn x v _ w' h2 (hs.ext h3) h4)

theorem vals_rep (hs : SimG E G S a w) (args : List Operand) : (args.map a.eval).length = (args.map S.val).length ∧
    ∀ (i : Nat) (c : Value) (x : FV), (args.map a.eval)[i]? = some c → (args.map S.val)[i]? = some x → RepF G w c x := by
  refine ⟨by simp, fun i c x hc hx => ?_⟩
  rw [List.getElem?_map] at hc hx
  cases h0 : args[i]? with
  | none => simp [h0] at hc
  | some y => simp [h0] at hc hx; subst hc; subst hx; exact RepF.val hs y

theorem toAVs_rep {cs : List Value} {xs : List FV} {ys : List AV} (h : cs.length = xs.length ∧ ∀ (i : Nat) (c : Value) (x : FV), cs[i]? = some c → xs[i]? = some x → RepF G w c x)
    (hy : FV.toAVs xs = some ys) : cs.length = ys.length ∧ ∀ (i : Nat) (c : Value) (y : AV), cs[i]? = some c → ys[i]? = some y → Rep G.imm w c y := by
  obtain ⟨h1, h2⟩ := FV.toAVs_get hy
  refine ⟨by omega, fun i c y hc hy => ?_⟩
  obtain ⟨x, hx, hxy⟩ := h2 i y hy
  exact (h.2 i c x hc hx).toAV hxy

theorem append_rep {imm : Nat → Nat → Prop} {cs ds : List Value} {xs ys : List AV}
    (h : cs.length = xs.length ∧ ∀ (i : Nat) (c : Value) (x : AV), cs[i]? = some c → xs[i]? = some x → Rep imm w c x)
    (h' : ds.length = ys.length ∧ ∀ (i : Nat) (c : Value) (x : AV), ds[i]? = some c → ys[i]? = some x → Rep imm w c x) :
    (cs ++ ds).length = (xs ++ ys).length ∧ ∀ (i : Nat) (c : Value) (x : AV), (cs ++ ds)[i]? = some c → (xs ++ ys)[i]? = some x → Rep imm w c x := by
  refine ⟨by simp [h.1, h'.1], fun i c x hc hx => ?_⟩
  rw [List.getElem?_append] at hc hx
  by_cases hi : i < cs.length
  · rw [if_pos hi] at hc
    rw [if_pos (by omega)] at hx
    exact h.2 i c x hc hx
  · rw [if_neg hi] at hc
    rw [if_neg (by omega)] at hx
    rw [← h.1] at hx
    exact h'.2 _ c x hc hx

theorem run_call {P : Program} {ρ : Operand → Value} {f : Operand} {args : Array Operand} {types : Array TypeId} {g : FuncId} {first captured : Array Value} {fn : Func}
    (ho : o.op = .call ⟨.value f, args, types⟩) (hf : ρ f = .func (.func g) first captured) (h1 : P.funcs[g]? = some fn) (h2 : fn.body.isNone = false) (h3 : (fn.name == "runtime.NumGoroutine") = false) :
    (execOp ρ o).run P w = .ok (.enter g (first ++ args.map ρ ++ captured)) w := by
  have h3' : ¬ fn.name = "runtime.NumGoroutine" := by simpa using h3
  have h2' : ¬ fn.body = none := fun e => by rw [e] at h2; cases h2
  simp [execOp, ho, resolve, hf, Deferred.ofValue, invoke, callFunc, h1, h2', h3']

/-- A call, by its contract. -/
theorem wp_call (hs : SimG E G S a w) {f : Operand} {args : Array Operand} {types : Array TypeId} {g : FuncId} {first captured : Array Value} {xs : List AV} {R : Ret → Prop}
    (ho : o.op = .call ⟨.value f, args, types⟩) (hf : a.eval f = .func (.func g) first captured)
    (hr : (first ++ args.map a.eval ++ captured).toList.length = xs.length ∧ ∀ (i : Nat) (c : Value) (x : AV), (first ++ args.map a.eval ++ captured).toList[i]? = some c → xs[i]? = some x → Rep G.imm w c x)
    (hc : CallsTo E.C g xs R) {next : Act → World → Prop} {Q : Exit → Act → World → Prop}
    (hn : ∀ r v w', R r → Below w.heap.size w w' → RetOK G.imm w.heap.size w' v r → next (a.put o.dst v) w') : Owp E o a w next Q := by
  obtain ⟨⟨fn, h1, h2, h3⟩, hc⟩ := hc
  have hJ := hs.J
  have := hc G.imm w (first ++ args.map a.eval ++ captured).toList hJ.1 hJ.2 hs.immLt hr.1 hr.2
  refine ⟨fun f _ => Env.fence_fn f, ?_⟩
  rw [Oper.semAt_eq _ _ _ (fun c => by rw [ho]; simp), run_call ho hf h1 h2 h3, Oper.uponIn_enter]
  refine ⟨fun h => (by rw [Env.fence_depth] at h; cases h), callsIn_fence (Calls.mono this ?_)⟩
  rintro e w' ⟨v, r, rfl, hR, hok, hb⟩
  exact hn r v w' hR hb hok

/-- What a result leans on, by what stands behind the call. -/
theorem RetOK.plainF {G : Ghost} {B : Nat} {w' : World} {v : Value} {r : Ret} (h : RetOK G.imm B w' v r) : RepF { G with imm := fun b o => G.imm b o ∨ (B ≤ b ∧ b < w'.heap.size) } w' v r.plain := by
  have conv : ∀ {imm' : Nat → Nat → Prop} {x : AV}, (∀ b o, imm' b o → G.imm b o ∨ B ≤ b) → Rep imm' w' v x → Rep (fun b o => G.imm b o ∨ (B ≤ b ∧ b < w'.heap.size)) w' v x := fun h1 h2 =>
    h2.keep2 fun b o c hi hc => ⟨(h1 b o hi).imp id fun h => ⟨h, World.block_lt_of_cell? w' _ hc⟩, hc⟩
  cases r with
  | val x => exact .p _ _ (conv (fun b o h => h) h)
  | fresh T esz xs =>
    refine .p _ _ ?_
    obtain ⟨ad, c, rfl, h | ⟨b, off, cs, fr, -, -, -, -, -, -, h⟩⟩ := h
    · exact conv (fun b o h => h) h.2.2
    · exact conv (fun b o h => h.imp id fun h => h.1) h
  | vf x =>
    refine RepF.keep2 (G := bare (immOr G.imm B)) h (fun b o c hi hc => ⟨?_, hc⟩) (fun o b h => by cases h) (fun t r h => by cases h) (fun l k h => by cases h)
    exact hi.imp id fun h => ⟨h, World.block_lt_of_cell? w' _ hc⟩

/-- Where the callee's value is a function of the program. -/
theorem fn_inv {v : Value} {g : FuncId} {first captured : List AV} (h : RepF G w v (.p (.fn (.func g) first captured))) : ∃ fs cs : List Value, v = .func (.func g) fs.toArray cs.toArray ∧
    (fs.length = first.length ∧ ∀ (i : Nat) (c : Value) (x : AV), fs[i]? = some c → first[i]? = some x → Rep G.imm w c x) ∧
    (cs.length = captured.length ∧ ∀ (i : Nat) (c : Value) (x : AV), cs[i]? = some c → captured[i]? = some x → Rep G.imm w c x) := by
  cases h with
  | p v x h =>
    cases h with
    | fn f fs cs first captured h1 h2 h3 h4 => exact ⟨fs, cs, rfl, ⟨h1, h3⟩, ⟨h2, h4⟩⟩

theorem fnF_inv {v : Value} {g : FuncId} {first captured : List FV} (h : RepF G w v (.fn (.func g) first captured)) : ∃ fs cs : List Value, v = .func (.func g) fs.toArray cs.toArray ∧
    (fs.length = first.length ∧ ∀ (i : Nat) (c : Value) (x : FV), fs[i]? = some c → first[i]? = some x → RepF G w c x) ∧
    (cs.length = captured.length ∧ ∀ (i : Nat) (c : Value) (x : FV), cs[i]? = some c → captured[i]? = some x → RepF G w c x) := by
  cases h with
  | fn f fs cs first captured h1 h2 h3 h4 => exact ⟨fs, cs, rfl, ⟨h1, h3⟩, ⟨h2, h4⟩⟩

theorem appendF_rep {cs ds : List Value} {xs ys : List FV}
    (h : cs.length = xs.length ∧ ∀ (i : Nat) (c : Value) (x : FV), cs[i]? = some c → xs[i]? = some x → RepF G w c x)
    (h' : ds.length = ys.length ∧ ∀ (i : Nat) (c : Value) (x : FV), ds[i]? = some c → ys[i]? = some x → RepF G w c x) :
    (cs ++ ds).length = (xs ++ ys).length ∧ ∀ (i : Nat) (c : Value) (x : FV), (cs ++ ds)[i]? = some c → (xs ++ ys)[i]? = some x → RepF G w c x := by
  refine ⟨by simp [h.1, h'.1], fun i c x hc hx => ?_⟩
  rw [List.getElem?_append] at hc hx
  by_cases hi : i < cs.length
  · rw [if_pos hi] at hc
    rw [if_pos (by omega)] at hx
    exact h.2 i c x hc hx
  · rw [if_neg hi] at hc
    rw [if_neg (by omega)] at hx
    rw [← h.1] at hx
    exact h'.2 _ c x hc hx

/-- What stands at the call, whichever way the function's value is known. -/
theorem call_args (hs : SimG E G S a w) {f : Operand} {args : Array Operand} {types : Array TypeId} (ho : o.op = .call ⟨.value f, args, types⟩) {KK : FuncId → List AV → Prop}
    (h : match S.val f with
      | .p (.fn (.func g) first captured) => match FV.toAVs (args.toList.map S.val) with
        | some xs => KK g (first ++ xs ++ captured)
        | none => False
      | .fn (.func g) first captured => match FV.toAVs (first ++ args.toList.map S.val ++ captured) with
        | some xs => KK g xs
        | none => False
      | _ => False) :
    ∃ g first captured xs, a.eval f = .func (.func g) first captured ∧ KK g xs ∧
      ((first ++ args.map a.eval ++ captured).toList.length = xs.length ∧ ∀ (i : Nat) (c : Value) (x : AV), (first ++ args.map a.eval ++ captured).toList[i]? = some c → xs[i]? = some x → Rep G.imm w c x) := by
  have hf := RepF.val hs f
  generalize S.val f = vf at h hf
  split at h
  · split at h
    · rename_i xs hxs
      obtain ⟨fs, cs, hv, h1, h2⟩ := fn_inv hf
      refine ⟨_, fs.toArray, cs.toArray, _, hv, h, ?_⟩
      have h3 := append_rep (append_rep h1 (toAVs_rep (vals_rep hs args.toList) hxs)) h2
      simpa using h3
    · exact h.elim
  · split at h
    · rename_i xs hxs
      obtain ⟨fs, cs, hv, h1, h2⟩ := fnF_inv hf
      refine ⟨_, fs.toArray, cs.toArray, _, hv, h, ?_⟩
      have h3 := toAVs_rep (appendF_rep (appendF_rep h1 (vals_rep hs args.toList)) h2) hxs
      simpa using h3
    · exact h.elim
  · exact h.elim

theorem wp_callV (hs : SimG E G S a w) {f : Operand} {args : Array Operand} {types : Array TypeId} (ho : o.op = .call ⟨.value f, args, types⟩) {K : FV → Prop}
    (h : evCallV E.C (S.val f) (args.toList.map S.val) K) {next : Act → World → Prop} {Q : Exit → Act → World → Prop}
    (hn : ∀ x v G' w', K x → SimG E G' S a w' → RepF G' w' v x → next (a.put o.dst v) w') : Owp E o a w next Q := by
  obtain ⟨g, first, captured, xs, hv, ⟨R, hc, hk⟩, hr⟩ := call_args hs ho (KK := fun g xs => ∃ R, CallsTo E.C g xs R ∧ ∀ r, R r → K r.plain) (by
    unfold evCallV at h
    exact h)
  refine wp_call hs ho hv hr hc fun r v w' hR hb hok => ?_
  exact hn _ v _ w' (hk r hR) (hs.ext hb) hok.plainF

/-- **Every operation that only leaves a value.** -/
theorem evVal_sound (hs : SimG E G S a w) {K : FV → Prop} (h : evVal E.C S o.op K) {next : Act → World → Prop} {Q : Exit → Act → World → Prop}
    (hn : ∀ x v G' w', K x → SimG E G' S a w' → RepF G' w' v x → next (a.put o.dst v) w') : Owp E o a w next Q := by
  cases hop : o.op with
  | move x => rw [hop] at h; simp only [evVal, force_eq] at h; exact wp_of_yields hs (Yields.same (by simp [execOp, hop]) h (RepF.val hs x)) hn
  | assign x => rw [hop] at h; simp only [evVal, force_eq] at h; exact wp_of_yields hs (Yields.same (by simp [execOp, hop]) h (RepF.val hs x)) hn
  | pick c x y => rw [hop] at h; exact wp_of_yields hs (yields_pick hs hop h) hn
  | binOp op t x y yt =>
    rw [hop] at h
    simp only [evVal] at h
    split at h
    · rename_i hy
      exact wp_of_yields hs (yields_nili hs hop hy h) hn
    · exact wp_of_yields hs (yields_bin hs hop h) hn
  | unOp op t x => rw [hop] at h; exact wp_of_yields hs (yields_unOp hs hop h) hn
  | convert src dst x => rw [hop] at h; exact wp_of_yields hs (yields_convert hs hop h) hn
  | makeInterface t x => rw [hop] at h; exact wp_of_yields hs (yields_makeInterface hs hop h) hn
  | makeFunc fn first captured => rw [hop] at h; simp only [evVal, forceL_eq] at h; exact wp_of_yields hs (yields_makeFunc hs hop h) hn
  | build t parts => rw [hop] at h; exact wp_of_yields hs (yields_build hs hop h) hn
  | buildSlice t len parts => rw [hop] at h; exact wp_of_yields hs (yields_buildSlice hs hop h) hn
  | load t x => rw [hop] at h; exact wp_of_yields hs (yields_load hs hop h) hn
  | nilCheck x => rw [hop] at h; exact wp_of_yields hs (yields_nilCheck hs hop h) hn
  | fieldAddr s x f => rw [hop] at h; exact wp_of_yields hs (yields_fieldAddr hs hop h) hn
  | field s x f => rw [hop] at h; exact wp_of_yields hs (yields_field hs hop h) hn
  | indexAddr t x i => rw [hop] at h; exact wp_of_yields hs (yields_indexAddr hs hop h) hn
  | index t x i => rw [hop] at h; exact wp_of_yields hs (yields_index hs hop h) hn
  | slice t x lo hi mx =>
    rw [hop] at h
    cases mx with
    | none => exact wp_of_yields hs (yields_slice hs hop h) hn
    | some m => exact h.elim
  | extract x i => rw [hop] at h; exact wp_of_yields hs (yields_extract hs hop h) hn
  | call c =>
    rw [hop] at h
    obtain ⟨callee, args, types⟩ := c
    cases callee with
    | value f => exact wp_callV hs hop h hn
    | invoke r m => exact h.elim
    | builtin b => exact wp_of_yields hs (yields_builtin hs hop h) hn
  | _ => rw [hop] at h; exact h.elim

end
end Qv
end

section
/- The operations that change memory of the call's own: new objects, stores, append, and calls whose result has room behind its end. No condition. -/
set_option linter.unusedSimpArgs false
set_option linter.unusedVariables false
namespace Qv
open Go Go.RowKit

section
variable {E : Env} {G : Ghost} {S : AState} {a : Act} {w : World} {o : Oper}

theorem getObj_del {d o : Nat} {cells : List FV} : ∀ {l : List (Nat × List FV)}, Qv.getObj (delObj d l) o = some cells → o ≠ d ∧ ∃ cs, Qv.getObj l o = some cs ∧ cells = FV.killL d cs := by
  intro l
  induction l with
  | nil => intro h; cases h
  | cons p l ih =>
    obtain ⟨u, i⟩ := p
    intro h
    simp only [delObj] at h
    split at h
    · rename_i hb
      obtain rfl := Nat.eq_of_beq_eq_true hb
      obtain ⟨h1, cs, h2, h3⟩ := ih h
      refine ⟨h1, cs, ?_, h3⟩
      simp only [Qv.getObj]
      have : Nat.beq u o = false := by
        cases hb : Nat.beq u o
        · rfl
        · exact absurd (Nat.eq_of_beq_eq_true hb).symm h1
      rw [this]; exact h2
    · rename_i hb
      simp only [Qv.getObj] at h ⊢
      split at h
      · rename_i hb2
        obtain rfl := Nat.eq_of_beq_eq_true hb2
        obtain rfl := Option.some.inj h
        exact ⟨Nat.ne_of_beq_eq_false hb, i, rfl, rfl⟩
      · rename_i hb2
        exact ih h

/-- The name d is free after this. -/
def Ghost.free (G : Ghost) (d : Nat) : Ghost := { G with loc := fun o => if o = d then none else G.loc o, tail := fun t => if t = d then none else G.tail t, row := fun o => if o = d then none else G.row o }

theorem getB_del {d o : Nat} {bs : List UInt8} : ∀ {l : List (Nat × List UInt8)}, getB (delB d l) o = some bs → o ≠ d ∧ getB l o = some bs := by
  intro l
  induction l with
  | nil => intro h; cases h
  | cons p l ih =>
    obtain ⟨u, i⟩ := p
    intro h
    simp only [delB] at h
    split at h
    · rename_i hb
      obtain rfl := Nat.eq_of_beq_eq_true hb
      obtain ⟨h1, h2⟩ := ih h
      refine ⟨h1, ?_⟩
      simp only [getB]
      have : Nat.beq u o = false := by
        cases hb : Nat.beq u o
        · rfl
        · exact absurd (Nat.eq_of_beq_eq_true hb).symm h1
      rw [this]; exact h2
    · rename_i hb
      simp only [getB] at h ⊢
      split at h
      · rename_i hb2
        obtain rfl := Nat.eq_of_beq_eq_true hb2
        exact ⟨Nat.ne_of_beq_eq_false hb, h⟩
      · rename_i hb2
        exact ih h

theorem getObj_del_none {d o : Nat} {l : List (Nat × List FV)} (h : Qv.getObj l o = none) : Qv.getObj (delObj d l) o = none := by
  cases h' : Qv.getObj (delObj d l) o with
  | none => rfl
  | some cs =>
    obtain ⟨-, cs', h2, -⟩ := getObj_del h'
    rw [h] at h2
    cases h2

theorem getB_del_none {d o : Nat} {l : List (Nat × List UInt8)} (h : getB l o = none) : getB (delB d l) o = none := by
  cases h' : getB (delB d l) o with
  | none => rfl
  | some cs =>
    obtain ⟨-, h2⟩ := getB_del h'
    rw [h] at h2
    cases h2

/-- What an object's own room says of the state. -/
def TailOK (S : AState) (o t s : Nat) : Prop := t = o ∧ getB S.blds o = none ∧ ∀ cells, Qv.getObj S.objs o = some cells → cells.length = s

theorem TailOK.mono {S S' : AState} {o t s : Nat} (h : TailOK S o t s) (hb : ∀ bs, getB S'.blds o = some bs → ∃ bs, getB S.blds o = some bs)
    (ho : ∀ cells, Qv.getObj S'.objs o = some cells → ∃ cs, Qv.getObj S.objs o = some cs ∧ cells.length = cs.length) : TailOK S' o t s := by
  obtain ⟨h1, h2, h3⟩ := h
  refine ⟨h1, ?_, fun cells hc => ?_⟩
  · cases hq : getB S'.blds o with
    | none => rfl
    | some bs => obtain ⟨bs', hb'⟩ := hb bs hq; rw [h2] at hb'; cases hb'
  · obtain ⟨cs, h4, h5⟩ := ho cells hc
    rw [h5]; exact h3 cs h4

theorem TailOK.kill {S : AState} {o t s : Nat} (h : TailOK S o t s) (d : Nat) : TailOK (S.kill d) o t s :=
  h.mono (fun bs q => ⟨bs, (getB_del q).2⟩) fun cells q => by
    obtain ⟨-, cs, h1, rfl⟩ := getObj_del q
    exact ⟨cs, h1, by rw [FV.killL_eq, List.length_map]⟩

theorem SimG.kill' (hs : SimG E G S a w) (d : Nat) {G' : Ghost} (hi : G'.imm = G.imm)
    (hl : ∀ o b, o ≠ d → G.loc o = some b → G'.loc o = some b) (ht : ∀ t r, t ≠ d → G.tail t = some r → G'.tail t = some r)
    (hl' : ∀ o b, G'.loc o = some b → G.loc o = some b) (ht' : ∀ t r, G'.tail t = some r → G.tail t = some r) (hrw : ∀ o, o ≠ d → G'.row o = G.row o) (hrw' : ∀ o r, G'.row o = some r → G.row o = some r)
    (hy : ∀ l k, l ≠ d → G.yl l = some k → G'.yl l = some k := by intro _ _ _ h; exact h) (hy' : ∀ l k, G'.yl l = some k → G.yl l = some k := by intro _ _ h; exact h) : SimG E G' (S.kill d) a w := by
  refine ⟨hs.kept, hs.size, hs.ext'.move (FV.kill d) rfl rfl rfl (fun v x h => h.kill d hi hl ht hy) (.refl _) hy', ?_, hi ▸ hs.immB, hi ▸ hs.immLt, fun i hi' => (hs.tmps i hi').kill d hi hl ht hy, fun o cells ho => ?_, fun o b ho => hi ▸ hs.locs o b (hl' o b ho), fun o o' b h h' => hs.locInj o o' b (hl' _ _ h) (hl' _ _ h'), fun o t b r h h' => TailOK.kill (hs.locTail o t b r (hl' _ _ h) (ht' _ _ h')) d, fun t b s e T h => hi ▸ hs.tails t b s e T (ht' _ _ h), fun t t' b r r' h h' => hs.tailInj t t' b r r' (ht' _ _ h) (ht' _ _ h')⟩
  · refine hs.bld.keep rfl rfl (fun o bs q => ?_) (fun o _ _ q => getObj_del_none q) hrw' (Nat.le_refl _) (fun _ _ _ _ _ _ => rfl) (fun _ _ _ => rfl) (fun _ _ _ _ q => hi ▸ q) (fun _ _ _ _ q => hl' _ _ q) (fun _ _ t q _ e => ⟨t, q, ht' _ _ e⟩)
    obtain ⟨q1, q2⟩ := getB_del q
    obtain ⟨-, b, q3, -⟩ := hs.bld.at_ o bs q2
    exact ⟨q2, by rw [q3]; exact hl o b q1 q3, hrw o q1⟩
  obtain ⟨h1, cs, h2, rfl⟩ := getObj_del ho
  obtain ⟨b, h3, h4⟩ := hs.objs o cs h2
  refine ⟨b, hl o b h1 h3, fun i x hx => ?_⟩
  rw [FV.killL_eq, List.getElem?_map] at hx
  cases hc : cs[i]? with
  | none => simp [hc] at hx
  | some y =>
    simp [hc] at hx
    subst hx
    obtain ⟨c, h5, h6⟩ := h4 i y hc
    exact ⟨c, h5, h6.kill d hi hl ht hy⟩

theorem SimG.kill (hs : SimG E G S a w) (d : Nat) : SimG E (G.free d) (S.kill d) a w :=
  hs.kill' d rfl (fun o b h h' => by simp only [Ghost.free]; rw [if_neg h]; exact h') (fun t r h h' => by simp only [Ghost.free]; rw [if_neg h]; exact h')
    (fun o b h => by simp only [Ghost.free] at h; split at h; cases h; exact h) (fun t r h => by simp only [Ghost.free] at h; split at h; cases h; exact h)
    (fun o h => by simp only [Ghost.free]; rw [if_neg h]) (fun o r h => by simp only [Ghost.free] at h; split at h; cases h; exact h)

/-! ### A new object -/

theorem repL_keep {G' : Ghost} {w' : World} {cs : List Value} {xs : List FV} (h : RepL G w cs xs) (hk : ∀ v x, RepF G w v x → RepF G' w' v x) : RepL G' w' cs xs :=
  ⟨h.1, fun i c x h1 h2 => hk _ _ (h.2 i c x h1 h2)⟩

theorem newObj_base (hs : SimG E G S a w) (d : Nat) (cs : List Value) (xs : List FV) (t : TypeId) (hr : ∀ (i : Nat) (x : FV), xs[i]? = some x → ∃ c, cs[i]? = some c ∧ RepF G w c x) :
    ∃ G', SimG E G' { S.kill d with objs := (d, FV.killL d xs) :: delObj d S.objs } a (w.alloc (.cells cs.toArray t)) ∧ G'.loc d = some w.heap.size ∧ G'.row d = none ∧ G'.tail d = none ∧ (∀ t r, G'.tail t ≠ some (w.heap.size, r)) ∧
      (∀ o, o ≠ d → G'.loc o ≠ some w.heap.size) ∧ (∀ o, G'.row o ≠ some w.heap.size) ∧ (∀ i, ¬ G'.imm w.heap.size i) := by
  have hb : Below w.heap.size w (w.alloc (.cells cs.toArray t)) := (Below.refl _ _).alloc (Nat.le_refl _) _
  have h1 := (hs.extN hb fun _ _ => False).kill d
  have keep : ∀ v x, RepF G w v x → RepF (Ghost.free { G with imm := fun b o => G.imm b o ∨ (w.heap.size ≤ b ∧ b < (w.alloc (.cells cs.toArray t)).heap.size ∧ False) } d) (w.alloc (.cells cs.toArray t)) v (x.kill d) := fun v x hv => by
    refine RepF.kill (G := { G with imm := fun b o => G.imm b o ∨ (w.heap.size ≤ b ∧ b < (w.alloc (.cells cs.toArray t)).heap.size ∧ False) }) d ?_ rfl (fun o b h h' => by simp only [Ghost.free]; rw [if_neg h]; exact h') (fun t r h h' => by simp only [Ghost.free]; rw [if_neg h]; exact h')
    exact hv.keep (fun b o h => .inl h) (fun b o c hi hc => by rw [World.cell?_alloc_lt _ _ _ (hs.immLt b o hi)]; exact hc) (fun _ _ h => h) (fun _ _ h => h)
  have hlt : ∀ o b, (if o = d then none else G.loc o) = some b → b < w.heap.size := fun o b h => by
    split at h
    · cases h
    · exact (hs.locs o b h).1
  have htl : ∀ t b r, (if t = d then none else G.tail t) = some (b, r) → b < w.heap.size := fun t b r h => by
    split at h
    · cases h
    · obtain ⟨s, e, T⟩ := r
      exact (hs.tails t b s e T h).1
  -- the ghost with the new object
  let G2 : Ghost := { imm := fun b o => G.imm b o ∨ (w.heap.size ≤ b ∧ b < (w.alloc (.cells cs.toArray t)).heap.size ∧ False), loc := fun o => if o = d then some w.heap.size else G.loc o, tail := fun t => if t = d then none else G.tail t, yl := G.yl, row := fun o => if o = d then none else G.row o }
  have up : ∀ {W : World} {v : Value} {x : FV}, RepF (Ghost.free { G with imm := fun b o => G.imm b o ∨ (w.heap.size ≤ b ∧ b < (w.alloc (.cells cs.toArray t)).heap.size ∧ False) } d) W v x → RepF G2 W v x := fun h =>
    h.keep (fun _ _ h => h) (fun _ _ _ _ h => h) (fun o b h => by
      simp only [Ghost.free] at h
      simp only [G2]
      split at h
      · cases h
      · rename_i hne; rw [if_neg hne]; exact h) (fun _ _ h => h)
  have hnew : ∀ b i, G.imm b i ∨ (w.heap.size ≤ b ∧ b < (w.alloc (.cells cs.toArray t)).heap.size ∧ False) → b ≠ w.heap.size := fun b i h e => by
    rcases h with h | ⟨_, _, h⟩
    · have := hs.immLt b i h; omega
    · exact h
  have hsz : (w.alloc (.cells cs.toArray t)).heap.size = w.heap.size + 1 := World.size_alloc w _
  have base : SimG E G2 { S.kill d with objs := (d, FV.killL d xs) :: delObj d S.objs } a (w.alloc (.cells cs.toArray t)) := by
    refine ⟨h1.kept, h1.size, h1.ext'.keep rfl rfl rfl (fun v x h => up h) (.refl _), ?_, h1.immB, h1.immLt, fun i hi => up (h1.tmps i hi), fun o cells ho => ?_, fun o b ho => ?_, fun o o' b h h' => ?_, fun o t b r h h' => ?_, fun t b s e T h => h1.tails t b s e T h, h1.tailInj⟩
    · refine h1.bld.keep rfl rfl (fun o bs q => ?_) (fun o bs q0 q => ?_) (fun _ _ e => e) (Nat.le_refl _) (fun _ _ _ _ _ _ => rfl) (fun _ _ _ => rfl) (fun _ _ _ _ e => e) (fun o r o' e q => ?_) (fun _ _ t q _ e => ⟨t, q, e⟩)
      · obtain ⟨q1, q2⟩ := getB_del (l := S.blds) q
        refine ⟨q, ?_, rfl⟩
        simp only [G2, Ghost.free]
        rw [if_neg q1, if_neg q1]
      · simp only [Qv.getObj]
        split
        · rename_i hbq
          obtain rfl := Nat.eq_of_beq_eq_true hbq
          exact absurd rfl (getB_del (l := S.blds) q0).1
        · exact q
      · simp only [G2] at q
        split at q
        · have := (h1.bld.row o r e).2.1
          have hlt := (hs.bld.row o r (by simp only [Ghost.free] at e; split at e; cases e; exact e)).2.1
          obtain rfl := Option.some.inj q
          omega
        · rename_i hne
          simp only [Ghost.free]
          rw [if_neg hne]; exact q
    · simp only [Qv.getObj] at ho
      split at ho
      · rename_i hbq
        obtain rfl := Nat.eq_of_beq_eq_true hbq
        obtain rfl := Option.some.inj ho
        refine ⟨w.heap.size, by simp [G2], fun i x hx => ?_⟩
        rw [FV.killL_eq, List.getElem?_map] at hx
        cases hy : xs[i]? with
        | none => simp [hy] at hx
        | some y =>
          simp [hy] at hx
          subst hx
          obtain ⟨c, hc1, hc2⟩ := hr i y hy
          refine ⟨c, ?_, up (keep _ _ hc2)⟩
          rw [World.cell?_alloc_new]
          simpa using hc1
      · rename_i hbq
        have hne : o ≠ d := fun e => by rw [e] at hbq; simp at hbq
        obtain ⟨b, h2, h3⟩ := h1.objs o cells ho
        refine ⟨b, ?_, fun i x hx => let ⟨c, h4, h5⟩ := h3 i x hx; ⟨c, h4, up h5⟩⟩
        simp only [Ghost.free] at h2
        simp only [G2]
        rw [if_neg hne] at h2 ⊢
        exact h2
    · simp only [G2] at ho
      split at ho
      · obtain rfl := Option.some.inj ho
        refine ⟨by rw [hsz]; omega, hs.kept.size, fun i => ⟨fun h => hnew _ _ h rfl, ?_⟩⟩
        exact World.frozen?_alloc_new w _ _ i
      · rename_i hne
        exact h1.locs o b (by simp only [Ghost.free]; rw [if_neg hne]; exact ho)
    · simp only [G2] at h h'
      split at h <;> split at h'
      · rename_i e1 e2; rw [e1, e2]
      · rename_i hne
        obtain rfl := Option.some.inj h
        have := hlt o' _ (by rw [if_neg hne]; exact h'); omega
      · rename_i hne _
        obtain rfl := Option.some.inj h'
        have := hlt o _ (by rw [if_neg hne]; exact h); omega
      · rename_i h2 h3
        exact h1.locInj o o' b (by simp only [Ghost.free]; rw [if_neg h2]; exact h) (by simp only [Ghost.free]; rw [if_neg h3]; exact h')
    · simp only [G2] at h h'
      split at h
      · obtain rfl := Option.some.inj h
        have := htl t _ _ h'; omega
      · rename_i hne
        exact TailOK.mono (h1.locTail o t b r (by simp only [Ghost.free]; rw [if_neg hne]; exact h) h') (fun bs q => ⟨bs, q⟩) fun cells q => by
          simp only [Qv.getObj] at q
          split at q
          · rename_i hbq; exact absurd (Nat.eq_of_beq_eq_true hbq).symm hne
          · exact ⟨cells, q, rfl⟩
  refine ⟨G2, base, by simp [G2], by simp [G2], by simp [G2], fun t r h => ?_, fun o hne h => ?_, fun o h => ?_, fun i h => hnew _ _ h rfl⟩
  · have := htl t _ _ h; omega
  · simp only [G2] at h
    rw [if_neg hne] at h
    have := (hs.locs o _ h).1
    omega
  · simp only [G2] at h
    split at h
    · cases h
    · have := (hs.bld.row o _ h).2.1
      omega

theorem newObj_sound (hs : SimG E G S a w) (q : Nat) (cs : List Value) (xs : List FV) (t : TypeId) (hr : RepL G w cs xs) :
    ∃ G', SimG E G' (newObj S q xs) (a.put (some q) (.pointer (some ⟨w.heap.size, 0, none⟩))) (w.alloc (.cells cs.toArray t)) ∧ G'.loc (S.off + q) = some w.heap.size ∧ G'.row (S.off + q) = none ∧ ∀ t r, G'.tail t ≠ some (w.heap.size, r) := by
  obtain ⟨G', h1, h2, h3, -, h5, -⟩ := newObj_base hs (S.off + q) cs xs t fun i x hx => by
    have hl : i < cs.length := by rw [hr.1]; exact (List.getElem?_eq_some_iff.1 hx).1
    exact ⟨cs[i], List.getElem?_eq_getElem hl, hr.2 i _ x (List.getElem?_eq_getElem hl) hx⟩
  exact ⟨G', h1.put (some q) (v := .pointer (some ⟨w.heap.size, 0, none⟩)) (x := .ptr (S.off + q) 0) (.ptr _ 0 _ h2), h2, h3, h5⟩

/-! ### String builders -/

/-- An object whose cells are those of a builder without bytes becomes a builder. -/
theorem SimG.toBld {d b : Nat} {cells : List FV} {rest : List (Nat × List FV)} (hs : SimG E G S a w) (ho : S.objs = (d, cells) :: delObj d rest) (hl : G.loc d = some b) (hr : G.row d = none) (htd : ∀ t r, G.tail t ≠ some (b, r))
    (hw : w.heap[b]? = some (.cells #[.pointer none, .slice none 0 0] E.C.bT (0, 0))) : SimG E G { S with objs := delObj d rest, blds := (d, []) :: S.blds } a w := by
  have hout : ∀ o, o ≠ d → Qv.getObj S.objs o = Qv.getObj (delObj d rest) o := fun o hne => by
    rw [ho]
    simp only [Qv.getObj]
    split
    · rename_i hbq; exact absurd (Nat.eq_of_beq_eq_true hbq).symm hne
    · rfl
  have hd : Qv.getObj (delObj d rest) d = none := by
    cases h' : Qv.getObj (delObj d rest) d with
    | none => rfl
    | some cs => exact absurd rfl (getObj_del h').1
  refine ⟨hs.kept, hs.size, hs.ext'.keep rfl rfl rfl (fun _ _ h => h) (.refl _), ⟨fun o bs q => ?_, hs.bld.row, hs.bld.rowC⟩, hs.immB, hs.immLt, hs.tmps, fun o cs q => ?_, hs.locs, hs.locInj, fun o t b' r q1 q2 => ?_, hs.tails, hs.tailInj⟩
  · simp only [getB] at q
    split at q
    · rename_i hbq
      obtain rfl := Nat.eq_of_beq_eq_true hbq
      obtain rfl := Option.some.inj q
      refine ⟨hd, b, hl, ?_⟩
      rw [hr]
      exact ⟨none, .slice none 0 0, .inl rfl, hw, rfl, rfl⟩
    · rename_i hbq
      obtain ⟨q1, q2⟩ := hs.bld.at_ o bs q
      rw [hout o (Ne.symm (Nat.ne_of_beq_eq_false hbq))] at q1
      exact ⟨q1, q2⟩
  · refine hs.objs o cs ?_
    by_cases hne : o = d
    · subst hne
      rw [hd] at q; cases q
    · rw [hout o hne]; exact q
  · have hne : o ≠ d := fun e => by
      subst e
      rw [hl] at q1
      obtain rfl := Option.some.inj q1
      exact htd _ _ q2
    refine TailOK.mono (hs.locTail o t b' r q1 q2) (fun bs q => ?_) fun cells q => ⟨cells, by rw [hout o hne]; exact q, rfl⟩
    simp only [getB] at q
    split at q
    · rename_i hbq; exact absurd (Nat.eq_of_beq_eq_true hbq).symm hne
    · exact ⟨bs, q⟩

/-- A builder's method. -/
theorem SimG.bldStep {o b : Nat} {bs : List UInt8} {row' : Option Nat} {blds' : List (Nat × List UInt8)} {w' : World} (hs : SimG E G S a w) (ho : getB S.blds o = some bs) (hl : G.loc o = some b)
    (hfz : ∃ p v, w'.heap[b]? = some (.cells #[p, v] E.C.bT (0, 0))) (hrow : row' = G.row o ∨ row' = none ∨ ∃ x, row' = some x ∧ w.heap.size ≤ x ∧ x < w'.heap.size) (hrowC : ∀ r, row' = some r → ∃ cs T fr, w'.heap[r]? = some (.cells cs T fr))
    (hos : w'.os = w.os) (htape : w'.tape = w.tape) (hout : w'.output = w.output) (hsz : w.heap.size ≤ w'.heap.size) (hblk : ∀ k, k < w.heap.size → k ≠ b → G.row o ≠ some k → w'.heap[k]? = w.heap[k]?)
    (hbl : ∀ q bs', getB blds' q = some bs' → (q = o ∧ BldAt E.C w' b row' bs') ∨ (q ≠ o ∧ getB S.blds q = some bs')) :
    SimG E { G with row := fun q => if q = o then row' else G.row q } { S with blds := blds' } a w' ∧ ∀ v x, RepF G w v x → RepF { G with row := fun q => if q = o then row' else G.row q } w' v x := by
  obtain ⟨hobj, b0, hl0, hat⟩ := hs.bld.at_ o bs ho
  rw [hl] at hl0
  obtain rfl := Option.some.inj hl0
  obtain ⟨l1, l2, l3⟩ := hs.locs o b hl
  -- the blocks of the rest
  have himm : ∀ k i, G.imm k i → w'.heap[k]? = w.heap[k]? := fun k i h => hblk k (hs.immLt k i h) (fun e => (l3 i).1 (e ▸ h)) (fun e => (hs.bld.row o k e).2.2.1 i h)
  have hloc : ∀ q k, q ≠ o → G.loc q = some k → w'.heap[k]? = w.heap[k]? := fun q k hne h => hblk k (hs.locs q k h).1 (fun e => hne (hs.locInj q o k h (e ▸ hl))) (fun e => (hs.bld.row o k e).2.2.2.1 q h)
  have htail : ∀ t k r, G.tail t = some (k, r) → w'.heap[k]? = w.heap[k]? := fun t k r h => hblk k (hs.tails t k r.1 r.2.1 r.2.2 h).1 (fun e => by have := (hs.locTail o t b r hl (e ▸ h)).2.1; rw [ho] at this; cases this) (fun e => (hs.bld.row o k e).2.2.2.2.1 t r h)
  have hrows : ∀ q k, q ≠ o → G.row q = some k → w'.heap[k]? = w.heap[k]? := fun q k hne h => hblk k (hs.bld.row q k h).2.1 (fun e => (hs.bld.row q k h).2.2.2.1 o (e ▸ hl)) (fun e => hne ((hs.bld.row o k e).2.2.2.2.2 q h))
  have cell : ∀ k i, w'.heap[k]? = w.heap[k]? → w'.cell? ⟨k, i, none⟩ = w.cell? ⟨k, i, none⟩ := fun k i h => by unfold World.cell?; simp only [h]
  have froz : ∀ k i, w'.heap[k]? = w.heap[k]? → w'.frozen? ⟨k, i, none⟩ = w.frozen? ⟨k, i, none⟩ := fun k i h => by unfold World.frozen?; simp only [h]
  have keep : ∀ v x, RepF G w v x → RepF { G with row := fun q => if q = o then row' else G.row q } w' v x := fun v x h =>
    h.keep (fun _ _ h => h) (fun k i c hi hc => by rw [cell k i (himm k i hi)]; exact hc) (fun _ _ h => h) (fun _ _ h => h)
  have others : Others w w' := fun k ob hk hc => by
    rw [hblk k (Array.getElem?_eq_some_iff.1 hk).1 (fun e => ?_) (fun e => ?_)]
    · exact hk
    · subst e
      obtain ⟨p, v, -, h2, -⟩ := hat
      rw [h2] at hk
      obtain rfl := Option.some.inj hk
      simp [Obj.isCells] at hc
    · obtain ⟨p, v, -, -, h3⟩ := hat
      rw [e] at h3
      obtain ⟨-, cap, cur, -, h4, -⟩ := h3
      rw [h4] at hk
      obtain rfl := Option.some.inj hk
      simp [Obj.isCells] at hc
  refine ⟨⟨⟨hos.trans hs.kept.os, htape.trans hs.kept.tape, hout.trans hs.kept.output, Nat.le_trans hs.kept.size hsz, fun k hk => ?_⟩, hs.size, hs.ext'.keep rfl rfl rfl keep others, ⟨fun q bs' hq => ?_, fun q r hq => ?_, fun q r hq => ?_⟩, hs.immB, fun k i h => Nat.lt_of_lt_of_le (hs.immLt k i h) hsz, fun i hi => keep _ _ (hs.tmps i hi), fun q cs hq => ?_, fun q k hq => ?_, hs.locInj, fun q t k r q1 q2 => ?_, fun t k s e T h => ?_, hs.tailInj⟩, keep⟩
  · rw [hblk k (Nat.lt_of_lt_of_le hk hs.kept.size) (fun e => by omega) (fun e => by have := (hs.bld.row o k e).1; omega)]
    exact hs.kept.block k hk
  · rcases hbl q bs' hq with ⟨rfl, h⟩ | ⟨hne, h⟩
    · exact ⟨hobj, b, hl, by simpa using h⟩
    · obtain ⟨h1, k, h2, h3⟩ := hs.bld.at_ q bs' h
      refine ⟨h1, k, h2, ?_⟩
      simp only [if_neg hne]
      exact h3.keep (hloc q k hne h2) (fun r e => hrows q r hne e)
  · simp only at hq
    have old : ∀ q r, G.row q = some r → (q = o ∨ q ≠ o) → E.w0.heap.size ≤ r ∧ r < w'.heap.size ∧ (∀ i, ¬ G.imm r i) ∧ (∀ o', G.loc o' ≠ some r) ∧ (∀ t q, G.tail t ≠ some (r, q)) := fun q r h _ => by
      obtain ⟨h1, h2, h3, h4, h5, -⟩ := hs.bld.row q r h
      exact ⟨h1, Nat.lt_of_lt_of_le h2 hsz, h3, h4, h5⟩
    by_cases hqo : q = o
    · subst hqo
      rw [if_pos rfl] at hq
      rcases hrow with h | h | ⟨x, h, hx, hx'⟩
      · obtain ⟨h1, h2, h3, h4, h5⟩ := old q r (h ▸ hq) (.inl rfl)
        refine ⟨h1, h2, h3, h4, h5, fun o' ho' => ?_⟩
        simp only at ho'
        split at ho'
        · assumption
        · exact (hs.bld.row q r (h ▸ hq)).2.2.2.2.2 o' ho'
      · rw [h] at hq; cases hq
      · rw [h] at hq
        obtain rfl := Option.some.inj hq
        refine ⟨Nat.le_trans hs.kept.size hx, hx', fun i hi => by have := hs.immLt x i hi; omega, fun o' e => by have := (hs.locs o' x e).1; omega, fun t q e => by have := (hs.tails t x q.1 q.2.1 q.2.2 e).1; omega, fun o' ho' => ?_⟩
        simp only at ho'
        split at ho'
        · assumption
        · have := (hs.bld.row o' x ho').2.1; omega
    · rw [if_neg hqo] at hq
      obtain ⟨h1, h2, h3, h4, h5⟩ := old q r hq (.inr hqo)
      refine ⟨h1, h2, h3, h4, h5, fun o' ho' => ?_⟩
      simp only at ho'
      split at ho'
      · rename_i e
        rcases hrow with h | h | ⟨x, h, hx, hx'⟩
        · rw [e]; exact ((hs.bld.row q r hq).2.2.2.2.2 o (h ▸ ho'))
        · rw [h] at ho'; cases ho'
        · rw [h] at ho'
          obtain rfl := Option.some.inj ho'
          have := (hs.bld.row q x hq).2.1; omega
      · exact (hs.bld.row q r hq).2.2.2.2.2 o' ho'
  · simp only at hq
    split at hq
    · exact hrowC r hq
    · rename_i hne
      rw [hrows q r hne hq]
      exact hs.bld.rowC q r hq
  · obtain ⟨k, h1, h2⟩ := hs.objs q cs hq
    have hne : q ≠ o := fun e => by rw [e, hobj] at hq; cases hq
    exact ⟨k, h1, fun i x hx => let ⟨c, h3, h4⟩ := h2 i x hx; ⟨c, by rw [cell k i (hloc q k hne h1)]; exact h3, keep _ _ h4⟩⟩
  · obtain ⟨h1, h2, h3⟩ := hs.locs q k hq
    refine ⟨Nat.lt_of_lt_of_le h1 hsz, h2, fun i => ⟨(h3 i).1, ?_⟩⟩
    by_cases hne : q = o
    · subst hne
      rw [hl] at hq
      obtain rfl := Option.some.inj hq
      obtain ⟨p, v, hb⟩ := hfz
      simp [World.frozen?, hb]
    · rw [froz k i (hloc q k hne hq)]; exact (h3 i).2
  · have hq := hs.locTail q t k r q1 q2
    refine TailOK.mono hq (fun bs q3 => ?_) fun cells q3 => ⟨cells, q3, rfl⟩
    rcases hbl q bs q3 with ⟨rfl, -⟩ | ⟨-, h⟩
    · exact ⟨_, ho⟩
    · exact ⟨bs, h⟩
  · obtain ⟨h1, h2, ⟨cs, fr, h3⟩, h4⟩ := hs.tails t k s e T h
    have hk := htail t k _ h
    exact ⟨Nat.lt_of_lt_of_le h1 hsz, h2, ⟨cs, fr, hk.trans h3⟩, fun i hi hi' => let ⟨⟨c, h5⟩, h6, h7⟩ := h4 i hi hi'; ⟨⟨c, by rw [cell k i hk]; exact h5⟩, by rw [froz k i hk]; exact h6, h7⟩⟩

theorem getB_set {ob o : Nat} {c bs : List UInt8} : ∀ {l : List (Nat × List UInt8)}, getB (setB l ob c) o = some bs → (o = ob ∧ bs = c) ∨ (o ≠ ob ∧ getB l o = some bs) := by
  intro l
  induction l with
  | nil => intro h; cases h
  | cons p l ih =>
    obtain ⟨u, i⟩ := p
    intro h
    simp only [setB] at h
    split at h
    · rename_i hb
      obtain rfl := Nat.eq_of_beq_eq_true hb
      simp only [getB] at h ⊢
      split at h
      · rename_i hb2
        obtain rfl := Nat.eq_of_beq_eq_true hb2
        exact .inl ⟨rfl, (Option.some.inj h).symm⟩
      · rename_i hb2
        exact .inr ⟨Ne.symm (Nat.ne_of_beq_eq_false hb2), h⟩
    · rename_i hb
      simp only [getB] at h ⊢
      split at h
      · rename_i hb2
        obtain rfl := Nat.eq_of_beq_eq_true hb2
        exact .inr ⟨Nat.ne_of_beq_eq_false hb, h⟩
      · rename_i hb2
        rcases ih h with h | h
        · exact .inl h
        · exact .inr ⟨h.1, h.2⟩

/-! ### A store -/

theorem setCells_heap (b : Nat) : ∀ (vs : List Value) (i : Nat) (w : World) (k : Nat), k ≠ b → (w.setCells b i vs).heap[k]? = w.heap[k]?
  | [], _, _, _, _ => rfl
  | v :: r, i, w, k, h => by
    rw [World.setCells, setCells_heap b r _ _ k h]
    exact Below.heap_setCell _ _ _ _ h

theorem setCells_size (b : Nat) : ∀ (vs : List Value) (i : Nat) (w : World), (w.setCells b i vs).heap.size = w.heap.size
  | [], _, _ => rfl
  | v :: r, i, w => by rw [World.setCells, setCells_size b r]; simp

theorem setCells_rest (b : Nat) : ∀ (vs : List Value) (i : Nat) (w : World), (w.setCells b i vs).os = w.os ∧ (w.setCells b i vs).tape = w.tape ∧ (w.setCells b i vs).output = w.output
  | [], _, _ => ⟨rfl, rfl, rfl⟩
  | v :: r, i, w => by rw [World.setCells]; exact setCells_rest b r _ _

theorem Kept.setCells {w0 w : World} (h : Kept w0 w) {b : Nat} (hb : w0.heap.size ≤ b) (i : Nat) (vs : List Value) : Kept w0 (w.setCells b i vs) := by
  obtain ⟨h1, h2, h3⟩ := setCells_rest b vs i w
  refine ⟨h1.trans h.os, h2.trans h.tape, h3.trans h.output, by rw [setCells_size]; exact h.size, fun k hk => ?_⟩
  rw [setCells_heap b vs i w k (fun e => by omega)]
  exact h.block k hk

/-- What is no row of cells stands behind stores. -/
theorem Others.setCells (b : Nat) : ∀ (vs : List Value) (i : Nat) (w : World), Others w (w.setCells b i vs)
  | [], _, w => .refl w
  | v :: r, i, w => by
    rw [World.setCells]
    refine Others.trans (fun k o hk ho => ?_) (Others.setCells b r _ _)
    exact (KeepsOthers.setCell w _ v).same k o hk ho

/-- A row's type stands behind stores. -/
theorem setCells_type (b : Nat) : ∀ (vs : List Value) (i : Nat) (w : World) (k : Nat) (T : TypeId), (∃ cs fr, w.heap[k]? = some (.cells cs T fr)) → ∃ cs fr, (w.setCells b i vs).heap[k]? = some (.cells cs T fr)
  | [], _, _, _, _, h => h
  | v :: r, i, w, k, T, h => by
    rw [World.setCells]
    refine setCells_type b r _ _ k T ?_
    obtain ⟨cs, fr, h⟩ := h
    by_cases hk : k = b
    · subst hk
      simp only [World.setCell, Array.getElem?_modify, h]
      simp
    · exact ⟨cs, fr, by rw [Below.heap_setCell _ _ _ _ hk]; exact h⟩

theorem getObj_set {ob o : Nat} {cs cells : List FV} : ∀ {l : List (Nat × List FV)}, Qv.getObj (setObj l ob cs) o = some cells → (o = ob ∧ cells = cs) ∨ (o ≠ ob ∧ Qv.getObj l o = some cells) := by
  intro l
  induction l with
  | nil => intro h; cases h
  | cons p l ih =>
    obtain ⟨u, i⟩ := p
    intro h
    simp only [setObj] at h
    split at h
    · rename_i hb
      obtain rfl := Nat.eq_of_beq_eq_true hb
      simp only [Qv.getObj] at h ⊢
      split at h
      · rename_i hb2
        obtain rfl := Nat.eq_of_beq_eq_true hb2
        exact .inl ⟨rfl, (Option.some.inj h).symm⟩
      · rename_i hb2
        exact .inr ⟨Ne.symm (Nat.ne_of_beq_eq_false hb2), h⟩
    · rename_i hb
      simp only [Qv.getObj] at h ⊢
      split at h
      · rename_i hb2
        obtain rfl := Nat.eq_of_beq_eq_true hb2
        exact .inr ⟨Nat.ne_of_beq_eq_false hb, h⟩
      · rename_i hb2
        rcases ih h with h | h
        · exact .inl h
        · exact .inr ⟨h.1, h.2⟩

theorem store_sound (hs : SimG E G S a w) {ob off b : Nat} {cells zs : List FV} {x : FV} {v : Value} (hob : Qv.getObj S.objs ob = some cells) (hloc : G.loc ob = some b)
    (hv : RepF G w v x) (h1 : allOne x.cells = true) (hset : setRange cells off x.cells = some zs) :
    SimG E G { S with objs := setObj S.objs ob zs } a (w.setCells b off v.cells.toList) ∧
    (storeCells ⟨b, off, none⟩ v.cells.toList 0).run E.C.P w = .ok () (w.setCells b off v.cells.toList) := by
  obtain ⟨hcr, hco⟩ := cells_rep hv h1
  obtain ⟨g1, g2, g3⟩ := setRange_some hset
  obtain ⟨b', hb', hc⟩ := hs.objs ob cells hob
  obtain rfl : b' = b := by rw [hloc] at hb'; exact (Option.some.inj hb').symm
  obtain ⟨l1, l2, l3⟩ := hs.locs ob b' hloc
  have hin : ∀ j, j < v.cells.toList.length → (w.cell? ⟨b', off + j, none⟩).isSome = true := fun j hj => by
    rw [hcr.1] at hj
    have hne : x.cells ≠ [] := fun e => by rw [e] at hj; simp at hj
    have := g2 hne
    have hl : off + j < cells.length := by omega
    obtain ⟨c, h2, -⟩ := hc (off + j) _ (List.getElem?_eq_getElem hl)
    rw [h2]; rfl
  have hrun := run_storeCells_cells (P := E.C.P) b' off v.cells.toList 0 w (by simpa using hin) (fun j _ => (l3 _).2) hco
  simp only [Nat.add_zero] at hrun
  refine ⟨?_, hrun⟩
  have hout : ∀ b2 i, b2 ≠ b' → (w.setCells b' off v.cells.toList).cell? ⟨b2, i, none⟩ = w.cell? ⟨b2, i, none⟩ := fun b2 i hne =>
    World.cell?_setCells_out b' _ off w ⟨b2, i, none⟩ (fun e => absurd e hne)
  have keep : ∀ u y, RepF G w u y → RepF G (w.setCells b' off v.cells.toList) u y := fun u y hu => by
    refine hu.keep (fun _ _ h => h) (fun b2 i c hi hc => ?_) (fun _ _ h => h) (fun _ _ h => h)
    rw [hout b2 i (fun e => (l3 i).1 (e ▸ hi))]
    exact hc
  have hsz := setCells_size b' v.cells.toList off w
  have hfz : ∀ x, (w.setCells b' off v.cells.toList).frozen? x = w.frozen? x := fun x => World.frozen?_setCells b' _ off w x
  refine ⟨hs.kept.setCells l2 _ _, hs.size, hs.ext'.keep rfl rfl rfl keep (.setCells b' _ _ _), ?_, hs.immB, fun b o h => by rw [hsz]; exact hs.immLt b o h, fun i hi => keep _ _ (hs.tmps i hi), fun o cs ho => ?_, fun o b ho => ?_, hs.locInj, fun o t b r q1 q2 => ?_, fun t b s e T h => ?_, hs.tailInj⟩
  · refine hs.bld.keep rfl rfl (fun o bs q => ⟨q, rfl, rfl⟩) (fun o bs _ q => ?_) (fun _ _ e => e) (by rw [hsz]; exact Nat.le_refl _) (fun o bs b q q2 e => setCells_heap _ _ _ _ _ (fun e2 => ?_)) (fun o r e => setCells_heap _ _ _ _ _ (fun e2 => (hs.bld.row o r e).2.2.2.1 ob (e2 ▸ hloc))) (fun _ _ _ _ e => e) (fun _ _ _ _ e => e) (fun _ _ t q _ e => ⟨t, q, e⟩)
    · cases h' : Qv.getObj (setObj S.objs ob zs) o with
      | none => rfl
      | some cs =>
        rcases getObj_set h' with ⟨rfl, -⟩ | ⟨-, h2⟩
        · rw [hob] at q; cases q
        · rw [q] at h2; cases h2
    · have := hs.locInj o ob b e (e2 ▸ hloc)
      subst this
      rw [hob] at q2; cases q2
  · rcases getObj_set ho with ⟨rfl, rfl⟩ | ⟨hne, ho⟩
    · refine ⟨b', hloc, fun i y hy => ?_⟩
      rw [g3 i] at hy
      by_cases hi : off ≤ i ∧ i < off + x.cells.length
      · rw [if_pos hi] at hy
        have hj : i - off < v.cells.toList.length := by rw [hcr.1]; omega
        have h2 := World.cell?_setCells_in b' v.cells.toList off w hin (i - off) hj
        rw [show off + (i - off) = i from by omega] at h2
        exact ⟨_, h2, keep _ _ (hcr.2 (i - off) _ y (List.getElem?_eq_getElem hj) hy)⟩
      · rw [if_neg hi] at hy
        obtain ⟨c, h2, h3⟩ := hc i y hy
        refine ⟨c, ?_, keep _ _ h3⟩
        rw [World.cell?_setCells_out b' _ off w ⟨b', i, none⟩ (fun _ _ => by rw [hcr.1]; simp only; omega)]
        exact h2
    · obtain ⟨b2, h2, h3⟩ := hs.objs o cs ho
      have hb2 : b2 ≠ b' := fun e => hne (hs.locInj o ob b2 h2 (e ▸ hloc))
      exact ⟨b2, h2, fun i y hy => let ⟨c, h4, h5⟩ := h3 i y hy; ⟨c, by rw [hout b2 i hb2]; exact h4, keep _ _ h5⟩⟩
  · obtain ⟨k1, k2, k3⟩ := hs.locs o b ho
    exact ⟨by rw [hsz]; exact k1, k2, fun i => ⟨(k3 i).1, by rw [hfz]; exact (k3 i).2⟩⟩
  · refine TailOK.mono (hs.locTail o t b r q1 q2) (fun bs q => ⟨bs, q⟩) fun cs q => ?_
    rcases getObj_set q with ⟨rfl, rfl⟩ | ⟨-, q⟩
    · exact ⟨cells, hob, g1⟩
    · exact ⟨cs, q, rfl⟩
  · obtain ⟨k1, k2, kt, k3⟩ := hs.tails t b s e T h
    refine ⟨by rw [hsz]; exact k1, k2, setCells_type _ _ _ _ _ _ kt, fun i hi hi' => ?_⟩
    obtain ⟨⟨c, k4⟩, k5, k6⟩ := k3 i hi hi'
    refine ⟨?_, by rw [hfz]; exact k5, k6⟩
    by_cases hb2 : b = b' ∧ off ≤ i ∧ i < off + v.cells.toList.length
    · obtain ⟨rfl, h5, h6⟩ := hb2
      have h7 := World.cell?_setCells_in b v.cells.toList off w hin (i - off) (by omega)
      rw [show off + (i - off) = i from by omega] at h7
      exact ⟨_, h7⟩
    · refine ⟨c, ?_⟩
      rw [World.cell?_setCells_out b' _ off w ⟨b, i, none⟩ (fun e1 e2 => by simp only at e1 e2 ⊢; omega)]
      exact k4

end
end Qv
end

section
/- append; and calls whose result has room behind its end. No condition. -/
set_option linter.unusedSimpArgs false
set_option linter.unusedVariables false
namespace Qv
open Go Go.RowKit

section
variable {E : Env} {G : Ghost} {S : AState} {a : Act} {w : World} {o : Oper}

/-- The cells of a slice's elements, one behind the other. -/
structure Flat (imm : Nat → Nat → Prop) (w : World) (e : Nat) (ys : List (List AV)) (news : List Value) : Prop where
  len : news.length = ys.length * e
  one : ∀ u, u ∈ news → u.oneCell' = true
  at_ : ∀ (i : Nat) (zs : List AV) (j : Nat) (z : AV), ys[i]? = some zs → zs[j]? = some z → ∃ u, news[i * e + j]? = some u ∧ Rep imm w u z ∧ z.one = true

theorem flat_slice {P : Program} {imm : Nat → Nat → Prop} {ys : List (List AV)} {v : Value} {e : Nat} (h : Rep imm w v (.sl ys)) (he : ∀ zs, zs ∈ ys → zs.length = e) :
    ∃ news, Flat imm w e ys news ∧ (Builtin.lenOf v).run P w = .ok ys.length w ∧ ∀ w', (∀ b o, w'.cell? ⟨b, o, none⟩ = w.cell? ⟨b, o, none⟩) → (Builtin.firstCells e ys.length v).run P w' = .ok news.toArray w' := by
  obtain ⟨ad, c, rfl, hc, hne⟩ := h.sl_inv
  by_cases h0 : ys = []
  · subst h0
    refine ⟨[], ⟨by simp, by simp, by simp⟩, by simp [Builtin.lenOf], fun w' _ => ?_⟩
    cases ad <;> simp [Builtin.firstCells, loadCells, loadCellsFrom]
  · obtain ⟨b, off, esz, cell, rfl, g1, g2⟩ := hne h0
    have hpos : 0 < ys.length := List.length_pos_iff.2 h0
    obtain rfl : esz = e := (g1 0 _ (List.getElem?_eq_getElem hpos)).symm.trans (he _ (List.getElem_mem hpos))
    let f : Nat → Value := fun q => (w.cell? ⟨b, off + q, none⟩).getD undef
    have hq : ∀ q, q < ys.length * esz → ∃ zs z, ys[q / esz]? = some zs ∧ zs[q % esz]? = some z ∧ z.one = true ∧ w.cell? ⟨b, off + q, none⟩ = some (f q) ∧ Rep imm w (f q) z := fun q hq => by
      have hep : 0 < esz := by
        rcases Nat.eq_zero_or_pos esz with h | h
        · rw [h] at hq; simp at hq
        · exact h
      have hi : q / esz < ys.length := Nat.div_lt_of_lt_mul (by rw [Nat.mul_comm]; exact hq)
      have hzs := List.getElem?_eq_getElem hi
      have hl := g1 _ _ hzs
      have hj : q % esz < (ys[q / esz]).length := by rw [hl]; exact Nat.mod_lt _ hep
      obtain ⟨k1, k2, k3, k4⟩ := g2 _ _ _ _ hzs (List.getElem?_eq_getElem hj)
      have hqe : off + q / esz * esz + q % esz = off + q := by
        have := Nat.div_add_mod q esz
        rw [Nat.mul_comm] at this
        omega
      rw [hqe] at k2
      have hf : f q = cell (q / esz) (q % esz) := by simp only [f, k2, Option.getD_some]
      exact ⟨_, _, hzs, List.getElem?_eq_getElem hj, k1, by rw [hf]; exact k2, by rw [hf]; exact k4⟩
    refine ⟨(List.range (ys.length * esz)).map f, ⟨by simp, fun u hu => ?_, fun i zs j z hi hj => ?_⟩, by simp [Builtin.lenOf], fun w' hw => ?_⟩
    · obtain ⟨q, hq', rfl⟩ := List.mem_map.1 hu
      obtain ⟨zs, z, -, -, k1, -, k2⟩ := hq q (List.mem_range.1 hq')
      exact k2.oneV k1
    · have hil := (List.getElem?_eq_some_iff.1 hi).1
      have hjl := (List.getElem?_eq_some_iff.1 hj).1
      rw [g1 i zs hi] at hjl
      have hlt : i * esz + j < ys.length * esz := by
        have : (i + 1) * esz ≤ ys.length * esz := Nat.mul_le_mul_right _ hil
        rw [Nat.add_mul] at this
        omega
      obtain ⟨k1, k2, k3, k4⟩ := g2 _ _ _ _ hi hj
      have hf : f (i * esz + j) = cell i j := by simp only [f, ← Nat.add_assoc, k2, Option.getD_some]
      refine ⟨f (i * esz + j), ?_, by rw [hf]; exact k4, k1⟩
      rw [List.getElem?_map, List.getElem?_range hlt]
      rfl
    · have := run_loadCells (P := P) w' ⟨b, off, none⟩ (ys.length * esz) f (fun q hq' => by rw [Addr.add_lit, hw]; obtain ⟨_, _, -, -, -, k, -⟩ := hq q hq'; exact k)
      simpa [Builtin.firstCells] using this

theorem flat_string {P : Program} {imm : Nat → Nat → Prop} {s : List UInt8} {e : Nat} (he : ∀ zs, zs ∈ (s.map fun (b : UInt8) => [AV.int .u8 (b.toNat : Int)]) → zs.length = e) :
    ∃ news, Flat imm w e (s.map fun (b : UInt8) => [AV.int .u8 (b.toNat : Int)]) news ∧ (Builtin.lenOf (.string ⟨s.toArray⟩)).run P w = .ok (s.map fun (b : UInt8) => [AV.int .u8 (b.toNat : Int)]).length w ∧
      ∀ w', (Builtin.firstCells e (s.map fun (b : UInt8) => [AV.int .u8 (b.toNat : Int)]).length (.string ⟨s.toArray⟩)).run P w' = .ok news.toArray w' := by
  have he1 : s ≠ [] → e = 1 := fun h => by
    cases s with
    | nil => exact absurd rfl h
    | cons b s => have := he [AV.int .u8 (b.toNat : Int)] (by simp); simpa using this.symm
  have hsz : (⟨s.toArray⟩ : ByteArray).size = s.length := by simp [ByteArray.size]
  refine ⟨s.map fun b => .int .u8 b.toNat, ⟨?_, fun u hu => ?_, fun i zs j z hi hj => ?_⟩, by simp [Builtin.lenOf, hsz], fun w' => ?_⟩
  · by_cases h0 : s = []
    · simp [h0]
    · simp [he1 h0]
  · obtain ⟨b, -, rfl⟩ := List.mem_map.1 hu; rfl
  · rw [List.getElem?_map] at hi
    cases hb : s[i]? with
    | none => simp [hb] at hi
    | some b =>
      simp [hb] at hi
      subst hi
      have hne : s ≠ [] := fun e => by rw [e] at hb; simp at hb
      cases j with
      | succ j => simp at hj
      | zero =>
        simp at hj
        subst hj
        refine ⟨.int .u8 b.toNat, ?_, .int _ _, rfl⟩
        rw [he1 hne, Nat.mul_one, Nat.add_zero, List.getElem?_map, hb]
        rfl
  · have hx : (⟨s.toArray⟩ : ByteArray).extract 0 s.length = ⟨s.toArray⟩ := by
      rw [extract_bytes s 0 s.length (Nat.le_refl _)]
      simp
    simp [Builtin.firstCells, hx]

section
variable {P : Program}

theorem run_app_room0 {t u elem ty : TypeId} {d : TypeDesc} {n c : Nat} {base : Option Addr} {yv : Value} {i : TInfo} (ht : P.underlying t = some (.slice elem)) (hu : P.underlying u = some d) (hd : ∀ k, d ≠ .int k) (hi : TabOK P elem i)
    (hl : (Builtin.lenOf yv).run P w = .ok 0 w) (hf : (Builtin.firstCells i.size 0 yv).run P w = .ok #[] w) (hc : n ≤ c) :
    (Builtin.append_ #[t, u] ty #[.slice base n c, yv]).run P w = .ok (.slice base n c) w := by
  have hd' : (match d with | .int _ => true | _ => false) = false := by cases d <;> first | rfl | exact absurd rfl (hd _)
  cases base <;> simp [Builtin.append_, run_underlying ht, run_underlying hu, hi.sizeOf, hd', hl, hf, hc, storeCells]

theorem run_app_room {t u elem ty : TypeId} {d : TypeDesc} {n c m b off : Nat} {yv : Value} {i : TInfo} {news : List Value} (ht : P.underlying t = some (.slice elem)) (hu : P.underlying u = some d) (hd : ∀ k, d ≠ .int k) (hi : TabOK P elem i)
    (hl : (Builtin.lenOf yv).run P w = .ok m w) (hf : (Builtin.firstCells i.size m yv).run P w = .ok news.toArray w) (hc : n + m ≤ c)
    (hcell : ∀ j, j < news.length → (w.cell? ⟨b, off + n * i.size + j, none⟩).isSome = true) (hfz : ∀ j, j < news.length → w.frozen? ⟨b, off + n * i.size + j, none⟩ = false) (h1 : ∀ u, u ∈ news → u.oneCell' = true) :
    (Builtin.append_ #[t, u] ty #[.slice (some ⟨b, off, none⟩) n c, yv]).run P w = .ok (.slice (some ⟨b, off, none⟩) (n + m) c) (w.setCells b (off + n * i.size) news) := by
  have hd' : (match d with | .int _ => true | _ => false) = false := by cases d <;> first | rfl | exact absurd rfl (hd _)
  have hst := run_storeCells_cells (P := P) b (off + n * i.size) news 0 w (by simpa using hcell) (by simpa using hfz) h1
  simp only [Nat.add_zero] at hst
  simp [Builtin.append_, run_underlying ht, run_underlying hu, hi.sizeOf, hd', hl, hf, hc, Addr.add_lit, hst]

theorem run_app_grow {t u elem ty : TypeId} {d : TypeDesc} {n c m : Nat} {base : Option Addr} {yv : Value} {i : TInfo} {olds news : List Value} (ht : P.underlying t = some (.slice elem)) (hu : P.underlying u = some d) (hd : ∀ k, d ≠ .int k) (hi : TabOK P elem i)
    (hl : (Builtin.lenOf yv).run P w = .ok m w) (hf : ∀ w', (∀ b o, w'.cell? ⟨b, o, none⟩ = w.cell? ⟨b, o, none⟩) → (Builtin.firstCells i.size m yv).run P w' = .ok news.toArray w')
    (ho : ∀ w', (∀ b o, w'.cell? ⟨b, o, none⟩ = w.cell? ⟨b, o, none⟩) → (Builtin.firstCells i.size n (.slice base n c)).run P w' = .ok olds.toArray w') (hc : ¬ n + m ≤ c) (hb : (n + m) * i.bytes ≤ 2 ^ 47) (hb0 : i.bytes ≠ 0) :
    ∃ rest z, z.size = i.size ∧ rest = Builtin.zeroCells z (grownCap w (n + m) c elem - (n + m)) ∧
    (Builtin.append_ #[t, u] ty #[.slice base n c, yv]).run P w = .ok (.slice (some ⟨w.heap.size, 0, none⟩) (n + m) (grownCap w (n + m) c elem)) (w.drew.alloc (.cells (olds.toArray ++ news.toArray ++ rest) elem)) := by
  have hd' : (match d with | .int _ => true | _ => false) = false := by cases d <;> first | rfl | exact absurd rfl (hd _)
  obtain ⟨inf, z, hinf, hsz, hby, hz, hzc⟩ := hi.info'
  refine ⟨_, z.cells, by rw [← Array.length_toList, hzc, hi.len], rfl, ?_⟩
  have hfit := growslice_fits (need := n + m) (old := c) (bytes := i.bytes) (by omega) (by omega)
  have hneed : n + m ≤ 2 ^ 47 := Nat.le_trans (Nat.le_mul_of_pos_right _ (Nat.pos_of_ne_zero hb0)) hb
  have hmax : ¬ (((n + m : Nat) : Int) > IntKind.i64.max) := by
    simp only [IntKind.max, IntKind.signed, IntKind.bits, if_true]
    omega
  have h48 : ¬ Builtin.nextslicecap (n + m) c * i.bytes > 2 ^ 48 := by omega
  have hfw := hf w.drew (fun _ _ => rfl)
  have how := ho w.drew (fun _ _ => rfl)
  have hinf' : ∀ w', (typeInfo elem).run P w' = .ok inf w' := fun w' => run_typeInfo w' hinf
  have hzv : ∀ w', (zeroValue elem).run P w' = .ok z w' := fun w' => by simp [zeroValue, hinf' w', hz]
  have hso : ∀ w', (Go.sizeOf elem).run P w' = .ok i.size w' := fun w' => hi.sizeOf w'
  have h48' : ¬ (281474976710656 < Builtin.nextslicecap (n + m) c * i.bytes) := by omega
  simp [Builtin.append_, run_underlying ht, run_underlying hu, hso, hd', hl, hc, hinf', hby, hb0, h48', Question.forced, how, hfw, hzv, newRow, grownCap]
  have e : ∀ X : Array Value, olds.toArray ++ (news.toArray ++ X) = (olds ++ news).toArray ++ X := fun X => by rw [← Array.append_assoc]; simp
  rw [e]

end

theorem RepF.items {y : FV} {v : Value} {ys : List (List AV)} {P : Program} {e : Nat} (hy : y.items = some ys) (h : RepF G w v y) (he : ∀ zs, zs ∈ ys → zs.length = e) :
    ∃ news, Flat G.imm w e ys news ∧ (Builtin.lenOf v).run P w = .ok ys.length w ∧
      ∀ w', (∀ b o, w'.cell? ⟨b, o, none⟩ = w.cell? ⟨b, o, none⟩) → (Builtin.firstCells e ys.length v).run P w' = .ok news.toArray w' := by
  cases y with
  | p x =>
    cases x with
    | str s =>
      have hys : (s.map fun (b : UInt8) => [AV.int .u8 (b.toNat : Int)]) = ys := by simpa [FV.items] using hy
      subst hys
      obtain rfl := h.str_inv
      obtain ⟨news, h1, h2, h3⟩ := flat_string (P := P) (w := w) (imm := G.imm) he
      exact ⟨news, h1, h2, fun w' _ => h3 w'⟩
    | _ => exact flat_slice (h.elems (by simpa [FV.items] using hy)) he
  | _ => exact flat_slice (h.elems (by simpa [FV.items] using hy)) he

/-! ### The room behind a slice -/

theorem SimG.addTail' (hs : SimG E G S a w) {t B s e : Nat} {T : TypeId} (h0 : G.tail t = none) (h1 : B < w.heap.size) (h2 : E.w0.heap.size ≤ B) (hty : ∃ cs fr, w.heap[B]? = some (.cells cs T fr)) (h3 : ∀ o, G.loc o = some B → TailOK S o t s) (h4 : ∀ t' r, G.tail t' ≠ some (B, r)) (h6 : ∀ o, G.row o ≠ some B)
    (h5 : ∀ i, s ≤ i → i < e → (∃ c, w.cell? ⟨B, i, none⟩ = some c) ∧ w.frozen? ⟨B, i, none⟩ = false ∧ ¬ G.imm B i) :
    SimG E { G with tail := fun t' => if t' = t then some (B, s, e, T) else G.tail t' } S a w := by
  have up : ∀ v x, RepF G w v x → RepF { G with tail := fun t' => if t' = t then some (B, s, e, T) else G.tail t' } w v x := fun v x h =>
    h.keep (fun _ _ h => h) (fun _ _ _ _ h => h) (fun _ _ h => h) (fun t' r h => by
      have : t' ≠ t := fun e => by rw [e, h0] at h; cases h
      simp only [if_neg this]; exact h)
  refine ⟨hs.kept, hs.size, hs.ext'.keep rfl rfl rfl up (.refl _), hs.bld.keep rfl rfl (fun o bs q => ⟨q, rfl, rfl⟩) (fun _ _ _ q => q) (fun _ _ e => e) (Nat.le_refl _) (fun _ _ _ _ _ _ => rfl) (fun _ _ _ => rfl) (fun _ _ _ _ e => e) (fun _ _ _ _ e => e) (fun o r t' q e e' => ?_), hs.immB, hs.immLt, fun i hi => up _ _ (hs.tmps i hi), fun o cells ho => ?_, hs.locs, hs.locInj, fun o t' b r h h' => ?_, fun t' b s' e' T' h => ?_, fun t1 t2 b r1 r2 h h' => ?_⟩
  · simp only at e'
    split at e'
    · obtain ⟨rfl, -⟩ := Prod.mk.inj (Option.some.inj e')
      exact absurd e (h6 o)
    · exact ⟨t', q, e'⟩
  · obtain ⟨b, k1, k2⟩ := hs.objs o cells ho
    exact ⟨b, k1, fun i x hx => let ⟨c, k3, k4⟩ := k2 i x hx; ⟨c, k3, up _ _ k4⟩⟩
  · simp only at h'
    split at h'
    · rename_i ht
      have := Option.some.inj h'
      injection this with q1 q2
      subst q1; subst q2; subst ht
      exact h3 o h
    · exact hs.locTail o t' b r h h'
  · simp only at h
    split at h
    · have := Option.some.inj h
      injection this with q1 q2
      injection q2 with q2 q3
      injection q3 with q3 q4
      subst q1; subst q2; subst q3; subst q4
      exact ⟨h1, h2, hty, h5⟩
    · exact hs.tails t' b s' e' T' h
  · simp only at h h'
    split at h <;> split at h'
    · rename_i e1 e2; rw [e1, e2]
    · obtain ⟨rfl, -⟩ := Prod.mk.inj (Option.some.inj h)
      exact absurd h' (h4 _ _)
    · obtain ⟨rfl, -⟩ := Prod.mk.inj (Option.some.inj h')
      exact absurd h (h4 _ _)
    · exact hs.tailInj t1 t2 b r1 r2 h h'

theorem SimG.addTail (hs : SimG E G S a w) {t B s e : Nat} {T : TypeId} (h0 : G.tail t = none) (h1 : B < w.heap.size) (h2 : E.w0.heap.size ≤ B) (hty : ∃ cs fr, w.heap[B]? = some (.cells cs T fr)) (h3 : ∀ o, G.loc o ≠ some B) (h4 : ∀ t' r, G.tail t' ≠ some (B, r)) (h6 : ∀ o, G.row o ≠ some B)
    (h5 : ∀ i, s ≤ i → i < e → (∃ c, w.cell? ⟨B, i, none⟩ = some c) ∧ w.frozen? ⟨B, i, none⟩ = false ∧ ¬ G.imm B i) :
    SimG E { G with tail := fun t' => if t' = t then some (B, s, e, T) else G.tail t' } S a w :=
  hs.addTail' h0 h1 h2 hty (fun o h => (h3 o h).elim) h4 h6 h5

theorem SimG.fillTail (hs : SimG E G S a w) {k b s0 e0 : Nat} {T : TypeId} {news : List Value} (ht : G.tail k = some (b, s0, e0, T)) (hn : s0 + news.length ≤ e0) :
    SimG E { (G.free k) with imm := fun b' o => G.imm b' o ∨ (b' = b ∧ s0 ≤ o ∧ o < s0 + news.length) } (S.kill k) a (w.setCells b s0 news) ∧
    (∀ v x, RepF G w v x → RepF { (G.free k) with imm := fun b' o => G.imm b' o ∨ (b' = b ∧ s0 ≤ o ∧ o < s0 + news.length) } (w.setCells b s0 news) v (x.kill k)) ∧
    (∀ b' i c, G.imm b' i → w.cell? ⟨b', i, none⟩ = some c → (w.setCells b s0 news).cell? ⟨b', i, none⟩ = some c) := by
  obtain ⟨t1, t2, -, t3⟩ := hs.tails k b s0 e0 T ht
  have hcell : ∀ b' i c, G.imm b' i → w.cell? ⟨b', i, none⟩ = some c → (w.setCells b s0 news).cell? ⟨b', i, none⟩ = some c := fun b' i c hi hc => by
    rw [World.cell?_setCells_out b news s0 w ⟨b', i, none⟩ (fun e _ => by
      simp only at e ⊢
      subst e
      by_cases h : s0 ≤ i ∧ i < e0
      · exact absurd hi (t3 i h.1 h.2).2.2
      · omega)]
    exact hc
  have hout : ∀ b2 i, b2 ≠ b → (w.setCells b s0 news).cell? ⟨b2, i, none⟩ = w.cell? ⟨b2, i, none⟩ := fun b2 i hne =>
    World.cell?_setCells_out b _ s0 w ⟨b2, i, none⟩ (fun e => absurd e hne)
  have hfz : ∀ x, (w.setCells b s0 news).frozen? x = w.frozen? x := fun x => World.frozen?_setCells b _ s0 w x
  have hsz := setCells_size b news s0 w
  have up : ∀ v x, RepF G w v x → RepF { (G.free k) with imm := fun b' o => G.imm b' o ∨ (b' = b ∧ s0 ≤ o ∧ o < s0 + news.length) } (w.setCells b s0 news) v (x.kill k) := fun v x hv => by
    refine RepF.kill (G := { G with imm := fun b' o => G.imm b' o ∨ (b' = b ∧ s0 ≤ o ∧ o < s0 + news.length) }) k ?_ rfl (fun o b h h' => by simp only [Ghost.free]; rw [if_neg h]; exact h') (fun t r h h' => by simp only [Ghost.free]; rw [if_neg h]; exact h')
    exact hv.keep (fun _ _ h => .inl h) hcell (fun _ _ h => h) (fun _ _ h => h)
  have floc : ∀ o b', (G.free k).loc o = some b' → o ≠ k ∧ G.loc o = some b' := fun o b' h => by
    simp only [Ghost.free] at h
    split at h
    · cases h
    · rename_i hne; exact ⟨hne, h⟩
  have ftail : ∀ t r, (G.free k).tail t = some r → t ≠ k ∧ G.tail t = some r := fun t r h => by
    simp only [Ghost.free] at h
    split at h
    · cases h
    · rename_i hne; exact ⟨hne, h⟩
  refine ⟨⟨hs.kept.setCells t2 _ _, hs.size, hs.ext'.move (FV.kill k) rfl rfl rfl up (.setCells _ _ _ _), ?_, ?_, ?_, fun i hi => up _ _ (hs.tmps i hi), fun o cells ho => ?_, fun o b' ho => ?_, fun o o' b' h h' => hs.locInj o o' b' (floc _ _ h).2 (floc _ _ h').2, fun o t b' r h h' => TailOK.kill (hs.locTail o t b' r (floc _ _ h).2 (ftail _ _ h').2) k, fun t b' s e T' h => ?_, fun t t' b' r r' h h' => hs.tailInj t t' b' r r' (ftail _ _ h).2 (ftail _ _ h').2⟩, up, hcell⟩
  · refine hs.bld.keep rfl rfl (fun o bs q => ?_) (fun o _ _ q => getObj_del_none q) (fun o r e => ?_) (by rw [hsz]; exact Nat.le_refl _) (fun o bs b2 q q2 e => setCells_heap _ _ _ _ _ (fun e2 => by have := (hs.locTail o k b _ (e2 ▸ e) ht).2.1; rw [q] at this; cases this)) (fun o r e => setCells_heap _ _ _ _ _ (fun e2 => (hs.bld.row o r e).2.2.2.2.1 k _ (e2 ▸ ht)))
      (fun o r i e hi => ?_) (fun _ _ o' _ e => (floc o' _ e).2) (fun _ _ t q _ e => ⟨t, q, (ftail t _ e).2⟩)
    · obtain ⟨q1, q2⟩ := getB_del q
      refine ⟨q2, ?_, ?_⟩
      · simp only [Ghost.free]; rw [if_neg q1]
      · simp only [Ghost.free]; rw [if_neg q1]
    · simp only [Ghost.free] at e
      split at e
      · cases e
      · exact e
    · rcases hi with hi | ⟨rfl, -, -⟩
      · exact hi
      · exact absurd ht ((hs.bld.row o _ e).2.2.2.2.1 k _)
  · rintro b' o (hi | ⟨rfl, -, -⟩)
    · exact hs.immB b' o hi
    · exact .inr t2
  · rintro b' o (hi | ⟨rfl, -, -⟩)
    · rw [hsz]; exact hs.immLt b' o hi
    · rw [hsz]; exact t1
  · obtain ⟨hne, cs, h2, rfl⟩ := getObj_del ho
    obtain ⟨b', h3, h4⟩ := hs.objs o cs h2
    refine ⟨b', by simp only [Ghost.free]; rw [if_neg hne]; exact h3, fun i x hx => ?_⟩
    rw [FV.killL_eq, List.getElem?_map] at hx
    cases hc : cs[i]? with
    | none => simp [hc] at hx
    | some y =>
      simp [hc] at hx
      subst hx
      obtain ⟨c, h5, h6⟩ := h4 i y hc
      have hb : b' ≠ b := fun e => hne (hs.locTail o k b _ (e ▸ h3) ht).1.symm
      exact ⟨c, by rw [hout b' i hb]; exact h5, up _ _ h6⟩
  · obtain ⟨hne, ho⟩ := floc o b' ho
    obtain ⟨k1, k2, k3⟩ := hs.locs o b' ho
    have hb : b' ≠ b := fun e => hne (hs.locTail o k b _ (e ▸ ho) ht).1.symm
    refine ⟨by rw [hsz]; exact k1, k2, fun i => ⟨?_, by rw [hfz]; exact (k3 i).2⟩⟩
    rintro (hi | ⟨e, -, -⟩)
    · exact (k3 i).1 hi
    · exact hb e
  · obtain ⟨hne, h⟩ := ftail t _ h
    obtain ⟨k1, k2, kt, k3⟩ := hs.tails t b' s e T' h
    have hb : b' ≠ b := fun e' => hne (hs.tailInj t k b _ _ (e' ▸ h) ht)
    refine ⟨by rw [hsz]; exact k1, k2, setCells_type _ _ _ _ _ _ kt, fun i hi hi' => ?_⟩
    obtain ⟨⟨c, k4⟩, k5, k6⟩ := k3 i hi hi'
    refine ⟨⟨c, by rw [hout b' i hb]; exact k4⟩, by rw [hfz]; exact k5, ?_⟩
    rintro (h7 | ⟨e, -, -⟩)
    · exact k6 h7
    · exact hb e

theorem kill_none (G : Ghost) (k : Nat) : (G.free k).tail k = none := by simp [Ghost.free]

/-- A slice over cells that lie flat. -/
theorem rep_flat {imm : Nat → Nat → Prop} {W : World} {b off e c : Nat} {xs : List (List AV)} (hc : xs.length ≤ c) (hl : ∀ zs, zs ∈ xs → zs.length = e)
    (h : ∀ (i : Nat) (zs : List AV) (j : Nat) (z : AV), xs[i]? = some zs → zs[j]? = some z → ∃ u, z.one = true ∧ W.cell? ⟨b, off + (i * e + j), none⟩ = some u ∧ imm b (off + (i * e + j)) ∧ Rep imm W u z) :
    Rep imm W (.slice (some ⟨b, off, none⟩) xs.length c) (.sl xs) :=
  Rep.sl_mk hc (fun i ys hys => hl _ (List.mem_of_getElem? hys)) fun i ys j y h1 h2 => by rw [Nat.add_assoc]; exact h i ys j y h1 h2

theorem append_core (hs : SimG E G S a w) {k : Nat} {xs ys : List (List AV)} {ad : Option Addr} {c : Nat} {yv : Value} {t u elem ty : TypeId} {dd : TypeDesc} {i : TInfo} {news : List Value}
    (ht : E.C.P.underlying t = some (.slice elem)) (hu : E.C.P.underlying u = some dd) (hd : ∀ k, dd ≠ .int k) (hi : TabOK E.C.P elem i)
    (hx : Rep G.imm w (.slice ad xs.length c) (.sl xs)) (hlx : ∀ zs, zs ∈ xs → zs.length = i.size) (hly : ∀ zs, zs ∈ ys → zs.length = i.size) (hle : xs.length ≤ c)
    (hroom : (xs = [] ∧ c = 0) ∨ ∃ b off, ad = some ⟨b, off, none⟩ ∧ G.tail k = some (b, off + xs.length * i.size, off + c * i.size, elem))
    (hn : Flat G.imm w i.size ys news) (hl : (Builtin.lenOf yv).run E.C.P w = .ok ys.length w)
    (hf : ∀ w', (∀ b o, w'.cell? ⟨b, o, none⟩ = w.cell? ⟨b, o, none⟩) → (Builtin.firstCells i.size ys.length yv).run E.C.P w' = .ok news.toArray w')
    (hb : (xs.length + ys.length) * i.bytes ≤ 2 ^ 47) (hb0 : i.bytes ≠ 0) :
    ∃ v' w' G', (Builtin.append_ #[t, u] ty #[.slice ad xs.length c, yv]).run E.C.P w = .ok v' w' ∧ SimG E G' (S.kill k) a w' ∧ RepF G' w' v' (.tip k elem i.size (xs ++ ys)) := by
  by_cases h0 : ys = []
  · subst h0
    have hnews : news = [] := List.length_eq_zero_iff.1 (by rw [hn.len]; simp)
    subst hnews
    refine ⟨_, w, G, run_app_room0 ht hu hd hi hl (hf w fun _ _ => rfl) hle, hs.kill' k rfl (fun _ _ _ h => h) (fun _ _ _ h => h) (fun _ _ h => h) (fun _ _ h => h) (fun _ _ => rfl) (fun _ _ h => h), ?_⟩
    have := RepF.tip (G := G) (w := w) k elem i.size xs ad c hx (hroom.imp id fun ⟨b, off, e1, e2⟩ => ⟨b, off, e1, hlx, e2⟩)
    simpa using this
  · have hm : 0 < ys.length := List.length_pos_iff.2 h0
    by_cases hc : xs.length + ys.length ≤ c
    · -- there is room
      rcases hroom with hroom | ⟨b, off, rfl, htl⟩
      · omega
      · obtain ⟨t1, t2, tt, t3⟩ := hs.tails _ _ _ _ _ htl
        have hq : off + xs.length * i.size + news.length ≤ off + c * i.size := by
          have := Nat.mul_le_mul_right i.size hc
          rw [Nat.add_mul] at this
          rw [hn.len]; omega
        have hrun := run_app_room (P := E.C.P) (w := w) (ty := ty) (b := b) (off := off) ht hu hd hi hl (hf w fun _ _ => rfl) hc
          (fun j hj => by obtain ⟨⟨u, hu⟩, -, -⟩ := t3 (off + xs.length * i.size + j) (by omega) (by omega); rw [hu]; rfl)
          (fun j hj => (t3 (off + xs.length * i.size + j) (by omega) (by omega)).2.1) hn.one
        obtain ⟨f1, f2, f3⟩ := hs.fillTail (news := news) htl hq
        have hg := f1.addTail (t := k) (B := b) (s := off + xs.length * i.size + news.length) (e := off + c * i.size) (T := elem) (kill_none G k) (by rw [setCells_size]; exact t1) t2 (setCells_type _ _ _ _ _ _ tt)
          (fun o h => by simp only [Ghost.free] at h; split at h; cases h; rename_i hne; exact hne (hs.locTail o k b _ h htl).1.symm)
          (fun t' r h => by
            simp only [Ghost.free] at h
            split at h
            · cases h
            · rename_i hne; exact hne (hs.tailInj t' k b _ _ h htl))
          (fun o h => by simp only [Ghost.free] at h; split at h; cases h; exact (hs.bld.row o b h).2.2.2.2.1 k _ htl)
          (fun j hj hj' => by
            obtain ⟨⟨u, hu⟩, g2, g3⟩ := t3 j (by omega) (by omega)
            refine ⟨⟨u, ?_⟩, by rw [World.frozen?_setCells]; exact g2, ?_⟩
            · rw [World.cell?_setCells_out b news _ w ⟨b, j, none⟩ (fun _ _ => by simp only; omega)]; exact hu
            · rintro (h | ⟨-, -, h⟩)
              · exact g3 h
              · omega)
        refine ⟨_, _, _, hrun, hg, ?_⟩
        have hlen : (xs ++ ys).length = xs.length + ys.length := List.length_append
        suffices h : RepF _ (w.setCells b (off + xs.length * i.size) news) (.slice (some ⟨b, off, none⟩) (xs ++ ys).length c) (.tip k elem i.size (xs ++ ys)) by
          rw [hlen] at h; exact h
        refine .tip k elem i.size (xs ++ ys) _ c ?_ (.inr ⟨b, off, rfl, fun zs hz => (List.mem_append.1 hz).elim (hlx zs) (hly zs), ?_⟩)
        · refine rep_flat (by omega) (fun zs hz => (List.mem_append.1 hz).elim (hlx zs) (hly zs)) fun p zs j z hp hj => ?_
          have hjl : j < i.size := by
            have h1 := (List.getElem?_eq_some_iff.1 hj).1
            have h2 : zs ∈ xs ++ ys := List.mem_of_getElem? hp
            rw [(List.mem_append.1 h2).elim (hlx zs) (hly zs)] at h1
            exact h1
          rw [List.getElem?_append] at hp
          by_cases hpl : p < xs.length
          · rw [if_pos hpl] at hp
            obtain ⟨_, _, hv, -, hne⟩ := hx.sl_inv
            obtain ⟨b2, off2, esz, cell, rfl, g1, g2⟩ := hne (fun e => by rw [e] at hpl; simp at hpl)
            injection hv with e1 e2 e3
            have e1 := Option.some.inj e1
            injection e1 with q1 q2
            subst q1; subst q2
            obtain rfl : esz = i.size := (g1 p _ hp).symm.trans (hlx _ (List.mem_of_getElem? hp))
            obtain ⟨k1, k2, k3, k4⟩ := g2 _ _ _ _ hp hj
            rw [Nat.add_assoc] at k2 k3
            exact ⟨_, k1, f3 _ _ _ k3 k2, .inl k3, k4.keep (fun _ _ h => .inl h) f3⟩
          · rw [if_neg hpl] at hp
            obtain ⟨u, k1, k2, k3⟩ := hn.at_ _ _ _ _ hp hj
            have hul : (p - xs.length) * i.size + j < news.length := (List.getElem?_eq_some_iff.1 k1).1
            have hadr : off + (p * i.size + j) = off + xs.length * i.size + ((p - xs.length) * i.size + j) := by
              have : p = xs.length + (p - xs.length) := by omega
              have h2 : p * i.size = xs.length * i.size + (p - xs.length) * i.size := by rw [← Nat.add_mul, ← this]
              omega
            have hin := World.cell?_setCells_in b news (off + xs.length * i.size) w (fun q hq' => by
              obtain ⟨⟨u, hu⟩, -, -⟩ := t3 (off + xs.length * i.size + q) (by omega) (by omega); rw [hu]; rfl) _ hul
            refine ⟨u, k3, ?_, .inr ⟨rfl, by omega, by omega⟩, k2.keep (fun _ _ h => .inl h) f3⟩
            rw [hadr, hin]
            exact congrArg some ((List.getElem?_eq_some_iff.1 k1).2)
        · simp only [if_true]
          rw [hn.len, hlen, Nat.add_mul, Nat.add_assoc]
    · -- a new array
      obtain ⟨olds, ho1, -, ho3⟩ := flat_slice (P := E.C.P) hx hlx
      obtain ⟨rest, z, hz, hrest, hrun⟩ := run_app_grow (P := E.C.P) (w := w) (ty := ty) (base := ad) (news := news) (olds := olds) ht hu hd hi hl hf ho3 hc hb hb0
      have hcap : xs.length + ys.length ≤ grownCap w (xs.length + ys.length) c elem := grownCap_ge w _ _ _
      generalize hcg : grownCap w (xs.length + ys.length) c elem = cap at *
      generalize hW : w.drew.alloc (.cells (olds.toArray ++ news.toArray ++ rest) elem) = W at *
      have hbel : Below w.drew.heap.size w.drew W := by rw [← hW]; exact (Below.refl _ _).alloc (Nat.le_refl _) _
      have hWs : W.heap.size = w.heap.size + 1 := by rw [← hW]; simp
      have hrl : rest.size = (cap - (xs.length + ys.length)) * i.size := by rw [hrest, size_zeroCells, hz]
      have hcell : ∀ q, W.cell? ⟨w.heap.size, q, none⟩ = (olds.toArray ++ news.toArray ++ rest)[q]? := fun q => by
        rw [← hW]; exact World.cell?_alloc_new w.drew _ elem q
      have hfz : ∀ q, W.frozen? ⟨w.heap.size, q, none⟩ = false := fun q => by
        rw [← hW]; exact World.frozen?_alloc_new w.drew _ elem q
      have hold : ∀ b q, b < w.heap.size → W.cell? ⟨b, q, none⟩ = w.cell? ⟨b, q, none⟩ := fun b q hlt => by
        rw [← hW]; exact World.cell?_alloc_lt w.drew _ ⟨b, q, none⟩ hlt
      have h1 := (hs.drew.extN (w' := W) hbel (fun b q => b = w.heap.size ∧ q < (xs.length + ys.length) * i.size)).kill k
      have hg := h1.addTail (t := k) (B := w.heap.size) (s := (xs.length + ys.length) * i.size) (e := cap * i.size) (T := elem) (kill_none _ k) (by rw [hWs]; omega) hs.kept.size
        (by rw [← hW]; exact ⟨_, _, World.alloc_heap_new w.drew _⟩)
        (fun o h => by
          simp only [Ghost.free] at h
          split at h
          · cases h
          · have := (hs.locs o _ h).1; omega)
        (fun t' r h => by
          simp only [Ghost.free] at h
          split at h
          · cases h
          · have := (hs.tails t' _ r.1 r.2.1 r.2.2 h).1; omega)
        (fun o h => by
          simp only [Ghost.free] at h
          split at h
          · cases h
          · have := (hs.bld.row o _ h).2.1; omega)
        (fun q hq hq' => by
          refine ⟨?_, hfz q, ?_⟩
          · rw [hcell q]
            have : q < (olds.toArray ++ news.toArray ++ rest).size := by
              simp only [Array.size_append, List.size_toArray, ho1.len, hn.len, hrl, ← Nat.add_mul]
              rw [show xs.length + ys.length + (cap - (xs.length + ys.length)) = cap from by omega]
              exact hq'
            exact ⟨_, Array.getElem?_eq_getElem this⟩
          · rintro (h | ⟨-, -, -, h⟩)
            · have := hs.immLt _ _ h; omega
            · omega)
      refine ⟨_, W, _, hrun, hg, ?_⟩
      have hlen : (xs ++ ys).length = xs.length + ys.length := List.length_append
      suffices h : RepF _ W (.slice (some ⟨w.heap.size, 0, none⟩) (xs ++ ys).length cap) (.tip k elem i.size (xs ++ ys)) by
        rw [hlen] at h; exact h
      have hkeep : ∀ {u : Value} {z : AV}, Rep G.imm w u z → Rep (fun b o => G.imm b o ∨ (w.drew.heap.size ≤ b ∧ b < W.heap.size ∧ b = w.heap.size ∧ o < (xs.length + ys.length) * i.size)) W u z := fun h =>
        h.keep (fun _ _ h => .inl h) (fun b o c hi hc => by rw [hold b o (hs.immLt b o hi)]; exact hc)
      refine .tip k elem i.size (xs ++ ys) _ cap ?_ (.inr ⟨w.heap.size, 0, rfl, fun zs hz => (List.mem_append.1 hz).elim (hlx zs) (hly zs), ?_⟩)
      · refine rep_flat (by omega) (fun zs hz => (List.mem_append.1 hz).elim (hlx zs) (hly zs)) fun p zs j z hp hj => ?_
        have hjl : j < i.size := by
          have h1 := (List.getElem?_eq_some_iff.1 hj).1
          have h2 : zs ∈ xs ++ ys := List.mem_of_getElem? hp
          rw [(List.mem_append.1 h2).elim (hlx zs) (hly zs)] at h1
          exact h1
        have hpl : p < xs.length + ys.length := by rw [← hlen]; exact (List.getElem?_eq_some_iff.1 hp).1
        have hqlt : p * i.size + j < (xs.length + ys.length) * i.size := by
          have : (p + 1) * i.size ≤ (xs.length + ys.length) * i.size := Nat.mul_le_mul_right _ hpl
          rw [Nat.add_mul] at this
          omega
        rw [Nat.zero_add]
        have himm : (fun b o => G.imm b o ∨ (w.drew.heap.size ≤ b ∧ b < W.heap.size ∧ b = w.heap.size ∧ o < (xs.length + ys.length) * i.size)) w.heap.size (p * i.size + j) := .inr ⟨Nat.le_refl _, by rw [hWs]; omega, rfl, hqlt⟩
        rw [List.getElem?_append] at hp
        by_cases hpl' : p < xs.length
        · rw [if_pos hpl'] at hp
          obtain ⟨u, k1, k2, k3⟩ := ho1.at_ _ _ _ _ hp hj
          have hul := (List.getElem?_eq_some_iff.1 k1).1
          refine ⟨u, k3, ?_, himm, hkeep k2⟩
          rw [hcell, Array.append_assoc, Array.getElem?_append_left (by simpa using hul)]
          simpa using k1
        · rw [if_neg hpl'] at hp
          obtain ⟨u, k1, k2, k3⟩ := hn.at_ _ _ _ _ hp hj
          have hul := (List.getElem?_eq_some_iff.1 k1).1
          have hadr : p * i.size + j = olds.length + ((p - xs.length) * i.size + j) := by
            have : p = xs.length + (p - xs.length) := by omega
            have h2 : p * i.size = xs.length * i.size + (p - xs.length) * i.size := by rw [← Nat.add_mul, ← this]
            rw [ho1.len]; omega
          refine ⟨u, k3, ?_, himm, hkeep k2⟩
          rw [hcell, Array.getElem?_append_left (by simp; omega), Array.getElem?_append_right (by simp; omega), hadr]
          simp [k1]
      · simp only [if_true, hlen, Nat.zero_add]

end
end Qv
end

section
/- Slices that are kept open: their elements lie in an object, behind whose end the call owns the room. No condition. -/
set_option linter.unusedSimpArgs false
set_option linter.unusedVariables false
namespace Qv
open Go Go.RowKit

section
variable {E : Env} {G : Ghost} {S : AState} {a : Act} {w : World} {o : Oper}

/-! ### A store into an open slice -/

theorem setN_of {α : Type} {xs : List α} {n : Nat} {y : α} (h : n < xs.length) : setN xs n y = some (xs.set n y) := by
  induction xs generalizing n with
  | nil => simp at h
  | cons x xs ih =>
    cases n with
    | zero => simp [setN]
    | succ n => simp only [setN, ih (by simpa using h), List.set_cons_succ]

theorem setRange_mid {α : Type} {A B : List α} {base : Nat} (hA : A.length = base) : ∀ {cs ys zs : List α} {off : Nat}, setRange ys off cs = some zs → setRange (A ++ (ys ++ B)) (base + off) cs = some (A ++ (zs ++ B))
  | [], ys, zs, off, h => by
    simp only [setRange, Option.some.injEq] at h ⊢
    rw [h]
  | c :: cs, ys, zs, off, h => by
    simp only [setRange] at h ⊢
    split at h
    · rename_i us hus
      obtain ⟨h1, rfl⟩ := setN_some hus
      rw [setN_of (by simp; omega)]
      simp only
      rw [List.set_append_right _ _ (by omega), hA, show base + off - base = off by omega, List.set_append_left _ _ h1]
      exact setRange_mid hA h
    · cases h

theorem getB_del_self (d : Nat) (l : List (Nat × List UInt8)) : getB (delB d l) d = none := by
  cases hq : getB (delB d l) d with
  | none => rfl
  | some bs => exact absurd rfl (getB_del hq).1

/-! ### A slice made with its elements -/

theorem buildSlice_run (hs : SimG E G S a w) {t e : TypeId} {len : Nat} {parts : Array (Nat × Operand)} {j : TInfo} {cs : List FV} {sa sb : Nat} {sz : List Value} (ho : o.op = .buildSlice t len parts)
    (ht : tabGet E.C.tab t = some ⟨sa, sb, .slice e, sz⟩) (hj : tabGet E.C.tab e = some j) (hle' : len * j.size ≤ 1000000) (hcs : placeElems j.size S parts.toList (repl len (j.zero.map FV.ofVal1)) = some cs) :
    ∃ us : Array Value, (execOp a.eval o).run E.C.P w = .ok (.value (.slice (some ⟨w.heap.size, 0, none⟩) len len)) (w.alloc (.cells us e)) ∧ RepL G w us.toList cs ∧ us.size = len * j.size := by
  have hu := (E.C.ok ht).slice
  have hok := E.C.ok hj
  obtain ⟨z, hzr, hzc⟩ := hok.zeroV w
  have hzsz : z.cells.size = j.size := by rw [← Array.length_toList, hzc, hok.len]
  -- the cells before anything is laid over them
  have hbase : ∀ zz : Array Value, (len * j.size = 0 ∨ zz = z.cells) → ((Array.range (len * j.size)).map (zz[· % zz.size]!)).toList = repl len j.zero := fun zz hzz => by
    obtain ⟨r1, r2⟩ := repl_get j.zero len
    rw [hok.len] at r1 r2
    apply List.ext_getElem?
    intro i
    by_cases hi : i < len * j.size
    · rcases hzz with h0 | rfl
      · omega
      · rw [r2 i hi, ← hzc, hzsz]
        have hjp : 0 < j.size := by
          rcases Nat.eq_zero_or_pos j.size with h0 | h0
          · rw [h0] at hi; simp at hi
          · exact h0
        have hm : i % j.size < z.cells.size := by rw [hzsz]; exact Nat.mod_lt _ hjp
        simp [hi, hm]
    · rw [List.getElem?_eq_none (by simp; omega), List.getElem?_eq_none (by omega)]
  have hrl : ∀ zz : Array Value, (len * j.size = 0 ∨ zz = z.cells) → RepL G w ((Array.range (len * j.size)).map (zz[· % zz.size]!)).toList (repl len (j.zero.map FV.ofVal1)) := fun zz hzz => by
    rw [hbase zz hzz, repl_map]
    exact repL_zero _
  obtain ⟨us, hus, hrep⟩ : ∃ us, (∀ zz : Array Value, (len * j.size = 0 ∨ zz = z.cells) → Instr.fill (fun i => some (i * j.size, j.size)) ((Array.range (len * j.size)).map (zz[· % zz.size]!)) (parts.toList.map fun (i, x) => (i, a.eval x)) = some us) ∧ RepL G w us.toList cs := by
    obtain ⟨us, h3, h4⟩ := placeElems_fill hs parts.toList _ _ _ (hrl z.cells (.inr rfl)) hcs
    refine ⟨us, fun zz hzz => ?_, h4⟩
    have : (Array.range (len * j.size)).map (zz[· % zz.size]!) = (Array.range (len * j.size)).map (z.cells[· % z.cells.size]!) := Array.toList_inj.1 ((hbase zz hzz).trans (hbase z.cells (.inr rfl)).symm)
    rw [this]; exact h3
  have hbig : ¬ len * j.size > 2 ^ 24 := by omega
  have hrun : (execOp a.eval o).run E.C.P w = .ok (.value (.slice (some ⟨w.heap.size, 0, none⟩) len len)) (w.alloc (.cells us e)) := by
    by_cases h0 : len * j.size = 0
    · have h5 := hus #[] (.inl h0)
      have h5' : Instr.fill (fun i => some (i * j.size, j.size)) #[] (List.map (fun x => (x.1, a.eval x.2)) parts.toList) = some us := by
        have h6 : (Array.range (len * j.size)).map ((#[] : Array Value)[· % (#[] : Array Value).size]!) = #[] := by rw [h0]; simp
        rw [h6] at h5; exact h5
      have hm0 : ∀ f : Nat → Value, (Array.range 0).map f = #[] := fun f => by simp
      simp only [execOp, ho, Instr.buildSlice, Sem.run_bind, run_underlying hu, Result.andThen_ok, hok.sizeOf, hbig, if_false, h0, if_true, Sem.run_pure, Array.toList_map]
      simp only [show ¬ (0 > 2 ^ 24) from by omega, if_false, Sem.run_pure, Result.andThen_ok, hm0, h5']
      simp [newRow]
    · have h5 := hus z.cells (.inr rfl)
      simp only [execOp, ho, Instr.buildSlice, Sem.run_bind, run_underlying hu, Result.andThen_ok, hok.sizeOf, hbig, if_false, h0, Sem.run_pure, hzr, Array.toList_map]
      simp only [h5]
      simp [newRow]
  have hlen : us.size = len * j.size := by
    have h6 : us.size = cs.length := by rw [← hrep.1]; simp
    have h7 : ∀ (parts : List (Nat × Operand)) (xs zs : List FV), placeElems j.size S parts xs = some zs → zs.length = xs.length := by
      intro parts
      induction parts with
      | nil => intro xs zs h; simp only [placeElems, Option.some.injEq] at h; rw [h]
      | cons p parts ih =>
        obtain ⟨i, x⟩ := p
        intro xs zs h
        simp only [placeElems] at h
        split at h
        · split at h
          · cases h
          · rename_i us hus
            rw [ih _ _ h, (setRange_some hus).1]
        · cases h
    rw [h6, h7 _ _ _ hcs, (repl_get _ _).1]
    simp [hok.len]
  exact ⟨us, hrun, hrep, hlen⟩

theorem cellsOf_type (w : World) (us : Array Value) (e : TypeId) : ∃ cs fr, (w.alloc (.cells us e)).heap[w.heap.size]? = some (.cells cs e fr) := ⟨_, _, World.alloc_heap_new w _⟩

theorem wp_openSlice (hs : SimG E G S a w) {t e : TypeId} {len : Nat} {parts : Array (Nat × Operand)} {d0 : Nat} {K : AState → Prop} {sa sb : Nat} {sz : List Value} (ho : o.op = .buildSlice t len parts) (hd0 : o.dst = some d0)
    (ht : tabGet E.C.tab t = some ⟨sa, sb, .slice e, sz⟩) (h : evOpenSlice E.C S e d0 len parts.toList K) {next : Act → World → Prop} {Q : Exit → Act → World → Prop}
    (hn : ∀ S' a' w', K S' → Sim E S' a' w' → next a' w') : Owp E o a w next Q := by
  unfold evOpenSlice evOpenCells at h
  split at h
  · exact h.elim
  · rename_i j hj
    split at h
    · rename_i hle h0
      have hpos : 0 < j.size := Nat.pos_of_ne_zero (Nat.ne_of_beq_eq_false h0)
      split at h
      · rename_i cs hcs
        split at h
        · exact h.elim
        · rw [forceL_eq, withNm_eq] at h
          obtain ⟨us, hrun, hrep, hsz⟩ := buildSlice_run hs ho ht hj (Nat.le_of_ble_eq_true hle) hcs
          generalize hd : S.off + d0 = d at h
          obtain ⟨G2, g1, g2, g3, g4, g5, g6, g7, g8⟩ := newObj_base hs d us.toList cs e fun i x hx => by
            have hl : i < us.toList.length := by rw [hrep.1]; exact (List.getElem?_eq_some_iff.1 hx).1
            exact ⟨_, List.getElem?_eq_getElem hl, hrep.2 i _ x (List.getElem?_eq_getElem hl) hx⟩
          rw [Array.toArray_toList] at g1
          have hcl : cs.length = len * j.size := by rw [← hrep.1, Array.length_toList, hsz]
          have hg := g1.addTail' (t := d) (B := w.heap.size) (s := len * j.size) (e := len * j.size) (T := e) g4 (by simp) hs.kept.size (cellsOf_type w us e)
            (fun o q => by
              have : o = d := Classical.byContradiction fun hne => g6 o hne q
              subst this
              refine ⟨rfl, ?_, fun cells hc => ?_⟩
              · exact getB_del_self _ _
              · simp only [Qv.getObj, Nat.beq_refl] at hc
                obtain rfl := Option.some.inj hc
                rw [FV.killL_eq, List.length_map, hcl])
            (fun t' r q => g5 t' r q) (fun o q => g7 o q) (fun i h1 h2 => by omega)
          refine wp_value hrun ?_
          rw [hd0]
          exact hn _ _ _ h ⟨_, hg.put (some d0) (x := .osl d e j.size) (.osl d e j.size len len w.heap.size g2 (by simp) (Nat.le_refl _) hpos)⟩
      · exact h.elim
    · exact h.elim

/-! ### append -/

/-- The cells of an open slice, as append reads them. -/
theorem open_cells {P : Program} (hs : SimG E G S a w) {k n c b : Nat} {esz : Nat} {T : TypeId} {xs : List FV} (hk : Qv.getObj S.objs k = some xs) (hl : G.loc k = some b) (ht : G.tail k = some (b, n * esz, c * esz, T)) :
    ∃ news : List Value, news.length = n * esz ∧ (∀ (i : Nat) (x : FV), xs[i]? = some x → ∃ u, news[i]? = some u ∧ RepF G w u x) ∧
      ∀ w', (∀ b o, w'.cell? ⟨b, o, none⟩ = w.cell? ⟨b, o, none⟩) → (Builtin.firstCells esz n (.slice (some ⟨b, 0, none⟩) n c)).run P w' = .ok news.toArray w' := by
  have hlen := (hs.locTail k k b _ hl ht).2.2 xs hk
  simp only at hlen
  obtain ⟨b', h1, h2⟩ := hs.objs k xs hk
  obtain rfl : b' = b := by rw [hl] at h1; exact (Option.some.inj h1).symm
  let f : Nat → Value := fun q => (w.cell? ⟨b', q, none⟩).getD undef
  have hf : ∀ q, q < n * esz → w.cell? ⟨b', q, none⟩ = some (f q) := fun q hq => by
    have hql : q < xs.length := by omega
    obtain ⟨u, h3, -⟩ := h2 q _ (List.getElem?_eq_getElem hql)
    simp only [f, h3, Option.getD_some]
  refine ⟨(List.range (n * esz)).map f, by simp, fun i x hx => ?_, fun w' hw => ?_⟩
  · have hi : i < n * esz := by rw [← hlen]; exact (List.getElem?_eq_some_iff.1 hx).1
    obtain ⟨u, h3, h4⟩ := h2 i x hx
    refine ⟨f i, by rw [List.getElem?_map, List.getElem?_range hi]; rfl, ?_⟩
    simp only [f, h3, Option.getD_some]
    exact h4
  · have := run_loadCells (P := P) w' ⟨b', 0, none⟩ (n * esz) f (fun q hq' => by rw [Addr.add_lit, hw, Nat.zero_add]; exact hf q hq')
    simpa [Builtin.firstCells] using this

/-- New elements behind the end of an open slice. -/
theorem SimG.fillOpen (hs : SimG E G S a w) {k b s0 e0 : Nat} {T : TypeId} {xs ys : List FV} {news : List Value} (hk : Qv.getObj S.objs k = some xs) (hl : G.loc k = some b) (ht : G.tail k = some (b, s0, e0, T))
    (hn : s0 + news.length ≤ e0) (hr : ∀ (i : Nat) (x : FV), ys[i]? = some x → ∃ u, news[i]? = some u ∧ RepF G w u x) (hlen : ys.length = news.length) :
    SimG E { G with tail := fun t => if t = k then some (b, s0 + news.length, e0, T) else G.tail t } { S.kill k with objs := (k, FV.killL k (xs ++ ys)) :: delObj k S.objs } a (w.setCells b s0 news) := by
  obtain ⟨t1, t2, tt, t3⟩ := hs.tails k b s0 e0 T ht
  obtain ⟨-, l2, l3⟩ := hs.locs k b hl
  obtain ⟨-, hnb, hxl0⟩ := hs.locTail k k b _ hl ht
  have hxl : xs.length = s0 := hxl0 xs hk
  clear hxl0
  obtain ⟨b', hb', hcell⟩ := hs.objs k xs hk
  obtain rfl : b' = b := by rw [hl] at hb'; exact (Option.some.inj hb').symm
  have hout : ∀ b2 i, b2 ≠ b' → (w.setCells b' s0 news).cell? ⟨b2, i, none⟩ = w.cell? ⟨b2, i, none⟩ := fun b2 i hne =>
    World.cell?_setCells_out b' _ s0 w ⟨b2, i, none⟩ (fun e => absurd e hne)
  have hfz : ∀ x, (w.setCells b' s0 news).frozen? x = w.frozen? x := fun x => World.frozen?_setCells b' _ s0 w x
  have hsz := setCells_size b' news s0 w
  let G' : Ghost := { G with tail := fun t => if t = k then some (b', s0 + news.length, e0, T) else G.tail t }
  have up : ∀ v x, RepF G w v x → RepF G' (w.setCells b' s0 news) v (x.kill k) := fun v x hv => by
    have h1 : RepF { G with tail := fun t => if t = k then none else G.tail t } w v (x.kill k) := hv.kill k rfl (fun _ _ _ h => h) (fun t r hne h => by simp only; rw [if_neg hne]; exact h)
    refine h1.keep (fun _ _ h => h) (fun b2 i c hi hc => ?_) (fun _ _ h => h) (fun t r h => ?_)
    · rw [hout b2 i (fun e => (l3 i).1 (e ▸ hi))]; exact hc
    · simp only at h
      split at h
      · cases h
      · rename_i hne
        simp only [G', if_neg hne]; exact h
  refine ⟨hs.kept.setCells l2 _ _, hs.size, hs.ext'.move (FV.kill k) rfl rfl rfl up (.setCells b' _ _ _), ?_, hs.immB, fun b o h => by rw [hsz]; exact hs.immLt b o h, fun i hi => up _ _ (hs.tmps i hi), fun o cs ho => ?_, fun o b ho => ?_, hs.locInj, fun o t b r h h' => ?_, fun t b s e T' h => ?_, fun t t' b r r' h h' => ?_⟩
  · refine hs.bld.keep rfl rfl (fun o bs q => ⟨(getB_del q).2, rfl, rfl⟩) (fun o bs q0 q => ?_) (fun _ _ e => e) (by rw [hsz]; exact Nat.le_refl _) (fun o bs b q q2 e => setCells_heap _ _ _ _ _ (fun e2 => ?_)) (fun o r e => setCells_heap _ _ _ _ _ (fun e2 => (hs.bld.row o r e).2.2.2.1 k (e2 ▸ hl)))
      (fun _ _ _ _ e => e) (fun _ _ _ _ e => e) (fun o r t q _ e => ?_)
    · simp only [Qv.getObj]
      split
      · rename_i hbq
        obtain rfl := Nat.eq_of_beq_eq_true hbq
        exact absurd rfl (getB_del q0).1
      · exact getObj_del_none q
    · have := hs.locInj o k b e (e2 ▸ hl)
      subst this
      rw [hnb] at q; cases q
    · simp only at e
      split at e
      · obtain ⟨rfl, -⟩ := Prod.mk.inj (Option.some.inj e)
        exact ⟨k, _, ht⟩
      · exact ⟨t, q, e⟩
  · simp only [Qv.getObj] at ho
    split at ho
    · rename_i hbq
      obtain rfl := Nat.eq_of_beq_eq_true hbq
      obtain rfl := Option.some.inj ho
      refine ⟨b', hl, fun i x hx => ?_⟩
      rw [FV.killL_eq, List.getElem?_map] at hx
      cases hy : (xs ++ ys)[i]? with
      | none => rw [hy] at hx; cases hx
      | some y =>
        rw [hy] at hx
        obtain rfl := Option.some.inj hx
        by_cases hi : i < xs.length
        · rw [List.getElem?_append_left hi] at hy
          obtain ⟨c, h2, h3⟩ := hcell i y hy
          refine ⟨c, ?_, up _ _ h3⟩
          rw [World.cell?_setCells_out b' _ s0 w ⟨b', i, none⟩ (fun _ _ => by simp only; omega)]
          exact h2
        · rw [List.getElem?_append_right (by omega)] at hy
          obtain ⟨u, h2, h3⟩ := hr _ y hy
          have hul : i - xs.length < news.length := (List.getElem?_eq_some_iff.1 h2).1
          have hin := World.cell?_setCells_in b' news s0 w (fun q hq' => by
            obtain ⟨⟨u, hu⟩, -, -⟩ := t3 (s0 + q) (by omega) (by omega); rw [hu]; rfl) _ hul
          rw [show s0 + (i - xs.length) = i by omega] at hin
          refine ⟨u, ?_, up _ _ h3⟩
          rw [hin]
          exact congrArg some ((List.getElem?_eq_some_iff.1 h2).2)
    · rename_i hbq
      obtain ⟨hne, cs0, h2, rfl⟩ := getObj_del ho
      obtain ⟨b2, h3, h4⟩ := hs.objs o cs0 h2
      have hb2 : b2 ≠ b' := fun e => hne (hs.locInj o k b2 h3 (e ▸ hl))
      refine ⟨b2, h3, fun i x hx => ?_⟩
      rw [FV.killL_eq, List.getElem?_map] at hx
      cases hy : cs0[i]? with
      | none => rw [hy] at hx; cases hx
      | some y =>
        rw [hy] at hx
        obtain rfl := Option.some.inj hx
        obtain ⟨c, h5, h6⟩ := h4 i y hy
        exact ⟨c, by rw [hout b2 i hb2]; exact h5, up _ _ h6⟩
  · obtain ⟨k1, k2, k3⟩ := hs.locs o b ho
    exact ⟨by rw [hsz]; exact k1, k2, fun i => ⟨(k3 i).1, by rw [hfz]; exact (k3 i).2⟩⟩
  · simp only at h h'
    split at h'
    · rename_i htk
      have := Option.some.inj h'
      injection this with q1 q2
      subst q1; subst q2; subst htk
      obtain rfl := hs.locInj o t b' h hl
      refine ⟨rfl, getB_del_self _ _, fun cells hc => ?_⟩
      simp only [Qv.getObj, Nat.beq_refl] at hc
      obtain rfl := Option.some.inj hc
      rw [FV.killL_eq, List.length_map, List.length_append, hxl, hlen]
    · rename_i hne
      have h1 := hs.locTail o t b r h h'
      have hto := h1.1
      refine TailOK.mono h1 (fun bs q => ⟨bs, (getB_del q).2⟩) fun cells q => ?_
      simp only [Qv.getObj] at q
      split at q
      · rename_i hbq
        exact absurd (hto.trans (Nat.eq_of_beq_eq_true hbq).symm) hne
      · obtain ⟨-, cs0, h2, rfl⟩ := getObj_del q
        exact ⟨cs0, h2, by rw [FV.killL_eq, List.length_map]⟩
  · simp only at h
    split at h
    · have := Option.some.inj h
      injection this with q1 q2
      injection q2 with q2 q3
      injection q3 with q3 q4
      subst q1; subst q2; subst q3; subst q4
      refine ⟨by rw [hsz]; exact t1, t2, setCells_type _ _ _ _ _ _ tt, fun i hi hi' => ?_⟩
      obtain ⟨⟨c, k4⟩, k5, k6⟩ := t3 i (by omega) hi'
      refine ⟨⟨c, ?_⟩, by rw [hfz]; exact k5, k6⟩
      rw [World.cell?_setCells_out b' _ s0 w ⟨b', i, none⟩ (fun _ _ => by simp only; omega)]
      exact k4
    · rename_i hne
      obtain ⟨k1, k2, kt, k3⟩ := hs.tails t b s e T' h
      have hb2 : b ≠ b' := fun e' => hne (hs.tailInj t k b' _ _ (e' ▸ h) ht)
      refine ⟨by rw [hsz]; exact k1, k2, setCells_type _ _ _ _ _ _ kt, fun i hi hi' => ?_⟩
      obtain ⟨⟨c, k4⟩, k5, k6⟩ := k3 i hi hi'
      exact ⟨⟨c, by rw [hout b i hb2]; exact k4⟩, by rw [hfz]; exact k5, k6⟩
  · simp only at h h'
    split at h <;> split at h'
    · rename_i e1 e2; rw [e1, e2]
    · obtain ⟨rfl, -⟩ := Prod.mk.inj (Option.some.inj h)
      exact (hs.tailInj _ _ _ _ _ ht h').symm ▸ (by assumption)
    · obtain ⟨rfl, -⟩ := Prod.mk.inj (Option.some.inj h')
      exact (hs.tailInj _ _ _ _ _ h ht).trans (by simp_all)
    · exact hs.tailInj t t' b r r' h h'

/-- An open slice in a new row. -/
theorem grow_open (hs : SimG E G S a w) (d : Nat) {zs : List FV} {cells : List Value} {s cap : Nat} {e : TypeId} (hlen : zs.length = s) (hcl : cells.length = cap)
    (hr : ∀ (i : Nat) (x : FV), zs[i]? = some x → ∃ c, cells[i]? = some c ∧ RepF G w c x) :
    ∃ G', SimG E G' { S.kill d with objs := (d, FV.killL d zs) :: delObj d S.objs } a (w.alloc (.cells cells.toArray e)) ∧ G'.loc d = some w.heap.size ∧ G'.tail d = some (w.heap.size, s, cap, e) := by
  obtain ⟨G2, g1, g2, g3, g4, g5, g6, g7, g8⟩ := newObj_base hs d cells zs e hr
  have hg := g1.addTail' (t := d) (B := w.heap.size) (s := s) (e := cap) (T := e) g4 (by simp) hs.kept.size (cellsOf_type w _ e)
    (fun o q => by
      have : o = d := Classical.byContradiction fun hne => g6 o hne q
      subst this
      refine ⟨rfl, getB_del_self _ _, fun cells hc => ?_⟩
      simp only [Qv.getObj, Nat.beq_refl] at hc
      obtain rfl := Option.some.inj hc
      rw [FV.killL_eq, List.length_map, hlen])
    (fun t' r q => g5 t' r q) (fun o q => g7 o q) (fun i h1 h2 => by
      refine ⟨?_, World.frozen?_alloc_new w _ e i, g8 i⟩
      have hl : i < cells.length := by omega
      exact ⟨cells[i], by rw [World.cell?_alloc_new]; simp [hl]⟩)
  exact ⟨_, hg, g2, by simp⟩

theorem wp_evAppO (hs : SimG E G S a w) {d : Nat} {K : AState → Prop} {x y : Operand} {t u : TypeId} (ho : o.op = .call ⟨.builtin .append, #[x, y], #[t, u]⟩) (hd : o.dst = some d)
    {o2 : Nat} {T2 : TypeId} {e2 : Nat} (hy : S.val y = .osl o2 T2 e2) (h : evAppO E.C t u d S (S.val x) o2 T2 e2 K) {next : Act → World → Prop} {Q : Exit → Act → World → Prop}
    (hn : ∀ S' a' w', K S' → Sim E S' a' w' → next a' w') : Owp E o a w next Q := by
  have hxv := RepF.val hs x
  have hyv := RepF.val hs y
  rw [hy] at hyv
  generalize S.val x = vx at h hxv
  unfold evAppO at h
  split at h
  · rename_i e _ ui ht hui
    have hut := (E.C.ok ht).slice
    obtain ⟨dd, hud, hsh⟩ := (E.C.ok hui).und'
    split at h
    · exact h.elim
    · rename_i hlist
      have hdk : ∀ k, dd ≠ .int k := fun k e => by rw [← hsh, e] at hlist; simp [shapeOf, Shape.listy] at hlist
      split at h
      · exact h.elim
      · rename_i j hj
        have hok := E.C.ok hj
        split at h
        · rename_i he2 hT2 hb0
          obtain rfl := Nat.eq_of_beq_eq_true he2
          obtain rfl := Nat.eq_of_beq_eq_true hT2
          have hb0 := Nat.ne_of_beq_eq_false hb0
          split at h
          · exact h.elim
          · rename_i ys hys
            generalize hevy : a.eval y = vy at hyv
            cases hyv with
            | osl _ _ _ m c2 b2 q1 q2 q3 q4 =>
            have hyl := (hs.locTail _ _ _ _ q1 q2).2.2 ys hys
            simp only at hyl
            obtain ⟨news, nl, nr, nf⟩ := open_cells (P := E.C.P) hs hys q1 q2
            have hl : (Builtin.lenOf (.slice (some ⟨b2, 0, none⟩) m c2)).run E.C.P w = .ok m w := by simp [Builtin.lenOf]
            have hone : allOne ys = true → ∀ v, v ∈ news → v.oneCell' = true := fun h1 v hv => by
              obtain ⟨i, hi⟩ := List.getElem?_of_mem hv
              have hil : i < ys.length := by rw [hyl, ← nl]; exact (List.getElem?_eq_some_iff.1 hi).1
              obtain ⟨v', h2, h3⟩ := nr i _ (List.getElem?_eq_getElem hil)
              rw [hi] at h2
              obtain rfl := Option.some.inj h2
              exact h3.oneV (allOne_iff.1 h1 _ (List.getElem_mem hil))
            split at h
            · rename_i k T esz
              split at h
              · rename_i he hT hne
                obtain rfl := Nat.eq_of_beq_eq_true he
                obtain rfl := Nat.eq_of_beq_eq_true hT
                split at h
                · exact h.elim
                · rename_i xs hxs
                  obtain ⟨n, m', hn1, hm1, h1, hbd, zs, rfl, hK⟩ := h
                  generalize hevx : a.eval x = vv at hxv
                  cases hxv with
                  | osl _ _ _ n' c b p1 p2 p3 p4 =>
                  have hxl := (hs.locTail _ _ _ _ p1 p2).2.2 xs hxs
                  simp only at hxl
                  obtain rfl : n = n' := Nat.eq_of_mul_eq_mul_right p4 (hn1.symm.trans hxl)
                  obtain rfl : m' = m := Nat.eq_of_mul_eq_mul_right p4 (hm1.symm.trans hyl)
                  obtain ⟨t1, t2, tt, t3⟩ := hs.tails _ _ _ _ _ p2
                  by_cases hc : n + m' ≤ c
                  · have hq : n * j.size + news.length ≤ c * j.size := by
                      have := Nat.mul_le_mul_right j.size hc
                      rw [Nat.add_mul] at this
                      omega
                    have hrun := run_app_room (P := E.C.P) (w := w) (ty := o.type) (b := b) (off := 0) hut hud hdk hok hl (nf w fun _ _ => rfl) hc
                      (fun q hq' => by rw [Nat.zero_add]; obtain ⟨⟨u, hu⟩, -, -⟩ := t3 (n * j.size + q) (by omega) (by omega); rw [hu]; rfl)
                      (fun q hq' => by rw [Nat.zero_add]; exact (t3 (n * j.size + q) (by omega) (by omega)).2.1) (hone h1)
                    rw [Nat.zero_add] at hrun
                    have hg := hs.fillOpen (news := news) hxs p1 p2 hq nr (by omega)
                    have hex : (execOp a.eval o).run E.C.P w = .ok (.value (.slice (some ⟨b, 0, none⟩) (n + m') c)) (w.setCells b (n * j.size) news) := by
                      simp [execOp, ho, resolve, invoke, builtin, hevx, hevy, hrun]
                    refine wp_value hex (hn _ _ _ hK ⟨{ G with tail := fun t => if t = k then some (b, n * j.size + news.length, c * j.size, T) else G.tail t }, ?_⟩)
                    · rw [hd]
                      refine hg.put (some d) (v := .slice (some ⟨b, 0, none⟩) (n + m') c) (x := .osl k T j.size) (.osl k T j.size (n + m') c b p1 ?_ hc p4)
                      simp only [if_true]
                      rw [nl, Nat.add_mul]
                  · obtain ⟨olds, ol, or', of'⟩ := open_cells (P := E.C.P) hs hxs p1 p2
                    obtain ⟨rest, z, hz, hrest, hrun⟩ := run_app_grow (P := E.C.P) (w := w) (ty := o.type) (news := news) (olds := olds) hut hud hdk hok hl nf of' hc hbd hb0
                    have hcap : n + m' ≤ grownCap w (n + m') c T := grownCap_ge w _ _ _
                    generalize hcg : grownCap w (n + m') c T = cap at *
                    have hrl : rest.size = (cap - (n + m')) * j.size := by rw [hrest, size_zeroCells, hz]
                    have hcl : (olds ++ news ++ rest.toList).length = cap * j.size := by
                      simp only [List.length_append, ol, nl, Array.length_toList, hrl, ← Nat.add_mul]
                      rw [show n + m' + (cap - (n + m')) = cap from by omega]
                    obtain ⟨G', g1, g2, g3⟩ := grow_open hs.drew k (zs := xs ++ ys) (cells := olds ++ news ++ rest.toList) (s := (n + m') * j.size) (cap := cap * j.size) (e := T) (by rw [List.length_append, hxl, hyl, Nat.add_mul]) hcl
                      (fun i z hz => by
                        have hk : ∀ {v : Value} {z : FV}, RepF G w v z → RepF G { w with drawn := w.drawn + 1 } v z := fun h => h.keep (fun _ _ h => h) (fun _ _ _ _ h => h) (fun _ _ h => h) (fun _ _ h => h)
                        by_cases hi : i < xs.length
                        · rw [List.getElem?_append_left hi] at hz
                          obtain ⟨u, h2, h3⟩ := or' i z hz
                          exact ⟨u, by rw [List.append_assoc, List.getElem?_append_left (by omega)]; exact h2, hk h3⟩
                        · rw [List.getElem?_append_right (by omega)] at hz
                          obtain ⟨u, h2, h3⟩ := nr _ z hz
                          have hul := (List.getElem?_eq_some_iff.1 h2).1
                          refine ⟨u, ?_, hk h3⟩
                          rw [List.getElem?_append_left (by rw [List.length_append]; omega), List.getElem?_append_right (by omega), ← h2]
                          congr 1
                          omega)
                    have hW : w.drew.alloc (.cells (olds.toArray ++ news.toArray ++ rest) T) = ({ w with drawn := w.drawn + 1 } : World).alloc (.cells (olds ++ news ++ rest.toList).toArray T) := by
                      have : olds.toArray ++ news.toArray ++ rest = (olds ++ news ++ rest.toList).toArray := by apply Array.toList_inj.1; simp
                      rw [this]
                      rfl
                    rw [hW] at hrun
                    refine wp_value (v := .slice (some ⟨w.heap.size, 0, none⟩) (n + m') cap) (w' := ({ w with drawn := w.drawn + 1 } : World).alloc (.cells (olds ++ news ++ rest.toList).toArray T)) ?_ (hn _ _ _ hK ⟨G', ?_⟩)
                    · simp [execOp, ho, resolve, invoke, builtin, hevx, hevy] at hrun ⊢
                      rw [hrun]
                      rfl
                    · rw [hd]
                      exact g1.put (some d) (v := .slice (some ⟨w.heap.size, 0, none⟩) (n + m') cap) (x := .osl k T j.size) (.osl k T j.size (n + m') cap w.heap.size g2 g3 hcap p4)
              · exact h.elim
            · obtain ⟨m', hm0, hm1, h1, hbd, h⟩ := h
              rw [withNm_eq] at h
              obtain ⟨zs, rfl, hK⟩ := h
              generalize hevx : a.eval x = vv at hxv
              cases hxv with
              | full _ ad hr0 =>
              obtain rfl : m' = m := Nat.eq_of_mul_eq_mul_right q4 (hm1.symm.trans hyl)
              have of' : ∀ w', (∀ b o, w'.cell? ⟨b, o, none⟩ = w.cell? ⟨b, o, none⟩) → (Builtin.firstCells j.size 0 (.slice ad 0 0)).run E.C.P w' = .ok ([] : List Value).toArray w' := fun w' _ => by
                cases ad <;> simp [Builtin.firstCells, loadCells, loadCellsFrom]
              obtain ⟨rest, z, hz, hrest, hrun⟩ := run_app_grow (P := E.C.P) (w := w) (ty := o.type) (base := ad) (n := 0) (c := 0) (news := news) (olds := []) hut hud hdk hok hl nf of' (by omega) (by rw [Nat.zero_add]; exact hbd) hb0
              have hcap : 0 + m' ≤ grownCap w (0 + m') 0 T2 := grownCap_ge w _ _ _
              generalize hcg : grownCap w (0 + m') 0 T2 = cap at *
              have hrl : rest.size = (cap - (0 + m')) * j.size := by rw [hrest, size_zeroCells, hz]
              have hcl : (news ++ rest.toList).length = cap * j.size := by
                simp only [List.length_append, nl, Array.length_toList, hrl, ← Nat.add_mul]
                rw [show m' + (cap - (0 + m')) = cap from by omega]
              generalize hnm : S.off + d = nm at hK
              obtain ⟨G', g1, g2, g3⟩ := grow_open hs.drew nm (zs := ys) (cells := news ++ rest.toList) (s := m' * j.size) (cap := cap * j.size) (e := T2) hyl hcl
                (fun i z hz => by
                  have hk : ∀ {v : Value} {z : FV}, RepF G w v z → RepF G { w with drawn := w.drawn + 1 } v z := fun h => h.keep (fun _ _ h => h) (fun _ _ _ _ h => h) (fun _ _ h => h) (fun _ _ h => h)
                  obtain ⟨u, h2, h3⟩ := nr i z hz
                  have hul := (List.getElem?_eq_some_iff.1 h2).1
                  exact ⟨u, by rw [List.getElem?_append_left hul]; exact h2, hk h3⟩)
              have hW : w.drew.alloc (.cells (([] : List Value).toArray ++ news.toArray ++ rest) T2) = ({ w with drawn := w.drawn + 1 } : World).alloc (.cells (news ++ rest.toList).toArray T2) := by
                have : ([] : List Value).toArray ++ news.toArray ++ rest = (news ++ rest.toList).toArray := by apply Array.toList_inj.1; simp
                rw [this]
                rfl
              rw [hW] at hrun
              refine wp_value (v := .slice (some ⟨w.heap.size, 0, none⟩) (0 + m') cap) (w' := ({ w with drawn := w.drawn + 1 } : World).alloc (.cells (news ++ rest.toList).toArray T2)) ?_ (hn _ _ _ hK ⟨G', ?_⟩)
              · simp [execOp, ho, resolve, invoke, builtin, hevx, hevy] at hrun ⊢
                rw [hrun]
                rfl
              · rw [hd]
                exact g1.put (some d) (v := .slice (some ⟨w.heap.size, 0, none⟩) (0 + m') cap) (x := .osl nm T2 j.size) (.osl nm T2 j.size (0 + m') cap w.heap.size g2 (by rw [Nat.zero_add]; exact g3) hcap q4)
            · exact h.elim
        · exact h.elim
  · exact h.elim

/-! ### An open slice is closed -/

theorem getObj_frO {d Z o : Nat} {yss : List (List AV)} {cells : List FV} : ∀ {l : List (Nat × List FV)}, Qv.getObj (frOObjs d Z yss l) o = some cells → o ≠ d ∧ ∃ cs, Qv.getObj l o = some cs ∧ cells = FV.frOL d Z yss cs := by
  intro l
  induction l with
  | nil => intro h; cases h
  | cons p l ih =>
    obtain ⟨u, i⟩ := p
    intro h
    simp only [frOObjs] at h
    split at h
    · rename_i hb
      obtain rfl := Nat.eq_of_beq_eq_true hb
      obtain ⟨h1, cs, h2, h3⟩ := ih h
      refine ⟨h1, cs, ?_, h3⟩
      simp only [Qv.getObj]
      have : Nat.beq u o = false := by
        cases hb : Nat.beq u o
        · rfl
        · exact absurd (Nat.eq_of_beq_eq_true hb).symm h1
      rw [this]; exact h2
    · rename_i hb
      simp only [Qv.getObj] at h ⊢
      split at h
      · rename_i hb2
        obtain rfl := Nat.eq_of_beq_eq_true hb2
        obtain rfl := Option.some.inj h
        exact ⟨Nat.ne_of_beq_eq_false hb, i, rfl, rfl⟩
      · rename_i hb2
        exact ih h

theorem flatten_get {α : Type} {e : Nat} : ∀ {l : List (List α)}, (∀ zs, zs ∈ l → zs.length = e) → ∀ {i j : Nat} {zs : List α} {z : α}, l[i]? = some zs → zs[j]? = some z → l.flatten[i * e + j]? = some z
  | [], _, i, j, zs, z, h, _ => by simp at h
  | x :: l, hl, 0, j, zs, z, h1, h2 => by
    simp at h1
    subst h1
    have hj := (List.getElem?_eq_some_iff.1 h2).1
    rw [List.flatten_cons, Nat.zero_mul, Nat.zero_add, List.getElem?_append_left hj]
    exact h2
  | x :: l, hl, i + 1, j, zs, z, h1, h2 => by
    have hx := hl x (by simp)
    rw [List.flatten_cons, List.getElem?_append_right (by rw [hx, Nat.add_mul]; omega), hx, show (i + 1) * e + j - e = i * e + j by rw [Nat.add_mul]; omega]
    exact flatten_get (fun zs hz => hl zs (by simp [hz])) (by simpa using h1) h2

theorem RepF.frO {G G' : Ghost} {w : World} {v : Value} {x : FV} {d Z : Nat} {yss : List (List AV)} (h : RepF G w v x) (hi : ∀ b o, G.imm b o → G'.imm b o)
    (hl : ∀ o b, o ≠ d → G.loc o = some b → G'.loc o = some b) (ht : ∀ t r, G.tail t = some r → G'.tail t = some r)
    (hO : ∀ (T : TypeId) (esz n c b : Nat), G.loc d = some b → G.tail d = some (b, n * esz, c * esz, T) → n ≤ c → 0 < esz → esz = Z → RepF G' w (.slice (some ⟨b, 0, none⟩) n c) (.tip d T esz yss))
    (hy : ∀ l k, G.yl l = some k → G'.yl l = some k := by intro _ _ h; exact h) : RepF G' w v (x.frO d Z yss) := by
  have get : ∀ {cs : List Value} {xs : List FV}, (∀ (i : Nat) (c : Value) (x : FV), cs[i]? = some c → xs[i]? = some x → RepF G' w c (x.frO d Z yss)) →
      ∀ (i : Nat) (c : Value) (x : FV), cs[i]? = some c → (FV.frOL d Z yss xs)[i]? = some x → RepF G' w c x := fun {cs xs} ih i c x h1 h2 => by
    rw [FV.frOL_eq, List.getElem?_map] at h2
    cases hx : xs[i]? with
    | none => simp [hx] at h2
    | some y => simp [hx] at h2; subst h2; exact ih i c y h1 hx
  induction h with
  | p v x h => exact .p v x (h.keep hi (fun _ _ _ _ h => h))
  | agg cs xs hn _ ih => exact .agg cs _ (by simpa [FV.frOL_eq] using hn) (get ih)
  | tup cs xs hn _ ih => exact .tup cs _ (by simpa [FV.frOL_eq] using hn) (get ih)
  | ptr o off b h =>
    simp only [FV.frO]
    split
    · exact .junk _
    · rename_i hb
      exact .ptr o off b (hl o b (Nat.ne_of_beq_eq_false hb) h)
  | tip t T esz xs a c h1 h2 =>
    simp only [FV.frO]
    split
    · exact .p _ _ (h1.keep hi (fun _ _ _ _ h => h))
    · refine .tip t T esz xs a c (h1.keep hi (fun _ _ _ _ h => h)) ?_
      rcases h2 with h2 | ⟨b, off, e1, e2, e3⟩
      · exact .inl h2
      · exact .inr ⟨b, off, e1, e2, ht _ _ e3⟩
  | full xs a h => exact .full xs a (h.keep hi (fun _ _ _ _ h => h))
  | fn f fs cs first captured hn hn' _ _ ih ih' => exact .fn f fs cs _ _ (by simpa [FV.frOL_eq] using hn) (by simpa [FV.frOL_eq] using hn') (get ih) (get ih')
  | yld l k h =>
    simp only [FV.frO]
    split
    · exact .junk _
    · exact .yld l k (hy _ _ h)
  | osl o T esz n c b h1 h2 h3 h4 =>
    simp only [FV.frO]
    split
    · rename_i hb
      obtain rfl := Nat.eq_of_beq_eq_true hb
      split
      · rename_i he
        exact hO T esz n c b h1 h2 h3 h4 (Nat.eq_of_beq_eq_true he)
      · exact .junk _
    · rename_i hb
      exact .osl o T esz n c b (hl o b (Nat.ne_of_beq_eq_false hb) h1) (ht o _ h2) h3 h4
  | eptr o base off b h =>
    simp only [FV.frO]
    split
    · exact .junk _
    · rename_i hb
      exact .eptr o base off b (hl o b (Nat.ne_of_beq_eq_false hb) h)
  | junk v => exact .junk v

theorem SimG.frzO (hs : SimG E G S a w) {d Z : Nat} {yss : List (List AV)} (hf : FrzO S d Z yss) : ∃ G', SimG E G' (S.frzO d Z yss) a w := by
  obtain ⟨⟨cells, hc, hy⟩, heach⟩ := hf
  generalize hys : yss.flatten = ys at hy
  obtain ⟨B, hB, hcell⟩ := hs.objs d cells hc
  obtain ⟨hl1, hl2, hl3⟩ := hs.locs d B hB
  obtain ⟨hlen, hget⟩ := FV.toAVs_get hy
  let G' : Ghost := { G with imm := fun b o => G.imm b o ∨ (b = B ∧ o < ys.length), loc := fun o => if o = d then none else G.loc o }
  have hone : ∀ y, y ∈ ys → y.one = true := fun y hy => by
    rw [← hys] at hy
    obtain ⟨zs, h1, h2⟩ := List.mem_flatten.1 hy
    exact (heach zs h1).2 y h2
  have floc : ∀ o b, G'.loc o = some b → o ≠ d ∧ G.loc o = some b := fun o b h => by
    simp only [G'] at h
    split at h
    · cases h
    · rename_i hne; exact ⟨hne, h⟩
  have hrep : ∀ (j : Nat) (y : AV), ys[j]? = some y → ∃ c, w.cell? ⟨B, j, none⟩ = some c ∧ Rep G'.imm w c y := fun j y hj => by
    obtain ⟨x, hx, hxy⟩ := hget j y hj
    obtain ⟨c, h2, h3⟩ := hcell j x hx
    exact ⟨c, h2, (h3.toAV hxy).keep (fun b o h => .inl h) (fun _ _ _ _ h => h)⟩
  have up : ∀ v x, RepF G w v x → RepF G' w v (x.frO d Z yss) := fun v x hv => by
    refine hv.frO (fun b o h => .inl h) (fun o b hne h => by simp only [G']; rw [if_neg hne]; exact h) (fun _ _ h => h) (fun T esz n c b h1 h2 h3 h4 h5 => ?_)
    obtain rfl : b = B := by rw [hB] at h1; exact (Option.some.inj h1).symm
    subst h5
    have h6 := (hs.locTail d d b _ h1 h2).2.2 cells hc
    simp only at h6
    have h7 : yss.flatten.length = yss.length * esz := by
      have : ∀ l : List (List AV), (∀ zs, zs ∈ l → zs.length = esz) → l.flatten.length = l.length * esz := by
        intro l
        induction l with
        | nil => intro _; simp
        | cons z l ih =>
          intro hl
          have e1 := hl z (by simp)
          have e2 := ih fun x hx => hl x (by simp [hx])
          simp only [List.flatten_cons, List.length_append, List.length_cons, e1, e2, Nat.add_mul, Nat.one_mul]
          omega
      exact this yss fun zs hz => (heach zs hz).1
    have h8 : yss.length = n := Nat.eq_of_mul_eq_mul_right h4 (by rw [← h7, hys, hlen, h6])
    subst h8
    refine .tip d T esz yss (some ⟨b, 0, none⟩) c (rep_flat h3 (fun zs hz => (heach zs hz).1) fun i zs j z hi hj => ?_) (.inr ⟨b, 0, rfl, fun zs hz => (heach zs hz).1, by rw [Nat.zero_add, Nat.zero_add]; exact h2⟩)
    rw [Nat.zero_add]
    have h9 : ys[i * esz + j]? = some z := by
      rw [← hys]
      exact flatten_get (fun zs hz => (heach zs hz).1) hi hj
    obtain ⟨c', k1, k2⟩ := hrep _ _ h9
    exact ⟨c', hone z (List.mem_of_getElem? h9), k1, .inr ⟨rfl, (List.getElem?_eq_some_iff.1 h9).1⟩, k2⟩
  refine ⟨G', hs.kept, hs.size, hs.ext'.move (FV.frO d Z yss) rfl rfl rfl up (.refl _), ?_, ?_, ?_, fun i hi => up _ _ (hs.tmps i hi), fun o cs ho => ?_, fun o b ho => ?_, fun o o' b h h' => hs.locInj o o' b (floc _ _ h).2 (floc _ _ h').2, fun o t b r h h' => TailOK.mono (hs.locTail o t b r (floc _ _ h).2 h') (fun bs q => ⟨bs, (getB_del q).2⟩) (fun cs q => ?_), fun t b s e T h => ?_, hs.tailInj⟩
  · refine hs.bld.keep rfl rfl (fun o bs q => ?_) (fun o _ _ q => ?_) (fun _ _ e => e) (Nat.le_refl _) (fun _ _ _ _ _ _ => rfl) (fun _ _ _ => rfl) (fun o r i e hi => ?_) (fun _ _ o' _ e => (floc o' _ e).2) (fun _ _ t q _ e => ⟨t, q, e⟩)
    · refine ⟨(getB_del q).2, ?_, rfl⟩
      have q := (getB_del q).2
      have hne : o ≠ d := fun e => by
        have := (hs.bld.at_ o bs q).1
        rw [e, hc] at this
        cases this
      simp only [G']
      rw [if_neg hne]
    · cases h' : Qv.getObj (frOObjs d Z yss S.objs) o with
      | none => exact h'
      | some cs =>
        obtain ⟨-, cs', h2, -⟩ := getObj_frO h'
        rw [q] at h2
        cases h2
    · rcases hi with hi | ⟨rfl, -⟩
      · exact hi
      · exact absurd hB ((hs.bld.row o _ e).2.2.2.1 d)
  · rintro b o (h | ⟨rfl, -⟩)
    · exact hs.immB b o h
    · exact .inr hl2
  · rintro b o (h | ⟨rfl, -⟩)
    · exact hs.immLt b o h
    · exact hl1
  · obtain ⟨hne, cs0, h2, rfl⟩ := getObj_frO ho
    obtain ⟨b, h3, h4⟩ := hs.objs o cs0 h2
    refine ⟨b, by simp only [G']; rw [if_neg hne]; exact h3, fun i x hx => ?_⟩
    rw [FV.frOL_eq, List.getElem?_map] at hx
    cases hq : cs0[i]? with
    | none => simp [hq] at hx
    | some y =>
      simp [hq] at hx
      subst hx
      obtain ⟨c, h5, h6⟩ := h4 i y hq
      exact ⟨c, h5, up _ _ h6⟩
  · obtain ⟨hne, ho'⟩ := floc o b ho
    obtain ⟨k1, k2, k3⟩ := hs.locs o b ho'
    refine ⟨k1, k2, fun i => ⟨?_, (k3 i).2⟩⟩
    rintro (h | ⟨e, -⟩)
    · exact (k3 i).1 h
    · exact hne (hs.locInj o d b ho' (by rw [e]; exact hB))
  · obtain ⟨-, cs0, h2, rfl⟩ := getObj_frO q
    exact ⟨cs0, h2, by rw [FV.frOL_eq, List.length_map]⟩
  · obtain ⟨k1, k2, kt, k3⟩ := hs.tails t b s e T h
    refine ⟨k1, k2, kt, fun i hi hi' => ?_⟩
    obtain ⟨k4, k5, k6⟩ := k3 i hi hi'
    refine ⟨k4, k5, ?_⟩
    rintro (h7 | ⟨rfl, hlt⟩)
    · exact k6 h7
    · have := (hs.locTail d t b _ hB h).2.2 cells hc
      simp only at this
      omega


end
end Qv
end

section
/- Every operation; regions in their own order. No condition. -/
set_option linter.unusedSimpArgs false
set_option linter.unusedVariables false
namespace Qv
open Go Go.RowKit

section
variable {E : Env} {G : Ghost} {S : AState} {a : Act} {w : World} {o : Oper}

theorem rep_undef (G : Ghost) (w : World) : RepF G w undef (.p (.tup [])) :=
  .p _ _ (Rep.tup (imm := G.imm) (w := w) [] [] rfl (fun i c x h _ => by cases i <;> cases h))

theorem got_sound (hs : SimG E G S a w) {dst : Option Nat} {r : Ret} {v : Value} {w' : World} (hb : Below w.heap.size w w') (hok : RetOK G.imm w.heap.size w' v r) :
    ∃ G', SimG E G' (S.got dst r) (a.put dst v) w' := by
  cases r with
  | val x => exact ⟨_, (hs.ext hb).put dst (RetOK.plainF (r := .val x) hok)⟩
  | vf x => exact ⟨_, (hs.ext hb).put dst (RetOK.plainF (r := .vf x) hok)⟩
  | fresh T esz xs =>
    cases dst with
    | none => exact ⟨_, hs.ext hb⟩
    | some d0 =>
      simp only [AState.got]
      generalize hd : S.off + d0 = d
      obtain ⟨ad, c, rfl, ⟨rfl, rfl, h⟩ | ⟨b, off, cs, fr, rfl, h1, h2, h3, hty, h4, h5⟩⟩ := hok
      · have hr : Rep (fun b o => G.imm b o ∨ (w.heap.size ≤ b ∧ b < w'.heap.size)) w' (.slice ad ([] : List (List AV)).length 0) (.sl []) :=
          h.keep2 fun b o c hi hc => ⟨hi.imp id fun h => ⟨h, World.block_lt_of_cell? w' _ hc⟩, hc⟩
        exact ⟨_, ((hs.ext hb).kill d).put (some d0) (x := .tip d T esz []) (.tip d T esz [] ad 0 hr (.inl ⟨rfl, rfl⟩))⟩
      · have hg := ((hs.extN hb fun b' o => ¬ (b' = b ∧ off + xs.length * esz ≤ o ∧ o < off + c * esz)).kill d).addTail (t := d) (B := b) (s := off + xs.length * esz) (e := off + c * esz) (T := T) (kill_none _ d) h2 (Nat.le_trans hs.kept.size h1) ⟨cs, fr, hty⟩
          (fun o h => by
            simp only [Ghost.free] at h
            split at h
            · cases h
            · have := (hs.locs o _ h).1; omega)
          (fun t' r h => by
            simp only [Ghost.free] at h
            split at h
            · cases h
            · have := (hs.tails t' _ r.1 r.2.1 r.2.2 h).1; omega)
          (fun o h => by
            simp only [Ghost.free] at h
            split at h
            · cases h
            · have := (hs.bld.row o _ h).2.1; omega)
          (fun i hi hi' => by
            obtain ⟨g1, g2⟩ := h4 i hi hi'
            refine ⟨g1, g2, ?_⟩
            rintro (h | ⟨-, -, h⟩)
            · have := hs.immLt _ _ h; omega
            · exact h ⟨rfl, hi, hi'⟩)
        refine ⟨_, hg.put (some d0) (x := .tip d T esz xs) (.tip d T esz xs _ c ?_ (.inr ⟨b, off, rfl, h3, by simp⟩))⟩
        exact h5.keep2 fun b o c hi hc => ⟨hi.imp id fun h => ⟨h.1, World.block_lt_of_cell? w' _ hc, h.2⟩, hc⟩

theorem wp_evAppend (hs : SimG E G S a w) {d : Nat} {K : AState → Prop} {x y : Operand} {t u : TypeId} (ho : o.op = .call ⟨.builtin .append, #[x, y], #[t, u]⟩) (hd : o.dst = some d)
    (h : evAppend E.C t u d S (S.val x) (S.val y) K) {next : Act → World → Prop} {Q : Exit → Act → World → Prop}
    (hn : ∀ S' a' w', K S' → Sim E S' a' w' → next a' w') : Owp E o a w next Q := by
  have hx := RepF.val hs x
  have hy := RepF.val hs y
  generalize S.val x = vx at h hx
  generalize S.val y = vy at h hy
  unfold evAppend at h
  split at h
  · rename_i e _ ui ht hui
    have hut := (E.C.ok ht).slice
    obtain ⟨dd, hud, hsh⟩ := (E.C.ok hui).und'
    split at h
    · exact h.elim
    · rename_i hlist
      have hdk : ∀ k, dd ≠ .int k := fun k e => by rw [← hsh, e] at hlist; simp [shapeOf, Shape.listy] at hlist
      split at h
      · exact h.elim
      · rename_i j hj
        have hok := E.C.ok hj
        split at h
        · exact h.elim
        · rename_i ys hys
          have fin : ∀ {k : Nat} {xs : List (List AV)} {ad : Option Addr} {c : Nat}, a.eval x = .slice ad xs.length c → Rep G.imm w (.slice ad xs.length c) (.sl xs) → (∀ zs, zs ∈ xs → zs.length = j.size) →
              ((xs = [] ∧ c = 0) ∨ ∃ b off, ad = some ⟨b, off, none⟩ ∧ G.tail k = some (b, off + xs.length * j.size, off + c * j.size, e)) →
              (∀ zs, zs ∈ ys → zs.length = j.size) → (xs.length + ys.length) * j.bytes ≤ 2 ^ 47 → j.bytes ≠ 0 → K ((S.kill k).put (some d) (.tip k e j.size (xs ++ ys))) → Owp E o a w next Q := fun {k xs ad c} ev hr hlx hroom hly hb hb0 hK => by
            obtain ⟨news, n1, n2, n3⟩ := hy.items (P := E.C.P) (e := j.size) hys hly
            obtain ⟨_, _, hv, hle, -⟩ := hr.sl_inv
            have hcle : xs.length ≤ c := by injection hv with e1 e2 e3; omega
            obtain ⟨v', w', G', r1, r2, r3⟩ := append_core (ty := o.type) hs hut hud hdk hok hr hlx hly hcle hroom n1 n2 n3 hb hb0
            refine wp_value (v := v') (w' := w') ?_ (hn _ _ _ hK ⟨G', ?_⟩)
            · simp [execOp, ho, resolve, invoke, builtin, ev, r1]
            · rw [hd]
              exact r2.put (some d) r3
          split at h
          · rename_i k T esz xs
            split at h
            · rename_i he hb0 hT
              obtain rfl := Nat.eq_of_beq_eq_true he
              obtain rfl := Nat.eq_of_beq_eq_true hT
              obtain ⟨hlx, hly, hb, zs, rfl, hK⟩ := h
              generalize hev : a.eval x = v at hx
              cases hx with
              | tip _ _ _ _ ad c hr hroom =>
              exact fin hev hr hlx (hroom.imp id fun ⟨b, off, e1, _, e2⟩ => ⟨b, off, e1, e2⟩) hly hb (Nat.ne_of_beq_eq_false hb0) hK
            · exact h.elim
          · split at h
            · rename_i hb0
              obtain ⟨hly, hb, hK⟩ := h
              rw [withNm_eq] at hK
              generalize hev : a.eval x = v at hx
              cases hx with
              | full _ ad hr =>
              exact fin (k := S.off + d) hev hr (by simp) (.inl ⟨rfl, rfl⟩) hly (by simpa using hb) (Nat.ne_of_beq_eq_false hb0) (by simpa using hK)
            · exact h.elim
          · exact h.elim
  · exact h.elim

/-! ### An object that is not changed any more -/

theorem getObj_fz {d o : Nat} {ys : List AV} {cells : List FV} : ∀ {l : List (Nat × List FV)}, Qv.getObj (fzObjs d ys l) o = some cells → o ≠ d ∧ ∃ cs, Qv.getObj l o = some cs ∧ cells = FV.fzL d ys cs := by
  intro l
  induction l with
  | nil => intro h; cases h
  | cons p l ih =>
    obtain ⟨u, i⟩ := p
    intro h
    simp only [fzObjs] at h
    split at h
    · rename_i hb
      obtain rfl := Nat.eq_of_beq_eq_true hb
      obtain ⟨h1, cs, h2, h3⟩ := ih h
      refine ⟨h1, cs, ?_, h3⟩
      simp only [Qv.getObj]
      have : Nat.beq u o = false := by
        cases hb : Nat.beq u o
        · rfl
        · exact absurd (Nat.eq_of_beq_eq_true hb).symm h1
      rw [this]; exact h2
    · rename_i hb
      simp only [Qv.getObj] at h ⊢
      split at h
      · rename_i hb2
        obtain rfl := Nat.eq_of_beq_eq_true hb2
        obtain rfl := Option.some.inj h
        exact ⟨Nat.ne_of_beq_eq_false hb, i, rfl, rfl⟩
      · rename_i hb2
        exact ih h

theorem allOneA_all {ys : List AV} (h : allOneA ys = true) : ∀ y, y ∈ ys → y.one = true := by
  induction ys with
  | nil => simp
  | cons x xs ih =>
    simp only [allOneA] at h
    split at h
    · rename_i h1
      intro y hy
      rcases List.mem_cons.1 hy with rfl | hy
      · exact h1
      · exact ih h y hy
    · cases h

theorem SimG.frz (hs : SimG E G S a w) {d : Nat} {cells : List FV} {ys : List AV} (hc : Qv.getObj S.objs d = some cells) (hy : FV.toAVs cells = some ys) (h1 : allOneA ys = true) :
    ∃ G', SimG E G' (S.frz d ys) a w := by
  obtain ⟨B, hB, hcell⟩ := hs.objs d cells hc
  obtain ⟨hl1, hl2, hl3⟩ := hs.locs d B hB
  obtain ⟨hlen, hget⟩ := FV.toAVs_get hy
  let G' : Ghost := { G with imm := fun b o => G.imm b o ∨ (b = B ∧ o < ys.length), loc := fun o => if o = d then none else G.loc o }
  have hone := allOneA_all h1
  have floc : ∀ o b, G'.loc o = some b → o ≠ d ∧ G.loc o = some b := fun o b h => by
    simp only [G'] at h
    split at h
    · cases h
    · rename_i hne; exact ⟨hne, h⟩
  have up : ∀ v x, RepF G w v x → RepF G' w v (x.fz d ys) := fun v x hv => by
    refine hv.fz (B := B) (fun b o h => .inl h) (fun b h => by rw [hB] at h; exact (Option.some.inj h).symm) (fun j y hj => ?_) (fun o b hne h => by simp only [G']; rw [if_neg hne]; exact h) (fun _ _ h => h)
    obtain ⟨x, hx, hxy⟩ := hget j y hj
    obtain ⟨c, h2, h3⟩ := hcell j x hx
    exact ⟨hone y (List.mem_of_getElem? hj), .inr ⟨rfl, (List.getElem?_eq_some_iff.1 hj).1⟩, c, h2, (h3.toAV hxy).keep (fun b o h => .inl h) (fun _ _ _ _ h => h)⟩
  refine ⟨G', hs.kept, hs.size, hs.ext'.move (FV.fz d ys) rfl rfl rfl up (.refl _), ?_, ?_, ?_, fun i hi => up _ _ (hs.tmps i hi), fun o cs ho => ?_, fun o b ho => ?_, fun o o' b h h' => hs.locInj o o' b (floc _ _ h).2 (floc _ _ h').2, fun o t b r h h' => TailOK.mono (hs.locTail o t b r (floc _ _ h).2 h') (fun bs q => ⟨bs, q⟩) (fun cs q => ?_), fun t b s e T h => ?_, hs.tailInj⟩
  · refine hs.bld.keep rfl rfl (fun o bs q => ?_) (fun o _ _ q => ?_) (fun _ _ e => e) (Nat.le_refl _) (fun _ _ _ _ _ _ => rfl) (fun _ _ _ => rfl) (fun o r i e hi => ?_) (fun _ _ o' _ e => (floc o' _ e).2) (fun _ _ t q _ e => ⟨t, q, e⟩)
    · refine ⟨q, ?_, rfl⟩
      have hne : o ≠ d := fun e => by
        have := (hs.bld.at_ o bs q).1
        rw [e, hc] at this
        cases this
      simp only [G']
      rw [if_neg hne]
    · cases h' : Qv.getObj (fzObjs d ys S.objs) o with
      | none => exact h'
      | some cs =>
        obtain ⟨-, cs', h2, -⟩ := getObj_fz h'
        rw [q] at h2
        cases h2
    · rcases hi with hi | ⟨rfl, -⟩
      · exact hi
      · exact absurd hB ((hs.bld.row o _ e).2.2.2.1 d)
  · rintro b o (h | ⟨rfl, -⟩)
    · exact hs.immB b o h
    · exact .inr hl2
  · rintro b o (h | ⟨rfl, -⟩)
    · exact hs.immLt b o h
    · exact hl1
  · obtain ⟨hne, cs0, h2, rfl⟩ := getObj_fz ho
    obtain ⟨b, h3, h4⟩ := hs.objs o cs0 h2
    refine ⟨b, by simp only [G']; rw [if_neg hne]; exact h3, fun i x hx => ?_⟩
    rw [FV.fzL_eq, List.getElem?_map] at hx
    cases hq : cs0[i]? with
    | none => simp [hq] at hx
    | some y =>
      simp [hq] at hx
      subst hx
      obtain ⟨c, h5, h6⟩ := h4 i y hq
      exact ⟨c, h5, up _ _ h6⟩
  · obtain ⟨hne, ho'⟩ := floc o b ho
    obtain ⟨k1, k2, k3⟩ := hs.locs o b ho'
    refine ⟨k1, k2, fun i => ⟨?_, (k3 i).2⟩⟩
    rintro (h | ⟨e, -⟩)
    · exact (k3 i).1 h
    · exact hne (hs.locInj o d b ho' (by rw [e]; exact hB))
  · obtain ⟨-, cs0, h2, rfl⟩ := getObj_fz q
    exact ⟨cs0, h2, by rw [FV.fzL_eq, List.length_map]⟩
  · obtain ⟨k1, k2, kt, k3⟩ := hs.tails t b s e T h
    refine ⟨k1, k2, kt, fun i hi hi' => ?_⟩
    obtain ⟨k4, k5, k6⟩ := k3 i hi hi'
    refine ⟨k4, k5, ?_⟩
    rintro (h7 | ⟨rfl, hlt⟩)
    · exact k6 h7
    · have := (hs.locTail d t b _ hB h).2.2 cells hc
      simp only at this
      omega

theorem evFrz_sound : ∀ (ds : List Nat) {K : AState → Prop} {S : AState}, evFrz ds K S → Sim E S a w → ∃ S', K S' ∧ Sim E S' a w
  | [], _, S, h, hs => ⟨S, h, hs⟩
  | d :: ds, K, S, h, ⟨G, hs⟩ => by
    simp only [evFrz] at h
    split at h
    · exact h.elim
    · rename_i cells hc
      split at h
      · exact h.elim
      · rename_i ys hy
        split at h
        · rename_i h1
          exact evFrz_sound ds h (hs.frz hc hy h1)
        · exact h.elim

/-! ### Frames that wait -/

def marksOf : List Deferred → List Nat
  | [] => []
  | d :: ds => match d.target with
    | .collected r => r :: marksOf ds
    | _ => marksOf ds

theorem marksOf_map (ms : List Nat) : marksOf (ms.map mark) = ms := by
  induction ms with
  | nil => rfl
  | cons m ms ih => simp [marksOf, ih]

/-- A frame of its own in front. -/
def Env.push (E : Env) (a : Act) : Env := { E with rnd := none, susp := a.tmps :: E.susp, fixed := marksOf a.defers ++ E.fixed }

/-- What the caller of a 'yield' gets, wherever the frames stand by now. -/
def YldSound (E : Env) (Y : Yld) : Prop :=
  ∀ (rnd : Option Nat) (xs : List (Array Value)) (ls : List (Nat × Loop)) (fixed : List Nat) (G : Ghost) (S : AState) (a : Act) (w : World) (l k : Nat) (args : List FV) (K : FV → AState → Prop) (vals : List Value),
    SimG { E with rnd := rnd, susp := xs ++ E.susp, loops := E.loops ++ ls, fixed := fixed } G S a w → G.yl l = some k → Y l args K S →
    vals.length = args.length → (∀ (i : Nat) (v : Value) (x : FV), vals[i]? = some v → args[i]? = some x → RepF G w v x) →
    YieldAt Fence.wide 0 E.C.P k vals.toArray w fun e w' => ∃ v x G' S', e = .returned v ∧ K x S' ∧
      SimG { E with rnd := rnd, susp := xs ++ E.susp, loops := E.loops ++ ls, fixed := fixed } G' S' a w' ∧ RepF G' w' v x

theorem YldSound.later {Y : Yld} (h : YldSound E Y) (rnd : Option Nat) (xs : List (Array Value)) (ls : List (Nat × Loop)) (fixed : List Nat) :
    YldSound { E with rnd := rnd, susp := xs ++ E.susp, loops := E.loops ++ ls, fixed := fixed } Y := by
  intro rnd' xs' ls' fixed' G S a w l k args K vals hs
  simp only [← List.append_assoc] at hs ⊢
  rw [List.append_assoc E.loops ls ls'] at hs ⊢
  exact h rnd' (xs' ++ xs) (ls ++ ls') fixed' G S a w l k args K vals hs

theorem YldSound.push {Y : Yld} (h : YldSound E Y) (a : Act) : YldSound (E.push a) Y := by
  have := h.later none [a.tmps] [] (marksOf a.defers ++ E.fixed)
  simp only [List.append_nil] at this
  exact this

/-- What a call that is walked where it stands gives. -/
def CallOK (C : Ctx) (call : CallH) : Prop :=
  ∀ (E : Env), E.C = C → ∀ (Y : Yld) (g : FuncId) (args : List FV) (K : FV → AState → Prop) (G : Ghost) (S : AState) (a : Act) (w : World) (vals : List Value),
    SimG E G S a w → YldSound (E.push a) Y → call Y g args K S →
    vals.length = args.length → (∀ (i : Nat) (v : Value) (x : FV), vals[i]? = some v → args[i]? = some x → RepF G w v x) →
    (∃ fn, C.P.funcs[g]? = some fn ∧ fn.body.isNone = false ∧ (fn.name == "runtime.NumGoroutine") = false) ∧
    CallsIn Fence.wide 0 C.P g vals.toArray w fun e w' => ∃ v x G' S', e = .returned v ∧ K x S' ∧ SimG E G' S' a w' ∧ RepF G' w' v x

theorem fence_eq {P : Program} {f : FuncId} {args : Array Value} {w : World} {R : Ending → World → Prop} (h : CallsIn Fence.wide 0 P f args w R) : CallsIn E.fence 0 P f args w R := by
  unfold Env.fence
  split
  · exact h
  · exact CallsIn.inRound _ h

theorem fence_round {P : Program} {l : Nat} {f : FuncId} {tmps : Array Value} {assign body : Code} {w : World} {R : Ending → World → Prop} (h : RoundIn Fence.wide 0 P l f tmps assign body w R) :
    RoundIn E.fence 0 P l f tmps assign body w R := by
  unfold Env.fence
  split
  · exact h
  · exact h

theorem mapP_rep {imm : Nat → Nat → Prop} {cs : List Value} {xs : List AV} (h : cs.length = xs.length ∧ ∀ (i : Nat) (c : Value) (x : AV), cs[i]? = some c → xs[i]? = some x → Rep imm w c x) (hi : imm = G.imm) :
    cs.length = (mapP xs).length ∧ ∀ (i : Nat) (c : Value) (x : FV), cs[i]? = some c → (mapP xs)[i]? = some x → RepF G w c x := by
  rw [mapP_eq]
  refine ⟨by simp [h.1], fun i c x hc hx => ?_⟩
  rw [List.getElem?_map] at hx
  cases hq : xs[i]? with
  | none => simp [hq] at hx
  | some y => simp [hq] at hx; subst hx; exact .p _ _ (hi ▸ h.2 i c y hc hq)

/-- What is plain leans on nothing where it came of plain arguments. -/
theorem wp_bld (hs : SimG E G S a w) {f : Operand} {args : Array Operand} {types : Array TypeId} {g : FuncId} {first captured : Array Value} {ob : Nat} {bs : List UInt8} {rest : List FV} {K : AState → Prop}
    (ho : o.op = .call ⟨.value f, args, types⟩) (hf : a.eval f = .func (.func g) first captured)
    (hr : (first ++ args.map a.eval ++ captured).toList.length = (FV.ptr ob 0 :: rest).length ∧ ∀ (i : Nat) (c : Value) (x : FV), (first ++ args.map a.eval ++ captured).toList[i]? = some c → (FV.ptr ob 0 :: rest)[i]? = some x → RepF G w c x)
    (hob : getB S.blds ob = some bs) (h : evBld E.C S o.dst g ob bs rest K) {next : Act → World → Prop} {Q : Exit → Act → World → Prop}
    (hn : ∀ S' a' w', K S' → Sim E S' a' w' → next a' w') : Owp E o a w next Q := by
  unfold evBld at h
  split at h
  · exact h.elim
  · rename_i xs hxs
    obtain ⟨hflat, out, r, ⟨⟨fn, h1, h2, h3⟩, hc⟩, hk⟩ := h
    generalize hvs : (first ++ args.map a.eval ++ captured) = vs at hr
    obtain ⟨vs⟩ := vs
    match vs, hr with
    | [], hr => simp at hr
    | v0 :: vs, hr =>
    obtain ⟨b, rfl, hl⟩ := (hr.2 0 v0 _ rfl rfl).ptr_inv
    obtain ⟨-, b0, hl0, hat⟩ := hs.bld.at_ ob bs hob
    rw [hl] at hl0
    obtain rfl := Option.some.inj hl0
    have hrest := toAVs_rep (G := G) (w := w) (cs := vs) (xs := rest) ⟨by simpa using hr.1, fun i c x q1 q2 => hr.2 (i + 1) c x (by simpa using q1) (by simpa using q2)⟩ hxs
    have := hc w b (G.row ob) vs hs.J.1 hat hrest.1 (fun i v x q1 q2 => (hrest.2 i v x q1 q2).flat (flatL_mem hflat x (List.mem_of_getElem? q2)))
    refine ⟨fun f _ => Env.fence_fn f, ?_⟩
    have hvs' : first ++ args.map a.eval ++ captured = (.pointer (some ⟨b, 0, none⟩) :: vs).toArray := by rw [hvs]
    rw [Oper.semAt_eq _ _ _ (fun c => by rw [ho]; simp), run_call ho hf h1 h2 h3, Oper.uponIn_enter, hvs']
    refine ⟨fun h => (by rw [Env.fence_depth] at h; cases h), callsIn_fence (Calls.mono this ?_)⟩
    rintro e w' ⟨v, rfl, hv, hout, f1, f2, f3, f4, f5⟩
    have hv' : ∀ {G' : Ghost}, RepF G' w' v (.p r) := fun {G'} => .p _ _ (hv.keep (fun _ _ h => h.elim) (fun _ _ _ h => h.elim))
    cases out with
    | some bs' =>
      obtain ⟨row', hat', hrow⟩ := hout
      have hlt : ∀ x, row' = some x → x < w'.heap.size := fun x hx => by
        obtain ⟨p, u, -, -, h6⟩ := hat'
        rw [hx] at h6
        obtain ⟨-, cap, cur, -, h7, -⟩ := h6
        exact (Array.getElem?_eq_some_iff.1 h7).1
      obtain ⟨hg, -⟩ := hs.bldStep (blds' := setB S.blds ob bs') (row' := row') hob hl (by obtain ⟨p, u, -, h6, -⟩ := hat'; exact ⟨_, _, h6⟩) (hrow.imp id fun ⟨x, q1, q2⟩ => .inr ⟨x, q1, q2, hlt x q1⟩) (fun x hx => by
          obtain ⟨p, u, -, -, h6⟩ := hat'
          rw [hx] at h6
          obtain ⟨-, cap, cur, -, h7, -⟩ := h6
          exact ⟨_, _, _, h7⟩) f1 f2 f3 f4 f5
        (fun q bs2 hq => (getB_set hq).imp (fun ⟨q1, q2⟩ => ⟨q1, q2 ▸ hat'⟩) id)
      exact hn _ _ _ hk ⟨_, hg.put o.dst hv'⟩
    | none =>
      obtain ⟨hg, -⟩ := hs.bldStep (blds' := delB ob S.blds) (row' := none) hob hl hout (.inr (.inl rfl)) (fun x hx => by cases hx) f1 f2 f3 f4 f5 (fun q bs2 hq => .inr (getB_del hq))
      exact hn _ _ _ hk ⟨_, hg.put o.dst hv'⟩

/-- A call walked where it stands, or a function of the outside that hands its argument back. -/
theorem wp_inl (hs : SimG E G S a w) {call : CallH} {Y : Yld} (hcall : CallOK E.C call) (hY : YldSound E Y) {f : Operand} {args : Array Operand} {types : Array TypeId} {g : FuncId} {first captured : Array Value} {xs : List FV} {K : AState → Prop}
    (ho : o.op = .call ⟨.value f, args, types⟩) (hf : a.eval f = .func (.func g) first captured)
    (hr : (first ++ args.map a.eval ++ captured).toList.length = xs.length ∧ ∀ (i : Nat) (c : Value) (x : FV), (first ++ args.map a.eval ++ captured).toList[i]? = some c → xs[i]? = some x → RepF G w c x)
    (h : evInl E.C call Y S o.dst g xs K) {next : Act → World → Prop} {Q : Exit → Act → World → Prop}
    (hn : ∀ S' a' w', K S' → Sim E S' a' w' → next a' w') : Owp E o a w next Q := by
  unfold evInl at h
  split at h
  · rename_i ob bs rest hb
    unfold bldArg at hb
    split at hb
    · split at hb
      · rename_i hob
        have hb := Option.some.inj hb
        injection hb with e1 e2
        injection e2 with e2 e3
        subst e1; subst e2; subst e3
        exact wp_bld hs ho hf hr hob h hn
      · cases hb
    · cases hb
  rename_i hnb
  rcases h with h | ⟨hx, h⟩
  · obtain ⟨⟨fn, h1, h2, h3⟩, hc⟩ := hcall E rfl Y g xs _ G S a w _ hs (hY.push a) h hr.1 hr.2
    refine ⟨fun f _ => Env.fence_fn f, ?_⟩
    rw [Oper.semAt_eq _ _ _ (fun c => by rw [ho]; simp), run_call ho hf h1 h2 h3, Oper.uponIn_enter]
    refine ⟨fun h => (by rw [Env.fence_depth] at h; cases h), fence_eq (CallsIn.mono hc ?_)⟩
    rintro e w' ⟨v, x, G', S', rfl, hK, hs', hv⟩
    exact hn _ _ _ hK ⟨G', hs'.put o.dst hv⟩
  · clear hnb
    split at h
    · rename_i x
      generalize hargs : (first ++ args.map a.eval ++ captured) = vs at hr
      obtain ⟨vs⟩ := vs
      match vs, hr with
      | [v], hr =>
        have hv := hr.2 0 v x rfl rfl
        refine wp_value (v := v) (w' := w) ?_ (hn _ _ _ h ⟨G, hs.put o.dst hv⟩)
        have := hx v w
        simp [execOp, ho, resolve, hf, Deferred.ofValue, invoke, hargs, this]
      | [], hr => simp at hr
      | _ :: _ :: _, hr => simp at hr
    · exact h.elim

theorem wp_yield (hs : SimG E G S a w) {Y : Yld} (hY : YldSound E Y) {f : Operand} {args : Array Operand} {types : Array TypeId} {l : Nat} {K : AState → Prop}
    (ho : o.op = .call ⟨.value f, args, types⟩) (hf : S.val f = .yld l)
    (h : Y l (args.toList.map S.val) (fun v S' => K (S'.put o.dst v)) S) {next : Act → World → Prop} {Q : Exit → Act → World → Prop}
    (hn : ∀ S' a' w', K S' → Sim E S' a' w' → next a' w') : Owp E o a w next Q := by
  have hfv := RepF.val hs f
  rw [hf] at hfv
  generalize hev : a.eval f = v at hfv
  cases hfv with
  | yld _ k hk =>
  have hv := vals_rep hs args.toList
  have hY' := hY E.rnd [] [] E.fixed G S a w l k
  simp only [List.nil_append, List.append_nil] at hY'
  have := hY' _ _ _ hs hk h hv.1 hv.2
  obtain ⟨fn, tmps, assign, body, h1, h2⟩ := this
  refine ⟨fun f _ => Env.fence_fn f, ?_⟩
  have hrun : (execOp a.eval o).run E.C.P w = .ok (.round k fn tmps assign body) w := by
    have he : (args.toList.map a.eval).toArray = args.map a.eval := by
      apply Array.toList_inj.1
      rw [Array.toList_map]
    rw [he] at h1
    simp [execOp, ho, resolve, hev, Deferred.ofValue, invoke, h1]
  rw [Oper.semAt_eq _ _ _ (fun c => by rw [ho]; simp), hrun, Oper.uponIn_round]
  refine ⟨fun h => (by rw [Env.fence_depth] at h; cases h), fence_round (RoundIn.mono h2 ?_)⟩
  rintro e w' ⟨v, x, G', S', rfl, hK, hs', hv⟩
  exact hn _ _ _ hK ⟨G', hs'.put o.dst hv⟩

theorem wp_buildSlice (hs : SimG E G S a w) {t e : TypeId} {len : Nat} {parts : Array (Nat × Operand)} {d0 : Nat} {K : AState → Prop} {sa sb : Nat} {sz : List Value} (ho : o.op = .buildSlice t len parts) (hd0 : o.dst = some d0)
    (ht : tabGet E.C.tab t = some ⟨sa, sb, .slice e, sz⟩)
    (h : evBuildSlice E.C S t len parts.toList fun v => match v with
      | .full xs => match tabGet E.C.tab e with
        | none => False
        | some j => withNm S d0 fun nm => K ((S.kill nm).put (some d0) (.tip nm e j.size xs))
      | _ => False) {next : Act → World → Prop} {Q : Exit → Act → World → Prop}
    (hn : ∀ S' a' w', K S' → Sim E S' a' w' → next a' w') : Owp E o a w next Q := by
  obtain ⟨xs, us, e', j, ⟨_, _, _, ht'⟩, hj, hK, hrun, hlen, hr⟩ := buildSlice_core hs ho h
  rw [ht] at ht'
  have := Option.some.inj ht'
  injection this with _ _ q _
  injection q with q
  subst q
  simp only [hj, withNm_eq] at hK
  generalize hd : S.off + d0 = d at hK
  have hbel : Below w.heap.size w (w.alloc (.cells us e)) := (Below.refl _ _).alloc (Nat.le_refl _) _
  have hsz : (w.alloc (.cells us e)).heap.size = w.heap.size + 1 := World.size_alloc w _
  have hg := ((hs.extN hbel fun b o => o < xs.length * j.size).kill d).addTail (t := d) (B := w.heap.size) (s := xs.length * j.size) (e := xs.length * j.size) (T := e) (kill_none _ d) (by rw [hsz]; omega) hs.kept.size ⟨_, _, World.alloc_heap_new w _⟩
    (fun o h => by
      simp only [Ghost.free] at h
      split at h
      · cases h
      · have := (hs.locs o _ h).1; omega)
    (fun t' r h => by
      simp only [Ghost.free] at h
      split at h
      · cases h
      · have := (hs.tails t' _ r.1 r.2.1 r.2.2 h).1; omega)
    (fun o h => by
      simp only [Ghost.free] at h
      split at h
      · cases h
      · have := (hs.bld.row o _ h).2.1; omega)
    (fun i hi hi' => by omega)
  refine wp_value hrun ?_
  rw [hd0]
  exact hn _ _ _ hK ⟨_, hg.put (some d0) (x := .tip d e j.size xs) (.tip d e j.size xs (some ⟨w.heap.size, 0, none⟩) xs.length hr (.inr ⟨w.heap.size, 0, rfl, hlen, by simp⟩))⟩

/-- **Every operation.** -/
theorem evOp_sound {call : CallH} {Y : Yld} (hcall : CallOK E.C call) (hY : YldSound E Y) (hs : SimG E G S a w) {K : AState → Prop} (h : evOp E.C call Y o K S) {next : Act → World → Prop} {Q : Exit → Act → World → Prop}
    (hn : ∀ S' a' w', K S' → Sim E S' a' w' → next a' w') : Owp E o a w next Q := by
  have viaVal : evVal E.C S o.op (fun v => K (S.put o.dst v)) → Owp E o a w next Q := fun h =>
    evVal_sound hs h fun x v G' w' hk hs' hv => hn _ _ _ hk ⟨G', hs'.put o.dst hv⟩
  unfold evOp at h
  split at h
  · -- makeFunc
    rename_i fn first captured hop
    obtain ⟨fr, h⟩ := h
    obtain ⟨S', h, G', hs'⟩ := evFrz_sound fr h ⟨G, hs⟩
    simp only [forceL_eq] at h
    exact wp_of_yields hs' (yields_makeFunc (K := fun x => K (S'.put o.dst x)) hs' hop h) fun x v G' w' hk hs' hv => hn _ _ _ hk ⟨G', hs'.put o.dst hv⟩
  · -- buildSlice
    rename_i t len parts hop
    split at h
    · rename_i d _ _ e _ hd ht
      split at h
      · exact wp_openSlice hs hop hd ht h hn
      · exact wp_buildSlice hs hop hd ht h hn
    · exact h.elim
  · -- alloc
    rename_i t hop
    split at h
    · rename_i d i hd hi
      obtain ⟨z, hz, hzc⟩ := (E.C.ok hi).zeroV w
      obtain ⟨G', hg, hgl, hgr⟩ := newObj_sound hs d i.zero (i.zero.map FV.ofVal1) t (repL_zero _)
      have hrun : (execOp a.eval o).run E.C.P w = .ok (.value (.pointer (some ⟨w.heap.size, 0, none⟩))) (w.alloc (.cells i.zero.toArray t)) := by
        have : z.cells = i.zero.toArray := by rw [← hzc]
        simp [execOp, hop, Instr.alloc, hz, newVar, newRow, this]
      split at h
      · rename_i hbt hz0
        obtain rfl := Nat.eq_of_beq_eq_true hbt
        rw [newBldK_eq] at h
        refine wp_value hrun (hn _ _ _ h ⟨G', ?_⟩)
        rw [hd]
        have hw : (w.alloc (.cells i.zero.toArray E.C.bT)).heap[w.heap.size]? = some (.cells #[.pointer none, .slice none 0 0] E.C.bT (0, 0)) := by
          rw [World.alloc_heap_new, hz0]
        exact hg.toBld (rest := S.objs) rfl hgl hgr.1 hgr.2 hw
      · rw [forceL_eq, newObjK_eq] at h
        refine wp_value hrun (hn _ _ _ h ⟨G', hd ▸ hg⟩)
    · exact h.elim
  · -- box
    rename_i t x hop
    split at h
    · rename_i d i hd hi
      split at h
      · rename_i hl
        split at h
        · rename_i h1
          rw [forceL_eq, newObjK_eq] at h
          have hx := RepF.val hs x
          obtain ⟨hcr, -⟩ := cells_rep hx h1
          obtain ⟨G', hg, -, -⟩ := newObj_sound hs d (a.eval x).cells.toList (S.val x).cells t hcr
          refine wp_value (v := .pointer (some ⟨w.heap.size, 0, none⟩)) (w' := w.alloc (.cells (a.eval x).cells.toList.toArray t)) ?_ (hn _ _ _ h ⟨G', hd ▸ hg⟩)
          simp [execOp, hop, Instr.box, newVar, newRow]
        · exact h.elim
      · exact h.elim
    · exact h.elim
  · -- store
    rename_i t ad x hop
    split at h
    · rename_i i ob off hi hob
      split at h
      · exact h.elim
      · rename_i cells hcells
        split at h
        · rename_i hl
          split at h
          · rename_i h1
            split at h
            · rename_i cs hcs
              rw [forceL_eq] at h
              have hx := RepF.val hs x
              have had := RepF.val hs ad
              rw [hob] at had
              obtain ⟨b, hv, hloc⟩ := had.ptr_inv
              obtain ⟨hg, hrun⟩ := store_sound hs hcells hloc hx h1 hcs
              obtain ⟨hcr, -⟩ := cells_rep hx h1
              have hsz : (a.eval x).cells.size = i.size := by
                rw [← Nat.eq_of_beq_eq_true hl, ← hcr.1]; simp
              have hr : (execOp a.eval o).run E.C.P w = .ok .skip (w.setCells b off (a.eval x).cells.toList) := by
                simp [execOp, hop, hv, Instr.storeAt, Instr.sureAddr, storeVar, (E.C.ok hi).sizeOf, hsz, hrun]
              refine ⟨fun f _ => Env.fence_fn f, ?_⟩
              rw [Oper.semAt_eq _ _ _ (fun c => by rw [hop]; simp), hr]
              exact hn _ _ _ h ⟨G, hg.put o.dst (v := undef) (rep_undef _ _)⟩
            · exact h.elim
          · exact h.elim
        · exact h.elim
    · rename_i i ob base off hi hob
      split at h
      · exact h.elim
      · rename_i cells hcells
        split at h
        · rename_i hl
          split at h
          · rename_i h1
            obtain ⟨A, ys, B, hmid, hA, h⟩ := h
            split at h
            · rename_i zs hzs
              rw [forceL_eq] at h
              obtain ⟨cs, rfl, h⟩ := h
              have hx := RepF.val hs x
              have had := RepF.val hs ad
              rw [hob] at had
              obtain ⟨b, hv, hloc⟩ := had.eptr_inv.ptr_inv
              have hcs : setRange cells (base + off) (S.val x).cells = some (A ++ (zs ++ B)) := by rw [hmid]; exact setRange_mid hA hzs
              obtain ⟨hg, hrun⟩ := store_sound hs hcells hloc hx h1 hcs
              obtain ⟨hcr, -⟩ := cells_rep hx h1
              have hsz : (a.eval x).cells.size = i.size := by
                rw [← Nat.eq_of_beq_eq_true hl, ← hcr.1]; simp
              have hr : (execOp a.eval o).run E.C.P w = .ok .skip (w.setCells b (base + off) (a.eval x).cells.toList) := by
                simp [execOp, hop, hv, Instr.storeAt, Instr.sureAddr, storeVar, (E.C.ok hi).sizeOf, hsz, hrun]
              refine ⟨fun f _ => Env.fence_fn f, ?_⟩
              rw [Oper.semAt_eq _ _ _ (fun c => by rw [hop]; simp), hr]
              exact hn _ _ _ h ⟨G, hg.put o.dst (v := undef) (rep_undef _ _)⟩
            · exact h.elim
          · exact h.elim
        · exact h.elim
    · exact h.elim
  · -- calls
    rename_i c hop
    obtain ⟨callee, args, types⟩ := c
    simp only at h
    split at h
    · -- append
      split at h
      · rename_i vx vy t u d hargs htypes hd
        obtain ⟨args⟩ := args
        obtain ⟨types⟩ := types
        simp only at hargs htypes
        subst htypes
        cases args with
        | nil => simp at hargs
        | cons x args =>
        cases args with
        | nil => simp at hargs
        | cons y args =>
        cases args with
        | cons z args => simp at hargs
        | nil =>
        simp only [List.map_cons, List.map_nil, List.cons.injEq, and_true] at hargs
        obtain ⟨rfl, rfl⟩ := hargs
        split at h
        · rename_i o2 T2 e2 hy2
          exact wp_evAppO hs hop hd hy2 h hn
        · exact wp_evAppend hs hop hd h hn
      · exact h.elim
    · -- other builtins
      exact wp_of_yields hs (yields_builtin hs hop h) fun x v G' w' hk hs' hv => hn _ _ _ hk ⟨G', hs'.put o.dst hv⟩
    · -- functions
      rename_i f
      have hfv := RepF.val hs f
      unfold evCall at h
      have byC : ∀ {g : FuncId} {first captured : Array Value} {xs : List AV}, a.eval f = .func (.func g) first captured →
          ((first ++ args.map a.eval ++ captured).toList.length = xs.length ∧ ∀ (i : Nat) (c : Value) (x : AV), (first ++ args.map a.eval ++ captured).toList[i]? = some c → xs[i]? = some x → Rep G.imm w c x) →
          (∃ R, CallsTo E.C g xs R ∧ ∀ r, R r → gotK S o.dst r K) → Owp E o a w next Q := fun hv hr ⟨R, hc, hk⟩ =>
        wp_call hs hop hv hr hc fun r v w' hR hb hok => by
          obtain ⟨G', hg⟩ := got_sound hs (dst := o.dst) hb hok
          exact hn _ _ _ (gotK_eq S o.dst r K ▸ hk r hR) ⟨G', hg⟩
      split at h
      · rename_i g first captured hf
        rw [hf] at hfv
        obtain ⟨fs, cs, hv, h1, h2⟩ := fn_inv hfv
        split at h
        · have h3 := appendF_rep (appendF_rep (mapP_rep (G := G) h1 rfl) (vals_rep hs args.toList)) (mapP_rep (G := G) h2 rfl)
          exact wp_inl hs hcall hY (first := fs.toArray) (captured := cs.toArray) hop hv (by simpa using h3) h hn
        split at h
        · rename_i xs hxs
          have h3 := append_rep (append_rep h1 (toAVs_rep (vals_rep hs args.toList) hxs)) h2
          split at h
          · rename_i n hgn
            have e1 : fs = [] := List.length_eq_zero_iff.1 (by simpa using h1.1)
            have e2 : cs = [] := List.length_eq_zero_iff.1 (by simpa using h2.1)
            subst e1; subst e2
            rcases h with ⟨R, hg, hk⟩ | h
            · have hvr := vals_rep hs args.toList
              unfold growN at hgn
              split at hgn
              · rename_i q m hq
                obtain rfl := Option.some.inj hgn
                rw [hq] at hvr
                obtain ⟨hl, hr⟩ := hvr
                obtain ⟨v0, v1, hvs⟩ : ∃ v0 v1, args.toList.map a.eval = [v0, v1] := by
                  match hm : args.toList.map a.eval, hl with
                  | [v0, v1], _ => exact ⟨v0, v1, rfl⟩
                rw [hvs] at hr
                have r0 := hr 0 v0 _ rfl rfl
                have r1 := hr 1 v1 _ rfl rfl
                obtain ⟨ad, hv0⟩ : ∃ ad, v0 = .slice ad 0 0 := by
                  cases r0 with
                  | full xs ad h => exact ⟨ad, rfl⟩
                obtain rfl : v1 = .int .i64 m := by
                  cases r1 with
                  | p v x h => cases h; rfl
                subst hv0
                obtain ⟨⟨fn, g1, g2, g3⟩, hg⟩ := hg
                have hJ := hs.J
                refine ⟨fun f _ => Env.fence_fn f, ?_⟩
                rw [Oper.semAt_eq _ _ _ (fun c => by rw [hop]; simp), run_call hop hv g1 g2 g3, Oper.uponIn_enter]
                have hargs : #[] ++ args.map a.eval ++ #[] = #[.slice ad 0 0, .int .i64 m] := by
                  apply Array.toList_inj.1
                  simpa using hvs
                refine ⟨fun h => (by rw [Env.fence_depth] at h; cases h), callsIn_fence ?_⟩
                show Calls E.C.P g (#[] ++ args.map a.eval ++ #[]) w _
                rw [hargs]
                refine (hg G.imm w ad hJ.1 hJ.2 hs.immLt).mono ?_
                rintro e w' ⟨v, r, rfl, hR, hok, hb⟩
                obtain ⟨G', hg'⟩ := got_sound hs (dst := o.dst) hb hok
                exact hn _ _ _ (gotK_eq S o.dst r K ▸ hk r hR) ⟨G', hg'⟩
              · cases hgn
            · exact byC (first := #[]) (captured := #[]) hv (by simpa using h3) h
          · exact byC (first := fs.toArray) (captured := cs.toArray) hv (by simpa using h3) h
        · have h3 := appendF_rep (appendF_rep (mapP_rep (G := G) h1 rfl) (vals_rep hs args.toList)) (mapP_rep (G := G) h2 rfl)
          exact wp_inl hs hcall hY (first := fs.toArray) (captured := cs.toArray) hop hv (by simpa using h3) h hn
      · rename_i g first captured hf
        rw [hf] at hfv
        obtain ⟨fs, cs, hv, h1, h2⟩ := fnF_inv hfv
        have h3 := appendF_rep (appendF_rep h1 (vals_rep hs args.toList)) h2
        split at h
        · rename_i xs hxs
          exact byC (first := fs.toArray) (captured := cs.toArray) hv (by simpa using toAVs_rep h3 hxs) h
        · exact wp_inl hs hcall hY (first := fs.toArray) (captured := cs.toArray) hop hv (by simpa using h3) h hn
      · rename_i l hf
        exact wp_yield hs hY hop hf h hn
      · exact h.elim
    · exact h.elim
  · exact viaVal h

/-! ### Guards -/

theorem yielded_bool (hs : SimG E G S a w) {ops : Array Oper} {j d : Nat} {b : Bool} (hd : (ops[j]?).bind (·.dst) = some d) (hg : S.get d = .p (.bool b)) : yielded ops a.tmps j = some b := by
  have h := RepF.get hs d
  rw [hg] at h
  have h := h.bool_inv
  unfold yielded
  rw [hd]
  have hlt : d < a.tmps.size := by
    rw [hs.size]
    unfold AState.get at hg
    split at hg
    · rename_i hb; simpa using hb
    · cases hg
  simp only [Option.bind_some]
  rw [Array.getElem?_eq_getElem hlt]
  simp only [Array.getD, hlt, dite_true] at h
  change a.tmps[d] = _ at h
  rw [h]

theorem yielded_undef (hs : SimG E G S a w) {ops : Array Oper} {j d : Nat} (hd : (ops[j]?).bind (·.dst) = some d) (hg : S.get d = .p (.tup [])) : yielded ops a.tmps j = none := by
  have h := RepF.get hs d
  rw [hg] at h
  have h := h.undef_inv
  unfold yielded
  rw [hd]
  simp only [Option.bind_some]
  by_cases hlt : d < a.tmps.size
  · rw [Array.getElem?_eq_getElem hlt]
    simp only [Array.getD, hlt, dite_true] at h
    change a.tmps[d] = _ at h
    rw [h]
    rfl
  · rw [Array.getElem?_eq_none (by omega)]

/-- **The operations of a region in their own order.** -/
theorem evOps_sound {call : CallH} {Y : Yld} (hcall : CallOK E.C call) (hY : YldSound E Y) {ops : Array Oper} {K : AState → Prop} {Q : Exit → Act → World → Prop} (hQ : ∀ S' a' w', K S' → Sim E S' a' w' → Q .normal a' w') :
    ∀ (l : List Oper) (S : AState) (a : Act) (w : World), evOps E.C call Y ops l K S → Sim E S a w → wpListIn E.fence 0 E.C.P ops Q l a w := by
  intro l
  induction l with
  | nil => intro S a w h hs; exact wpListIn_nil (hQ _ _ _ h hs)
  | cons o l ih =>
    intro S a w h hs
    obtain ⟨G, hs⟩ := hs
    simp only [evOps] at h
    refine wpListIn_step fun K' hK' => ?_
    split at h
    · rename_i hg
      rw [if_pos (by simp [Region.wanted, hg])]
      exact evOp_sound hcall hY hs h fun S' a' w' hk hs' => hK' _ _ (ih _ _ _ hk hs')
    · rename_i j want hg
      split at h
      · exact h.elim
      · rename_i d hd
        split at h
        · rename_i b hb
          have hy := yielded_bool hs hd hb
          split at h
          · rename_i hbw
            rw [sameB_eq] at hbw
            rw [if_pos (by simp [Region.wanted, hg, hy, beq_iff_eq.1 hbw])]
            exact evOp_sound hcall hY hs h fun S' a' w' hk hs' => hK' _ _ (ih _ _ _ hk hs')
          · rename_i hbw
            rw [sameB_eq] at hbw
            rw [if_neg (by simp [Region.wanted, hg, hy]; exact beq_eq_false_iff_ne.1 hbw)]
            exact ⟨fun f _ => Env.fence_fn f, hK' _ _ (ih _ _ _ h ⟨G, hs.put o.dst (rep_undef G w)⟩)⟩
        · rename_i hb
          have hy := yielded_undef hs hd hb
          rw [if_neg (by simp [Region.wanted, hg, hy])]
          exact ⟨fun f _ => Env.fence_fn f, hK' _ _ (ih _ _ _ h ⟨G, hs.put o.dst (rep_undef G w)⟩)⟩
        · exact h.elim

/-- Nothing but the slots in ds differs. -/
structure Off (ds : List Nat) (S S' : AState) : Prop where
  n : S'.n = S.n
  off : S'.off = S.off
  susp : S'.susp = S.susp
  pend : S'.pend = S.pend
  blds : S'.blds = S.blds
  objs : S'.objs = S.objs
  tmps : ∀ i, memN i ds = false → S'.tmps i = S.tmps i

theorem memN_iff {i : Nat} {ds : List Nat} : memN i ds = true ↔ i ∈ ds := by
  induction ds with
  | nil => simp [memN]
  | cons d ds ih =>
    simp only [memN]
    by_cases h : i = d
    · subst h; simp
    · have : Nat.beq i d = false := by
        cases hb : Nat.beq i d
        · rfl
        · exact absurd (Nat.eq_of_beq_eq_true hb) h
      rw [this]
      simp [ih, h]

theorem Off.put {ds : List Nat} {S S' : AState} (h : Off ds S S') {dst : Option Nat} (hd : ∀ d, dst = some d → d ∈ ds) (v : FV) : Off ds S (S'.put dst v) := by
  cases dst with
  | none => exact h
  | some d =>
    refine ⟨h.n, h.off, h.susp, h.pend, h.blds, h.objs, fun i hi => ?_⟩
    simp only [AState.put]
    have hne : i ≠ d := fun e => by
      have := memN_iff.2 (hd d rfl)
      rw [← e, hi] at this
      cases this
    have : Nat.beq i d = false := by
      cases hb : Nat.beq i d
      · rfl
      · exact absurd (Nat.eq_of_beq_eq_true hb) hne
    rw [this]
    exact h.tmps i hi

/-- Along the way nothing but the region's slots changes. -/
theorem evQ_off {C : Ctx} {ops : Array Oper} {ds : List Nat} {S0 : AState} : ∀ (l : List Oper) (K : AState → Prop) (S : AState), (∀ o, o ∈ l → ∀ d, o.dst = some d → d ∈ ds) → Off ds S0 S → evQ C ops l K S → evQ C ops l (fun S' => K S' ∧ Off ds S0 S') S := by
  intro l
  induction l with
  | nil => intro K S _ ho h; exact ⟨h, ho⟩
  | cons o l ih =>
    intro K S hl ho h
    have hd := hl o List.mem_cons_self
    have hl' := fun o' ho' => hl o' (List.mem_cons_of_mem _ ho')
    simp only [evQ] at h ⊢
    split at h
    · rename_i hg
      obtain ⟨v, h1, h2⟩ := h
      try simp only [hg]
      exact ⟨v, h1, ih _ _ hl' (ho.put hd v) h2⟩
    · rename_i j want hg
      try simp only [hg]
      split at h
      · exact h.elim
      · rename_i d hdj
        try simp only [hdj]
        split at h
        · rename_i b hb
          first
            | rw [hb]
            | skip
          cases hsb : sameB b want with
          | true =>
            simp only [hsb] at h ⊢
            obtain ⟨v, h1, h2⟩ := h
            exact ⟨v, h1, ih _ _ hl' (ho.put hd v) h2⟩
          | false =>
            simp only [hsb] at h ⊢
            exact ih _ _ hl' (ho.put hd _) h
        · rename_i hb
          first
            | rw [hb]
            | skip
          exact ih _ _ hl' (ho.put hd _) h
        · exact h.elim

theorem evVal_put {K : FV → Prop} (hs : SimG E G S a w) {v : FV} (h : evVal E.C S o.op fun u => u = v) {next : Act → World → Prop} {Q : Exit → Act → World → Prop}
    (hn : ∀ a' w', Sim E (S.put o.dst v) a' w' → next a' w') : Owp E o a w next Q :=
  evVal_sound hs h fun x u G' w' hk hs' hv => hn _ _ ⟨G', by subst hk; exact hs'.put o.dst hv⟩

theorem evQ_sound {ops : Array Oper} {K : AState → Prop} {Q : Exit → Act → World → Prop} (hQ : ∀ S' a' w', K S' → Sim E S' a' w' → Q .normal a' w') :
    ∀ (l : List Oper) (S : AState) (a : Act) (w : World), evQ E.C ops l K S → Sim E S a w → wpListIn E.fence 0 E.C.P ops Q l a w := by
  intro l
  induction l with
  | nil => intro S a w h hs; exact wpListIn_nil (hQ _ _ _ h hs)
  | cons o l ih =>
    intro S a w h hs
    obtain ⟨G, hs⟩ := hs
    simp only [evQ] at h
    refine wpListIn_step fun K' hK' => ?_
    split at h
    · rename_i hg
      rw [if_pos (by simp [Region.wanted, hg])]
      obtain ⟨v, h1, h2⟩ := h
      exact evVal_put (K := fun _ => True) hs h1 fun a' w' hs' => hK' _ _ (ih _ _ _ h2 hs')
    · rename_i j want hg
      split at h
      · exact h.elim
      · rename_i d hd
        split at h
        · rename_i b hb
          have hy := yielded_bool hs hd hb
          split at h
          · rename_i hbw
            rw [sameB_eq] at hbw
            rw [if_pos (by simp [Region.wanted, hg, hy, beq_iff_eq.1 hbw])]
            obtain ⟨v, h1, h2⟩ := h
            exact evVal_put (K := fun _ => True) hs h1 fun a' w' hs' => hK' _ _ (ih _ _ _ h2 hs')
          · rename_i hbw
            rw [sameB_eq] at hbw
            rw [if_neg (by simp [Region.wanted, hg, hy]; exact beq_eq_false_iff_ne.1 hbw)]
            exact ⟨fun f _ => Env.fence_fn f, hK' _ _ (ih _ _ _ h ⟨G, hs.put o.dst (rep_undef G w)⟩)⟩
        · rename_i hb
          have hy := yielded_undef hs hd hb
          rw [if_neg (by simp [Region.wanted, hg, hy])]
          exact ⟨fun f _ => Env.fence_fn f, hK' _ _ (ih _ _ _ h ⟨G, hs.put o.dst (rep_undef G w)⟩)⟩
        · exact h.elim

/-! ### What is kept of a condition -/

theorem Weak.refl (x : FV) : Weak x x := fun _ _ _ h => h
theorem Weak.junk (x : FV) : Weak x .junk := fun _ _ _ _ => .junk _

theorem getAll_keep {K : AState → Prop} {S' : AState} : ∀ (rs : List Nat) (T : AState) (φ : List FV → Prop), evKeep K T rs φ → φ (getAll S' rs) → Weaken S' T → ∃ T', K T' ∧ Weaken S' T' := by
  intro rs
  induction rs with
  | nil => intro T φ h hφ hw; exact ⟨T, h.out hφ, hw⟩
  | cons r rs ih =>
    intro T φ h hφ hw
    refine ih _ _ (h.out (S'.get r)) hφ ⟨hw.n, hw.off, hw.pend, hw.blds, hw.susp, fun i => ?_, hw.objs⟩
    simp only [AState.put]
    split
    · rename_i hb
      obtain rfl := Nat.eq_of_beq_eq_true hb
      unfold AState.get
      split
      · exact Weak.refl _
      · exact Weak.junk _
    · exact hw.tmps i

theorem Off.weaken {ds : List Nat} {S S' : AState} (h : Off ds S S') : Weaken S' (S.junked ds) := by
  refine ⟨h.n.symm, h.off.symm, h.pend.symm, fun o bs q => ⟨by rw [h.blds]; exact q, fun q2 => by show Qv.getObj S.objs o = none; rw [← h.objs]; exact q2⟩, ⟨by show S.susp.length = _; rw [h.susp], fun i f f' h1 h2 => by
    have h2' : S.susp[i]? = some f' := h2
    rw [h.susp, h2'] at h1
    obtain rfl := Option.some.inj h1
    exact ⟨rfl, rfl, fun _ => Weak.refl _⟩⟩, fun i => ?_, fun o ys ho => ?_⟩
  · simp only [AState.junked]
    cases hm : memN i ds with
    | true => exact Weak.junk _
    | false => simp only; rw [h.tmps i hm]; exact Weak.refl _
  · rw [h.objs]
    exact ⟨ys, ho, rfl, fun i x y hx hy => by rw [hx] at hy; obtain rfl := Option.some.inj hy; exact Weak.refl _⟩

theorem mem_dstsOf {l : List Oper} {o : Oper} (h : o ∈ l) {d : Nat} (hd : o.dst = some d) : d ∈ dstsOf l := by
  induction l with
  | nil => cases h
  | cons p l ih =>
    simp only [dstsOf]
    rcases List.mem_cons.1 h with rfl | h
    · rw [hd]; exact List.mem_cons_self
    · split
      · exact List.mem_cons_of_mem _ (ih h)
      · exact ih h

end
end Qv
end

section
/- Regions that draw their order; and the evaluator as a whole: what it asks suffices for the model. No condition. -/
set_option linter.unusedSimpArgs false
set_option linter.unusedVariables false
namespace Qv
open Go Go.RowKit

section
variable {E : Env} {G : Ghost} {S : AState} {a : Act} {w : World} {o : Oper} {ops : Array Oper} {C : Ctx} {call : CallH} {Y : Yld}

/-! ### One operation does not look at what another one leaves -/

theorem placeParts_congr {fs : List (Nat × TypeId)} {tab : List (TypeId × TInfo)} {S S' : AState} : ∀ (parts : List (Nat × Operand)) (cells : List FV), (∀ p, p ∈ parts → S'.val p.2 = S.val p.2) →
    placeParts fs tab S' parts cells = placeParts fs tab S parts cells := by
  intro parts
  induction parts with
  | nil => intro cells _; rfl
  | cons p parts ih =>
    obtain ⟨i, x⟩ := p
    intro cells h
    have hx := h (i, x) List.mem_cons_self
    simp only at hx
    simp only [placeParts, hx]
    split
    · rfl
    · split
      · rfl
      · split
        · split
          · rfl
          · exact ih _ fun p hp => h p (List.mem_cons_of_mem _ hp)
        · rfl

theorem placeElems_congr {size : Nat} {S S' : AState} : ∀ (parts : List (Nat × Operand)) (cells : List FV), (∀ p, p ∈ parts → S'.val p.2 = S.val p.2) →
    placeElems size S' parts cells = placeElems size S parts cells := by
  intro parts
  induction parts with
  | nil => intro cells _; rfl
  | cons p parts ih =>
    obtain ⟨i, x⟩ := p
    intro cells h
    have hx := h (i, x) List.mem_cons_self
    simp only at hx
    simp only [placeElems, hx]
    split
    · split
      · rfl
      · exact ih _ fun p hp => h p (List.mem_cons_of_mem _ hp)
    · rfl

theorem evVal_build {S S' : AState} {t : TypeId} {parts : Array (Nat × Operand)} {K : FV → Prop} (h : ∀ p, p ∈ parts.toList → S'.val p.2 = S.val p.2) : evVal C S' (.build t parts) K = evVal C S (.build t parts) K := by
  simp only [evVal, evBuild]
  split
  · split
    · rfl
    · rw [placeParts_congr _ _ h]
  · split
    · rfl
    · rw [placeElems_congr _ _ h]
  · rfl

theorem evVal_buildSlice {S S' : AState} {t : TypeId} {len : Nat} {parts : Array (Nat × Operand)} {K : FV → Prop} (h : ∀ p, p ∈ parts.toList → S'.val p.2 = S.val p.2) : evVal C S' (.buildSlice t len parts) K = evVal C S (.buildSlice t len parts) K := by
  simp only [evVal, evBuildSlice]
  split
  · split
    · rfl
    · split
      · rfl
      · rw [placeElems_congr _ _ h]
  · rfl

theorem evVal_congr {S S' : AState} {op : Op} {K : FV → Prop} (hv : ∀ x, x ∈ op.operands → S'.val x = S.val x) (ho : S'.objs = S.objs) : evVal C S' op K = evVal C S op K := by
  cases op <;> try rfl
  case move x => simp only [evVal]; rw [hv x (by simp [Op.operands])]
  case assign x => simp only [evVal]; rw [hv x (by simp [Op.operands])]
  case pick c x y => simp only [evVal]; rw [hv c (by simp [Op.operands]), hv x (by simp [Op.operands]), hv y (by simp [Op.operands])]
  case binOp op t x y yt => simp only [evVal]; rw [hv x (by simp [Op.operands]), hv y (by simp [Op.operands])]
  case unOp op t x => simp only [evVal]; rw [hv x (by simp [Op.operands])]
  case convert s d x => simp only [evVal]; rw [hv x (by simp [Op.operands])]
  case makeInterface t x => simp only [evVal]; rw [hv x (by simp [Op.operands])]
  case makeFunc fn first captured =>
    simp only [evVal]
    have h1 : first.toList.map S'.val = first.toList.map S.val := List.map_congr_left fun x hx => hv x (by simp [Op.operands]; exact .inl (by simpa using hx))
    have h2 : captured.toList.map S'.val = captured.toList.map S.val := List.map_congr_left fun x hx => hv x (by simp [Op.operands]; exact .inr (by simpa using hx))
    rw [h1, h2]
  case build t parts => exact evVal_build fun p hp => hv p.2 (by simp [Op.operands]; exact ⟨p.1, by simpa using hp⟩)
  case buildSlice t len parts => exact evVal_buildSlice fun p hp => hv p.2 (by simp [Op.operands]; exact ⟨p.1, by simpa using hp⟩)
  case load t x => simp only [evVal]; rw [hv x (by simp [Op.operands]), ho]
  case nilCheck x => simp only [evVal]; rw [hv x (by simp [Op.operands])]
  case fieldAddr s x f => simp only [evVal]; rw [hv x (by simp [Op.operands])]
  case field s x f => simp only [evVal]; rw [hv x (by simp [Op.operands])]
  case indexAddr t x i => simp only [evVal]; rw [hv x (by simp [Op.operands]), hv i (by simp [Op.operands]), ho]
  case index t x i => simp only [evVal]; rw [hv x (by simp [Op.operands]), hv i (by simp [Op.operands])]
  case slice t x lo hi mx =>
    cases mx with
    | some m => rfl
    | none =>
      simp only [evVal]
      have h1 : lo.map S'.val = lo.map S.val := by cases lo with
        | none => rfl
        | some y => simp only [Option.map_some]; rw [hv y (by simp [Op.operands])]
      have h2 : hi.map S'.val = hi.map S.val := by cases hi with
        | none => rfl
        | some y => simp only [Option.map_some]; rw [hv y (by simp [Op.operands])]
      rw [hv x (by simp [Op.operands]), h1, h2]
  case extract x i => simp only [evVal]; rw [hv x (by simp [Op.operands])]
  case call c =>
    obtain ⟨callee, args, types⟩ := c
    have h1 : args.toList.map S'.val = args.toList.map S.val := List.map_congr_left fun x hx => hv x (by
      cases callee <;> simp [Op.operands, Call.operands] <;> first | exact .inr (by simpa using hx) | (simpa using hx))
    cases callee with
    | value f => simp only [evVal]; rw [h1, hv f (by simp [Op.operands, Call.operands])]
    | builtin b => simp only [evVal]; rw [h1, ho]
    | invoke r m => rfl

theorem AState.put_get_ne {S : AState} {dst : Option Nat} {v : FV} {t : Nat} (h : ∀ d, dst = some d → t ≠ d) : (S.put dst v).get t = S.get t := by
  cases dst with
  | none => rfl
  | some d =>
    have hne := h d rfl
    have : Nat.beq t d = false := by
      cases hb : Nat.beq t d
      · rfl
      · exact absurd (Nat.eq_of_beq_eq_true hb) hne
    simp only [AState.get, AState.put, this]

theorem AState.put_val_ne {S : AState} {dst : Option Nat} {v : FV} {x : Operand} (h : ∀ d, dst = some d → x ≠ .tmp d) : (S.put dst v).val x = S.val x := by
  cases x with
  | tmp t => exact AState.put_get_ne fun d hd e => h d hd (by rw [e])
  | _ => rfl

theorem AState.put_objs {S : AState} {dst : Option Nat} {v : FV} : (S.put dst v).objs = S.objs := by cases dst <;> rfl

theorem AState.put_comm {S : AState} {x y : Option Nat} {u v : FV} (h : ∀ d, x = some d → y ≠ some d) : (S.put x u).put y v = (S.put y v).put x u := by
  cases x with
  | none => rfl
  | some d =>
    cases y with
    | none => rfl
    | some e =>
      have hne : d ≠ e := fun he => h d rfl (he ▸ rfl)
      simp only [AState.put]
      congr 1
      funext i
      by_cases h1 : i = d
      · have h2 : Nat.beq i e = false := by
          cases hb : Nat.beq i e
          · rfl
          · exact absurd ((Nat.eq_of_beq_eq_true hb).symm.trans h1).symm hne
        rw [h2]
      · have h2 : Nat.beq i d = false := by
          cases hb : Nat.beq i d
          · rfl
          · exact absurd (Nat.eq_of_beq_eq_true hb) h1
        rw [h2]

theorem evVal_put_ne {S : AState} {dst : Option Nat} {v : FV} {o : Oper} {K : FV → Prop} (h : ∀ d, dst = some d → d ∉ o.looksAt ops) : evVal C (S.put dst v) o.op K = evVal C S o.op K :=
  evVal_congr (fun x hx => AState.put_val_ne fun d hd hxd => h d hd (by
    subst hxd
    exact List.mem_append_left _ (List.mem_filterMap.2 ⟨.tmp d, by simpa using hx, rfl⟩))) AState.put_objs

/-- Is the operation carried out? -/
def wantedA (ops : Array Oper) (S : AState) (o : Oper) : Option Bool :=
  match o.guard with
  | none => some true
  | some (j, want) => match (ops[j]?).bind (·.dst) with
    | none => none
    | some d => match S.get d with
      | .p (.bool b) => some (b == want)
      | .p (.tup []) => some false
      | _ => none

theorem wantedA_put {dst : Option Nat} {v : FV} (h : ∀ d, dst = some d → d ∉ o.looksAt ops) : wantedA ops (S.put dst v) o = wantedA ops S o := by
  unfold wantedA
  split
  · rfl
  · rename_i j want hg
    split
    · rfl
    · rename_i d hd
      have : (S.put dst v).get d = S.get d := AState.put_get_ne fun e he hde => h e he (by subst hde; simp [Oper.looksAt, hg, hd])
      rw [this]

theorem wantedA_spec (hs : SimG E G S a w) {b : Bool} (h : wantedA ops S o = some b) : Region.wanted o (yielded ops a.tmps) = b := by
  unfold wantedA at h
  unfold Region.wanted
  split at h
  · rename_i hg
    rw [hg]
    exact Option.some.inj h
  · rename_i j want hg
    rw [hg]
    split at h
    · cases h
    · rename_i d hd
      split at h
      · rename_i c hc
        simp only [yielded_bool hs hd hc]
        have := Option.some.inj h
        rw [← this]
        cases c <;> cases want <;> rfl
      · rename_i hc
        simp only [yielded_undef hs hd hc]
        exact Option.some.inj h
      · cases h

def undefF : FV := .p (.tup [])

def qStep (C : Ctx) (ops : Array Oper) (o : Oper) (K : AState → Prop) (S : AState) : Prop :=
  match wantedA ops S o with
  | some true => ∃ v, evVal C S o.op (fun u => u = v) ∧ K (S.put o.dst v)
  | some false => K (S.put o.dst undefF)
  | none => False

def lStep (C : Ctx) (call : CallH) (Y : Yld) (ops : Array Oper) (o : Oper) (K : AState → Prop) (S : AState) : Prop :=
  match wantedA ops S o with
  | some true => evOp C call Y o K S
  | some false => K (S.put o.dst undefF)
  | none => False

theorem evQ_cons {rest : List Oper} {K : AState → Prop} (h : evQ C ops (o :: rest) K S) : qStep C ops o (evQ C ops rest K) S := by
  simp only [evQ] at h
  unfold qStep wantedA
  split at h
  · rename_i hg
    rw [hg]
    exact h
  · rename_i j want hg
    rw [hg]
    split at h
    · exact h.elim
    · rename_i d hd
      simp only [hd]
      split at h
      · rename_i b hb
        rw [sameB_eq] at h
        simp only [hb]
        cases hbw : (b == want) with
        | true => rw [hbw] at h; exact h
        | false => rw [hbw] at h; exact h
      · rename_i hb
        simp only [hb]
        exact h
      · exact h.elim

theorem evOps_cons {rest : List Oper} {K : AState → Prop} (h : evOps C call Y ops (o :: rest) K S) : lStep C call Y ops o (evOps C call Y ops rest K) S := by
  simp only [evOps] at h
  unfold lStep wantedA
  split at h
  · rename_i hg
    rw [hg]
    exact h
  · rename_i j want hg
    rw [hg]
    split at h
    · exact h.elim
    · rename_i d hd
      simp only [hd]
      split at h
      · rename_i b hb
        rw [sameB_eq] at h
        simp only [hb]
        cases hbw : (b == want) with
        | true => rw [hbw] at h; exact h
        | false => rw [hbw] at h; exact h
      · rename_i hb
        simp only [hb]
        exact h
      · exact h.elim

/-- In state S operation o leaves x. -/
def YieldsA (C : Ctx) (ops : Array Oper) (o : Oper) (x : FV) (S : AState) : Prop :=
  (wantedA ops S o = some true ∧ evVal C S o.op fun u => u = x) ∨ (wantedA ops S o = some false ∧ x = undefF)

theorem qStep_yields {K : AState → Prop} (h : qStep C ops o K S) : ∃ x, YieldsA C ops o x S ∧ K (S.put o.dst x) := by
  unfold qStep at h
  split at h
  · rename_i hw
    obtain ⟨v, h1, h2⟩ := h
    exact ⟨v, .inl ⟨hw, h1⟩, h2⟩
  · rename_i hw
    exact ⟨undefF, .inr ⟨hw, rfl⟩, h⟩
  · exact h.elim

theorem YieldsA.qStep {x : FV} (hy : YieldsA C ops o x S) {K : AState → Prop} (h : K (S.put o.dst x)) : qStep C ops o K S := by
  unfold Qv.qStep
  rcases hy with ⟨hw, hv⟩ | ⟨hw, rfl⟩
  · rw [hw]; exact ⟨x, hv, h⟩
  · rw [hw]; exact h

theorem YieldsA.put {x : FV} (hy : YieldsA C ops o x S) {dst : Option Nat} {v : FV} (h : ∀ d, dst = some d → d ∉ o.looksAt ops) : YieldsA C ops o x (S.put dst v) := by
  unfold YieldsA at *
  rw [wantedA_put h, evVal_put_ne h]
  exact hy

theorem YieldsA.unput {x : FV} {dst : Option Nat} {v : FV} (hy : YieldsA C ops o x (S.put dst v)) (h : ∀ d, dst = some d → d ∉ o.looksAt ops) : YieldsA C ops o x S := by
  unfold YieldsA at *
  rw [wantedA_put h, evVal_put_ne h] at hy
  exact hy

theorem qStep_put {oi oj : Oper} {x : FV} (hap : oi.apart ops oj = true) {K : AState → Prop} (hy : YieldsA C ops oi x S) (h : qStep C ops oj K (S.put oi.dst x)) :
    qStep C ops oj (fun S' => YieldsA C ops oi x S' ∧ K (S'.put oi.dst x)) S := by
  obtain ⟨h1, h2, h3⟩ := Oper.apart_spec hap
  obtain ⟨u, hu, hK⟩ := qStep_yields h
  refine (hu.unput h1).qStep ⟨hy.put h3, ?_⟩
  rw [← AState.put_comm h2]
  exact hK

def stepA (C : Ctx) (call : CallH) (Y : Yld) (ops : Array Oper) (q : Nat → Bool) (i : Nat) (K : AState → Prop) (S : AState) : Prop :=
  match ops[i]? with
  | none => K S
  | some o => match q i with
    | true => qStep C ops o K S
    | false => ∃ K' : AState → Prop, lStep C call Y ops o K' S ∧ ∀ S', K' S' → K S'

def anyA (C : Ctx) (call : CallH) (Y : Yld) (ops : Array Oper) (q : Nat → Bool) (K : AState → Prop) : Nat → Array Bool → AState → Prop
  | 0, listed, S => Region.ready .any ops listed = [] ∧ K S
  | fuel + 1, listed, S => (Region.ready .any ops listed = [] → K S) ∧ ∀ i ∈ Region.ready .any ops listed, stepA C call Y ops q i (anyA C call Y ops q K fuel (listed.setIfInBounds i true)) S

theorem qStep_sound (hs : Sim E S a w) {K : AState → Prop} {K' : Act → World → Prop} {Q : Exit → Act → World → Prop} (h : qStep E.C ops o K S) (hK : ∀ S a w, K S → Sim E S a w → K' a w) :
    if Region.wanted o (yielded ops a.tmps) then Owp E o a w K' Q else (∀ f, o.about E.C.P w a.eval = some f → E.fence.fn f) ∧ K' (a.put o.dst undef) w := by
  obtain ⟨G, hs⟩ := hs
  unfold qStep at h
  split at h
  · rename_i hw
    rw [if_pos (wantedA_spec hs hw)]
    obtain ⟨v, h1, h2⟩ := h
    exact evVal_put (K := fun _ => True) hs h1 fun a' w' hs' => hK _ _ _ h2 hs'
  · rename_i hw
    rw [if_neg (by rw [wantedA_spec hs hw]; simp)]
    exact ⟨fun f _ => Env.fence_fn f, hK _ _ _ h ⟨G, hs.put o.dst (rep_undef G w)⟩⟩
  · exact h.elim

theorem lStep_sound (hcall : CallOK E.C call) (hY : YldSound E Y) (hs : Sim E S a w) {K : AState → Prop} {K' : Act → World → Prop} {Q : Exit → Act → World → Prop} (h : lStep E.C call Y ops o K S) (hK : ∀ S a w, K S → Sim E S a w → K' a w) :
    if Region.wanted o (yielded ops a.tmps) then Owp E o a w K' Q else (∀ f, o.about E.C.P w a.eval = some f → E.fence.fn f) ∧ K' (a.put o.dst undef) w := by
  obtain ⟨G, hs⟩ := hs
  unfold lStep at h
  split at h
  · rename_i hw
    rw [if_pos (wantedA_spec hs hw)]
    exact evOp_sound hcall hY hs h fun S' a' w' hk hs' => hK _ _ _ hk hs'
  · rename_i hw
    rw [if_neg (by rw [wantedA_spec hs hw]; simp)]
    exact ⟨fun f _ => Env.fence_fn f, hK _ _ _ h ⟨G, hs.put o.dst (rep_undef G w)⟩⟩
  · exact h.elim

theorem anyA_sound (hcall : CallOK E.C call) (hY : YldSound E Y) {q : Nat → Bool} {K : AState → Prop} {Q : Exit → Act → World → Prop} (hQ : ∀ S a w, K S → Sim E S a w → Q .normal a w) :
    ∀ (fuel : Nat) (listed : Array Bool) (S : AState) (a : Act) (w : World), Sim E S a w → anyA E.C call Y ops q K fuel listed S → wpAnyIn E.fence 0 E.C.P .any ops Q fuel listed a w := by
  intro fuel
  induction fuel with
  | zero => intro listed S a w hs h; exact ⟨h.1, hQ _ _ _ h.2 hs⟩
  | succ fuel ih =>
    intro listed S a w hs h
    refine ⟨fun h0 => hQ _ _ _ (h.1 h0) hs, fun i hi => ?_⟩
    have h2 := h.2 i hi
    unfold stepA at h2
    unfold wpOpIn
    split at h2
    · rename_i ho
      simp only [ho]
      exact ih _ _ _ _ hs h2
    · rename_i o ho
      simp only [ho]
      split at h2
      · exact qStep_sound hs h2 fun S a w hk hs' => ih _ _ _ _ hs' hk
      · obtain ⟨K', h3, h4⟩ := h2
        exact lStep_sound hcall hY hs h3 fun S a w hk hs' => ih _ _ _ _ hs' (h4 _ hk)

/-- What has come up has come up behind all that it waits for. -/
def Closed (ops : Array Oper) (listed : Array Bool) : Prop := listed.size = ops.size ∧
  ∀ p o, ops[p]? = some o → listed.getD p false = true → ∀ e ∈ o.after, Region.binds .any e = true → listed.getD e.on false = true

theorem Closed.set {listed : Array Bool} {i : Nat} (h : Closed ops listed) (hi : i ∈ Region.ready .any ops listed) : Closed ops (listed.setIfInBounds i true) := by
  obtain ⟨h1, h2⟩ := h
  obtain ⟨h0, o, ho, hall⟩ := mem_ready.1 hi
  refine ⟨by simpa using h1, fun p op hp hl e he hb => ?_⟩
  by_cases hpi : i = p
  · subst hpi
    rw [ho] at hp
    obtain rfl := Option.some.inj hp
    exact getD_set_true (hall e he hb)
  · rw [getD_set_ne false hpi] at hl
    exact getD_set_true (h2 p op hp hl e he hb)

theorem Closed.reach {listed : Array Bool} (h : Closed ops listed) : ∀ (fuel j i : Nat), reachB ops fuel j i = true → (∀ o, ops[j]? = some o → ∀ e ∈ o.after, Region.binds .any e = true → listed.getD e.on false = true) → listed.getD i false = true := by
  intro fuel
  induction fuel with
  | zero => intro j i hr; cases hr
  | succ fuel ih =>
    intro j i hr hall
    simp only [reachB] at hr
    split at hr
    · cases hr
    · rename_i o ho
      obtain ⟨e, he, hb⟩ := List.any_eq_true.1 hr
      simp only [Bool.and_eq_true, Bool.or_eq_true, beq_iff_eq] at hb
      have hl := hall o ho e (by simpa using he) hb.1
      rcases hb.2 with hi | hr'
      · exact hi ▸ hl
      · exact ih e.on i hr' fun o' ho' => h.2 e.on o' ho' hl

theorem unlisted {listed : Array Bool} {i : Nat} (h : listed.getD i true = false) : listed.getD i false = false := by
  rcases Nat.lt_or_ge i listed.size with h' | h'
  · simp [h'] at h ⊢; exact h
  · simp [Array.getElem?_eq_none h'] at h

theorem anyA_first {q : Nat → Bool} {K : AState → Prop} {i : Nat} {oi : Oper} {x : FV} (hi : ops[i]? = some oi) (him : q i = true) :
    ∀ (fuel : Nat) (listed : Array Bool) (S : AState), Closed ops listed →
      (∀ j oj, ops[j]? = some oj → j ≠ i → listed.getD j true = false → reachB ops ops.size j i = true ∨ (q j = true ∧ oi.apart ops oj = true)) →
      i ∈ Region.ready .any ops listed → YieldsA C ops oi x S →
      anyA C call Y ops q K fuel (listed.setIfInBounds i true) (S.put oi.dst x) → anyA C call Y ops q K (fuel + 1) listed S := by
  have self : ∀ {K' : AState → Prop} {S : AState}, YieldsA C ops oi x S → K' (S.put oi.dst x) → stepA C call Y ops q i K' S := fun hy h => by
    unfold stepA
    simp only [hi, him]
    exact hy.qStep h
  intro fuel
  induction fuel with
  | zero =>
    intro listed S _ _ hr hy H
    refine ⟨fun h => (by rw [h] at hr; cases hr), fun j hj => ?_⟩
    by_cases hji : j = i
    · subst hji; exact self hy H
    · have := ready_mono hj hji
      rw [H.1] at this
      cases this
  | succ fuel ih =>
    intro listed S hcl hfree hr hy H
    refine ⟨fun h => (by rw [h] at hr; cases hr), fun j hj => ?_⟩
    by_cases hji : j = i
    · subst hji; exact self hy H
    · have h1 := H.2 j (ready_mono hj hji)
      obtain ⟨hjun, oj, hoj, hall⟩ := mem_ready.1 hj
      rcases hfree j oj hoj hji hjun with hre | ⟨hjm, hap⟩
      · have h2 := hcl.reach _ _ _ hre fun o ho => by
          rw [hoj] at ho
          obtain rfl := Option.some.inj ho
          exact hall
        rw [unlisted (mem_ready.1 hr).1] at h2
        cases h2
      · unfold stepA at h1 ⊢
        simp only [hoj, hjm] at h1 ⊢
        have h2 := qStep_put hap hy h1
        have hfree' : ∀ k ok, ops[k]? = some ok → k ≠ i → (listed.setIfInBounds j true).getD k true = false → reachB ops ops.size k i = true ∨ (q k = true ∧ oi.apart ops ok = true) := fun k ok hk hki hun => by
          refine hfree k ok hk hki ?_
          by_cases hjk : j = k
          · subst hjk; exact hjun
          · rw [getD_set_ne true hjk] at hun; exact hun
        obtain ⟨y, hy2, h3⟩ := qStep_yields h2
        refine hy2.qStep (ih (listed.setIfInBounds j true) _ (hcl.set hj) hfree' (ready_mono hr (Ne.symm hji)) h3.1 ?_)
        rw [Array.setIfInBounds_comm _ _ hji]
        exact h3.2

theorem freeB_spec {q : Nat → Bool} {listed : Array Bool} {i : Nat} {oi : Oper} (hi : ops[i]? = some oi) (h : freeB ops q listed i = true) (j : Nat) (oj : Oper) (hj : ops[j]? = some oj) (hne : j ≠ i) (hun : listed.getD j true = false) :
    reachB ops ops.size j i = true ∨ (q j = true ∧ oi.apart ops oj = true) := by
  simp only [freeB, hi, List.all_eq_true, List.mem_range] at h
  have h1 := h j (Array.getElem?_eq_some_iff.1 hj).1
  simp only [hj, Bool.or_eq_true, beq_iff_eq, hne, false_or, hun, Bool.false_eq_true, Bool.and_eq_true] at h1
  exact h1

/-- The rest in its own order. -/
theorem anyA_tail {m : Nat} {K : AState → Prop} : ∀ (l : List Oper) (k : Nat) (listed : Array Bool) (S : AState), m ≤ k → (∀ j, l[j]? = ops[k + j]?) →
    drawFrom ops m l.length k listed = true → evOps C call Y ops l K S → anyA C call Y ops (fun i => decide (i < m)) K l.length listed S := by
  intro l
  induction l with
  | nil => intro k listed S _ _ hB h; exact ⟨by simpa [drawFrom] using hB, h⟩
  | cons o l ih =>
    intro k listed S hk hl hB h
    have h0 : ops[k]? = some o := by simpa using (hl 0).symm
    have hkm : decide (k < m) = false := by simp; omega
    simp only [List.length_cons, drawFrom, hkm, Bool.and_eq_true, beq_iff_eq] at hB
    obtain ⟨hr, hB'⟩ := hB
    refine ⟨fun e => (by rw [hr] at e; cases e), fun i hi => ?_⟩
    rw [hr] at hi
    obtain rfl : i = k := by simpa using hi
    unfold stepA
    simp only [h0, hkm]
    exact ⟨_, evOps_cons h, fun S' h' =>
      ih (i + 1) _ S' (by omega) (fun j => by have := hl (j + 1); simpa [Nat.add_assoc, Nat.add_comm 1 j] using this) hB' h'⟩

/-- The first m in their own order, then the rest. -/
theorem anyA_lex {m : Nat} {K : AState → Prop} : ∀ (l l' : List Oper) (k : Nat) (listed : Array Bool) (S : AState), Closed ops listed → k + l.length = m → (∀ j, (l ++ l')[j]? = ops[k + j]?) →
    drawFrom ops m (l ++ l').length k listed = true → evQ C ops l (evOps C call Y ops l' K) S → anyA C call Y ops (fun i => decide (i < m)) K (l ++ l').length listed S := by
  intro l
  induction l with
  | nil =>
    intro l' k listed S _ hkm hl hB h
    exact anyA_tail l' k listed S (by simp at hkm; omega) (by simpa using hl) (by simpa using hB) h
  | cons o l ih =>
    intro l' k listed S hcl hkm hl hB h
    have h0 : ops[k]? = some o := by simpa using (hl 0).symm
    have hlt : k < m := by simp at hkm; omega
    have hk' : decide (k < m) = true := by simp [hlt]
    simp only [List.cons_append, List.length_cons, drawFrom, hk', Bool.and_eq_true] at hB
    obtain ⟨⟨hr, hf⟩, hB'⟩ := hB
    have hr' : k ∈ Region.ready .any ops listed := by simpa using hr
    obtain ⟨x, hy, hK⟩ := qStep_yields (evQ_cons h)
    simp only [List.cons_append, List.length_cons]
    refine anyA_first h0 hk' (l ++ l').length listed S hcl (fun j oj hj hne hun => freeB_spec h0 hf j oj hj hne hun) hr' hy ?_
    exact ih l' (k + 1) _ _ (hcl.set hr') (by simp at hkm; omega) (fun j => by have := hl (j + 1); simpa [Nat.add_assoc, Nat.add_comm 1 j] using this) hB' hK

theorem draw_sound (hcall : CallOK E.C call) (hY : YldSound E Y) {id m : Nat} {K : AState → Prop} {Q : Exit → Act → World → Prop} (hQ : ∀ S a w, K S → Sim E S a w → Q .normal a w) (hB : drawOK ops m = true) (hs : Sim E S a w)
    (h : evQ E.C ops (ops.toList.take m) (evOps E.C call Y ops (ops.toList.drop m) K) S) (hm : m ≤ ops.size) : (Code.region id ops true).wpIn E.fence 0 E.C.P Q a w := by
  simp only [drawOK, Bool.and_eq_true] at hB
  refine wpIn_region_any E.C.mixed (anyA_sound hcall hY (q := fun i => decide (i < m)) hQ _ _ _ _ _ (let ⟨G, hs⟩ := hs; ⟨G, hs.drew⟩) ?_)
  have hlen : (ops.toList.take m ++ ops.toList.drop m).length = ops.size := by simp
  have := anyA_lex (C := E.C) (call := call) (Y := Y) (ops := ops) (m := m) (K := K) (ops.toList.take m) (ops.toList.drop m) 0 (Array.replicate ops.size false) S
    ⟨by simp, fun p o hp hl => by
      have : p < ops.size := (Array.getElem?_eq_some_iff.1 hp).1
      simp [this] at hl⟩
    (by simp; omega) (fun j => by simp) (by rw [hlen]; exact hB.2) h
  rw [hlen] at this
  exact this

/-! ### Plans -/

theorem safe_memN_ne {pr : List Nat} {o k : Nat} (h : memN o pr = true) (hk : memN k pr = false) : Nat.beq o k = false := by
  cases hb : Nat.beq o k
  · rfl
  · rw [Nat.eq_of_beq_eq_true hb] at h
    rw [h] at hk
    cases hk

mutual
theorem FV.safe_kill {pr : List Nat} {k : Nat} (hk : memN k pr = false) : ∀ {x : FV}, x.safe pr = true → x.kill k = x
  | .p _, _ => rfl
  | .agg xs, h => by simp only [FV.safe] at h; simp only [FV.kill, FV.safe_killL hk h]
  | .tup xs, h => by simp only [FV.safe] at h; simp only [FV.kill, FV.safe_killL hk h]
  | .ptr o off, h => by simp only [FV.safe] at h; simp only [FV.kill, safe_memN_ne h hk]
  | .tip t T e xs, h => by simp only [FV.safe] at h; simp only [FV.kill, safe_memN_ne h hk]
  | .full _, _ => rfl
  | .fn f a b, h => by
    simp only [FV.safe] at h
    split at h
    · rename_i h1
      simp only [FV.kill, FV.safe_killL hk h1, FV.safe_killL hk h]
    · cases h
  | .yld l, h => by simp only [FV.safe] at h; simp only [FV.kill, safe_memN_ne h hk]
  | .osl o T e, h => by simp only [FV.safe] at h; simp only [FV.kill, safe_memN_ne h hk]
  | .eptr o b off, h => by simp only [FV.safe] at h; simp only [FV.kill, safe_memN_ne h hk]
  | .junk, _ => rfl
theorem FV.safe_killL {pr : List Nat} {k : Nat} (hk : memN k pr = false) : ∀ {xs : List FV}, FV.safeL pr xs = true → FV.killL k xs = xs
  | [], _ => rfl
  | x :: xs, h => by
    simp only [FV.safeL] at h
    split at h
    · rename_i h1
      simp only [FV.killL, FV.safe_kill hk h1, FV.safe_killL hk h]
    · cases h
end

/-- What is safe in S stands in S'. -/
structure Agree (pr : List Nat) (S S' : AState) : Prop where
  val : ∀ z : Operand, (S.val z).safe pr = true → S'.val z = S.val z
  objs : ∀ o cells, memN o pr = true → Qv.getObj S.objs o = some cells → ∃ cells', Qv.getObj S'.objs o = some cells' ∧ cells'.length = cells.length ∧ ∀ (i : Nat) (y : FV), cells[i]? = some y → y.safe pr = true → cells'[i]? = some y

theorem Agree.trans {pr : List Nat} {S S' S'' : AState} (h : Agree pr S S') (h' : Agree pr S' S'') : Agree pr S S'' := by
  refine ⟨fun z hz => ?_, fun o cells ho hc => ?_⟩
  · have := h.val z hz
    rw [h'.val z (by rw [this]; exact hz), this]
  · obtain ⟨c1, h1, l1, h2⟩ := h.objs o cells ho hc
    obtain ⟨c2, h3, l2, h4⟩ := h'.objs o c1 ho h1
    exact ⟨c2, h3, l2.trans l1, fun i y hi hy => h4 i y (h2 i y hi hy) hy⟩

theorem kill_val (S : AState) (k : Nat) (z : Operand) : (S.kill k).val z = (S.val z).kill k ∨ (S.val z).kill k = (S.kill k).val z := by
  left
  cases z with
  | tmp t =>
    simp only [AState.val, AState.get, AState.kill]
    split <;> rfl
  | const v =>
    simp only [AState.val]
    have h1 : ∀ u : Value, (FV.ofVal1 u).kill k = FV.ofVal1 u := fun u => by
      unfold FV.ofVal1
      split <;> rfl
    unfold FV.ofVal
    split
    · simp only [FV.kill, FV.killL_eq, List.map_map]
      congr 1
      exact (List.map_congr_left fun u _ => (h1 u)).symm
    · rfl
    · exact (h1 _).symm
  | func f => rfl
  | global g => rfl

theorem getObj_delO {d o : Nat} : ∀ {l : List (Nat × List FV)} {cs : List FV}, o ≠ d → Qv.getObj l o = some cs → Qv.getObj (delObj d l) o = some (FV.killL d cs) := by
  intro l
  induction l with
  | nil => intro cs _ h; cases h
  | cons p l ih =>
    obtain ⟨u, i⟩ := p
    intro cs hne h
    simp only [Qv.getObj] at h
    simp only [delObj]
    split at h
    · rename_i hb
      obtain rfl := Nat.eq_of_beq_eq_true hb
      obtain rfl := Option.some.inj h
      have : Nat.beq u d = false := by
        cases hb : Nat.beq u d
        · rfl
        · exact absurd (Nat.eq_of_beq_eq_true hb) hne
      rw [this]
      simp [Qv.getObj]
    · rename_i hb
      split
      · exact ih hne h
      · simp only [Qv.getObj, hb]
        exact ih hne h

theorem Agree.kill {pr : List Nat} (S : AState) {k : Nat} (hk : memN k pr = false) : Agree pr S (S.kill k) := by
  refine ⟨fun z hz => ?_, fun o cells ho hc => ?_⟩
  · rcases kill_val S k z with h | h
    · rw [h, FV.safe_kill hk hz]
    · rw [← h, FV.safe_kill hk hz]
  · refine ⟨_, getObj_delO (fun e => by rw [e, hk] at ho; cases ho) hc, by rw [FV.killL_eq, List.length_map], fun i y hi hy => ?_⟩
    rw [FV.killL_eq, List.getElem?_map, hi]
    simp [FV.safe_kill hk hy]

theorem getObj_setNe {ob o : Nat} {c : List FV} : ∀ {l : List (Nat × List FV)}, o ≠ ob → Qv.getObj (setObj l ob c) o = Qv.getObj l o := by
  intro l hne
  induction l with
  | nil => rfl
  | cons p l ih =>
    obtain ⟨u, i⟩ := p
    simp only [setObj]
    split
    · rename_i hb
      obtain rfl := Nat.eq_of_beq_eq_true hb
      have : Nat.beq u o = false := by
        cases hb : Nat.beq u o
        · rfl
        · exact absurd (Nat.eq_of_beq_eq_true hb).symm hne
      simp only [Qv.getObj, this]
    · simp only [Qv.getObj, ih]

theorem Agree.setO {pr : List Nat} (S : AState) {ob : Nat} (c : List FV) (hk : memN ob pr = false) : Agree pr S (S.setO ob c) :=
  ⟨fun z _ => by cases z <;> rfl, fun o cells ho hc => ⟨cells, by
    show Qv.getObj (setObj S.objs ob c) o = _
    rw [getObj_setNe (fun e => by rw [e, hk] at ho; cases ho)]; exact hc, rfl, fun i y hi _ => hi⟩⟩

theorem Agree.consO {pr : List Nat} (S : AState) {d : Nat} (c : List FV) (hk : memN d pr = false) : Agree pr S { S with objs := (d, c) :: S.objs } :=
  ⟨fun z _ => by cases z <;> rfl, fun o cells ho hc => ⟨cells, by
    have : Nat.beq d o = false := by
      cases hb : Nat.beq d o
      · rfl
      · rw [Nat.eq_of_beq_eq_true hb, ho] at hk; cases hk
    simp only [Qv.getObj, this]; exact hc, rfl, fun i y hi _ => hi⟩⟩

theorem Agree.bld {pr : List Nat} (S : AState) (b : List (Nat × List UInt8)) : Agree pr S { S with blds := b } :=
  ⟨fun z _ => by cases z <;> rfl, fun o cells ho hc => ⟨cells, hc, rfl, fun i y hi _ => hi⟩⟩

/-- In state S operation o leaves x, and is calm (or is not carried out). -/
def YieldsC (C : Ctx) (ops : Array Oper) (pr : List Nat) (o : Oper) (x : FV) (S : AState) : Prop :=
  (wantedA ops S o = some true ∧ (evVal C S o.op fun u => u = x) ∧ safeC pr S o.op x = true) ∨ (wantedA ops S o = some false ∧ x = undefF)

theorem YieldsC.yA {pr : List Nat} {x : FV} (h : YieldsC C ops pr o x S) : YieldsA C ops o x S := h.imp (fun h => ⟨h.1, h.2.1⟩) id

theorem safeC_spec {pr : List Nat} {op : Op} {x : FV} (h : safeC pr S op x = true) : (∃ zs, opsL op = some zs ∧ ∀ z, z ∈ zs → (S.val z).safe pr = true) ∧ x.safe pr = true := by
  unfold safeC at h
  split at h
  · cases h
  · rename_i zs hz
    split at h
    · rename_i hs
      refine ⟨⟨zs, hz, ?_⟩, h⟩
      clear hz
      induction zs with
      | nil => simp
      | cons y ys ih =>
        simp only [safeVals] at hs
        split at hs
        · rename_i hy
          intro z hz
          rcases List.mem_cons.1 hz with rfl | hz
          · exact hy
          · exact ih hs z hz
        · cases hs
    · cases h

theorem safeC_mk {pr : List Nat} {op : Op} {x : FV} {zs : List Operand} (h : opsL op = some zs) (hz : ∀ z, z ∈ zs → (S.val z).safe pr = true) (hx : x.safe pr = true) : safeC pr S op x = true := by
  unfold safeC
  rw [h]
  have : safeVals pr S zs = true := by
    clear h
    induction zs with
    | nil => rfl
    | cons y ys ih =>
      simp only [safeVals, hz y List.mem_cons_self]
      exact ih fun z h => hz z (List.mem_cons_of_mem _ h)
  simp only [this]
  exact hx

theorem YieldsC.safe {pr : List Nat} {x : FV} (h : YieldsC C ops pr o x S) : x.safe pr = true := by
  rcases h with h | ⟨-, rfl⟩
  · exact (safeC_spec h.2.2).2
  · rfl

theorem opsL_sub {op : Op} {zs : List Operand} (h : opsL op = some zs) : ∀ z, z ∈ zs → z ∈ op.operands := by
  intro z hz
  unfold opsL at h
  split at h
  all_goals cases h
  all_goals simp [Op.operands, Call.operands] at hz ⊢
  all_goals exact hz

theorem opsL_all {op : Op} {zs : List Operand} (h : opsL op = some zs) : ∀ z, z ∈ op.operands → z ∈ zs := by
  intro z hz
  unfold opsL at h
  split at h
  all_goals cases h
  all_goals simp [Op.operands, Call.operands] at hz ⊢
  all_goals exact hz

theorem safeC_put {pr : List Nat} {x : FV} {dst : Option Nat} {v : FV} (h : ∀ d, dst = some d → d ∉ o.looksAt ops) (hs : safeC pr S o.op x = true) : safeC pr (S.put dst v) o.op x = true := by
  obtain ⟨⟨zs, h1, h2⟩, h3⟩ := safeC_spec hs
  refine safeC_mk h1 (fun z hz => ?_) h3
  rw [AState.put_val_ne fun d hd hzd => h d hd (by
    subst hzd
    exact List.mem_append_left _ (List.mem_filterMap.2 ⟨.tmp d, by simpa using opsL_sub h1 _ hz, rfl⟩))]
  exact h2 z hz

theorem safeC_unput {pr : List Nat} {x : FV} {dst : Option Nat} {v : FV} (h : ∀ d, dst = some d → d ∉ o.looksAt ops) (hs : safeC pr (S.put dst v) o.op x = true) : safeC pr S o.op x = true := by
  obtain ⟨⟨zs, h1, h2⟩, h3⟩ := safeC_spec hs
  refine safeC_mk h1 (fun z hz => ?_) h3
  have := h2 z hz
  rw [AState.put_val_ne fun d hd hzd => h d hd (by
    subst hzd
    exact List.mem_append_left _ (List.mem_filterMap.2 ⟨.tmp d, by simpa using opsL_sub h1 _ hz, rfl⟩))] at this
  exact this

theorem YieldsC.put {pr : List Nat} {x : FV} (hy : YieldsC C ops pr o x S) {dst : Option Nat} {v : FV} (h : ∀ d, dst = some d → d ∉ o.looksAt ops) : YieldsC C ops pr o x (S.put dst v) := by
  unfold YieldsC at *
  rw [wantedA_put h, evVal_put_ne h]
  exact hy.imp (fun q => ⟨q.1, q.2.1, safeC_put h q.2.2⟩) id

theorem YieldsC.unput {pr : List Nat} {x : FV} {dst : Option Nat} {v : FV} (hy : YieldsC C ops pr o x (S.put dst v)) (h : ∀ d, dst = some d → d ∉ o.looksAt ops) : YieldsC C ops pr o x S := by
  unfold YieldsC at *
  rw [wantedA_put h, evVal_put_ne h] at hy
  exact hy.imp (fun q => ⟨q.1, q.2.1, safeC_unput h q.2.2⟩) id

theorem takeN_agree {pr : List Nat} : ∀ (n : Nat) {xs xs' cs : List FV}, takeN n xs = some cs → FV.safeL pr cs = true → (∀ (i : Nat) (y : FV), xs[i]? = some y → y.safe pr = true → xs'[i]? = some y) → takeN n xs' = some cs
  | 0, xs, xs', cs, h, _, _ => h
  | n + 1, [], xs', cs, h, _, _ => by simp [takeN] at h
  | n + 1, x :: xs, xs', cs, h, hs, ha => by
    simp only [takeN] at h
    split at h
    · rename_i ys hys
      obtain rfl := Option.some.inj h
      simp only [FV.safeL] at hs
      split at hs
      · rename_i hx
        have h0 := ha 0 x rfl hx
        cases xs' with
        | nil => simp at h0
        | cons x' xs' =>
          simp at h0
          subst h0
          have := takeN_agree n (xs := xs) (xs' := xs') hys hs fun i y hi hy => by simpa using ha (i + 1) y (by simpa using hi) hy
          simp only [takeN, this]
      · cases hs
    · cases h

theorem dropN_get {α : Type} : ∀ (n : Nat) (xs : List α) (i : Nat), (dropN n xs)[i]? = xs[n + i]?
  | 0, xs, i => by simp [dropN]
  | n + 1, [], i => by simp [dropN]
  | n + 1, x :: xs, i => by
    rw [dropN, dropN_get n xs i, show n + 1 + i = (n + i) + 1 by omega]
    simp

theorem evLoad_agree {pr : List Nat} {S' : AState} (h : Agree pr S S') {t : TypeId} {v x : FV} (hv : v.safe pr = true) (hx : x.safe pr = true) (he : evLoad C S.objs t v fun u => u = x) : evLoad C S'.objs t v fun u => u = x := by
  unfold evLoad at he ⊢
  cases hi : tabGet C.tab t with
  | none => rw [hi] at he; exact he.elim
  | some i =>
    rw [hi] at he
    simp only at he ⊢
    cases v with
    | ptr o off =>
      simp only at he ⊢
      cases hc : Qv.getObj S.objs o with
      | none => rw [hc] at he; exact he.elim
      | some cells =>
        rw [hc] at he
        obtain ⟨cells', h1, hl, h2⟩ := h.objs o cells hv hc
        rw [h1]
        simp only at he ⊢
        have hd : ∀ (i : Nat) (y : FV), (dropN off cells)[i]? = some y → y.safe pr = true → (dropN off cells')[i]? = some y := fun i y hi hy => by
          rw [dropN_get] at hi ⊢
          exact h2 _ y hi hy
        cases hag : i.shape.isAgg with
        | true =>
          rw [hag] at he
          simp only at he ⊢
          cases hcs : takeN i.size (dropN off cells) with
          | none => rw [hcs] at he; exact he.elim
          | some cs =>
            rw [hcs] at he
            simp only at he
            subst he
            rw [takeN_agree _ hcs hx hd]
        | false =>
          rw [hag] at he
          simp only at he ⊢
          cases hys : dropN off cells with
          | nil => rw [hys] at he; exact he.elim
          | cons y ys =>
            rw [hys] at he
            simp only at he
            subst he
            have := hd 0 y (by rw [hys]; rfl) hx
            cases hq : dropN off cells' with
            | nil => rw [hq] at this; simp at this
            | cons z zs =>
              rw [hq] at this
              simpa using this
    | eptr o base off =>
      simp only at he ⊢
      cases hc : Qv.getObj S.objs o with
      | none => rw [hc] at he; exact he.elim
      | some cells =>
        rw [hc] at he
        obtain ⟨cells', h1, hl, h2⟩ := h.objs o cells hv hc
        rw [h1]
        simp only at he ⊢
        obtain ⟨A, ys, B, rfl, hA, he⟩ := he
        have hlen : cells'.length = A.length + (ys.length + B.length) := by simpa using hl
        refine ⟨cells'.take A.length, (cells'.drop A.length).take ys.length, (cells'.drop A.length).drop ys.length, by rw [List.take_append_drop, List.take_append_drop], by rw [List.length_take, ← hA]; omega, ?_⟩
        have hd : ∀ (i : Nat) (y : FV), (dropN off ys)[i]? = some y → y.safe pr = true → (dropN off ((cells'.drop A.length).take ys.length))[i]? = some y := fun i y hi hy => by
          rw [dropN_get] at hi ⊢
          have hlt := (List.getElem?_eq_some_iff.1 hi).1
          rw [List.getElem?_take_of_lt hlt, List.getElem?_drop]
          refine h2 _ y ?_ hy
          rw [List.getElem?_append_right (by omega), List.getElem?_append_left (by omega), ← hi]
          congr 1
          omega
        cases hag : i.shape.isAgg with
        | true =>
          rw [hag] at he
          simp only at he ⊢
          cases hcs : takeN i.size (dropN off ys) with
          | none => rw [hcs] at he; exact he.elim
          | some cs =>
            rw [hcs] at he
            simp only at he
            subst he
            rw [takeN_agree _ hcs hx hd]
        | false =>
          rw [hag] at he
          simp only at he ⊢
          cases hys : dropN off ys with
          | nil => rw [hys] at he; exact he.elim
          | cons y zs =>
            rw [hys] at he
            simp only at he
            subst he
            have := hd 0 y (by rw [hys]; rfl) hx
            cases hq : dropN off ((cells'.drop A.length).take ys.length) with
            | nil => rw [hq] at this; simp at this
            | cons z zs =>
              rw [hq] at this
              simpa using this
    | p y => cases y <;> first | exact he | exact he.elim
    | _ => exact he.elim

theorem evIndexAddr_agree {pr : List Nat} {S' : AState} (h : Agree pr S S') {t : TypeId} {v i : FV} {K : FV → Prop} (hv : v.safe pr = true) (he : evIndexAddr C S.objs t v i K) : evIndexAddr C S'.objs t v i K := by
  unfold evIndexAddr at he ⊢
  split at he
  · rename_i k n
    split at he
    · split at he
      · exact he.elim
      · rename_i j hj
        try simp only [hj]
        split at he
        · rename_i o T esz
          split at he
          · rename_i cells hc hb
            obtain ⟨cells', h1, hl, -⟩ := h.objs o cells hv hc
            rw [h1]
            simp only [hb]
            obtain ⟨m, base, e1, e2, e3, e4⟩ := he
            exact ⟨m, base, e1, e2, by omega, e4⟩
          · exact he.elim
        · exact he
    · exact he
    · exact he
  · exact he

theorem evBuiltinV_agree {pr : List Nat} {S' : AState} (h : Agree pr S S') {b : Builtin} {args : List FV} {types : List TypeId} {K : FV → Prop} (hv : ∀ v, v ∈ args → v.safe pr = true) (he : evBuiltinV C S.objs b args types K) : evBuiltinV C S'.objs b args types K := by
  unfold evBuiltinV at he ⊢
  split at he
  · split at he
    · split at he
      · exact he
      · exact he
      · split at he
        · rename_i o T esz
          split at he
          · rename_i cells hc
            obtain ⟨cells', h1, hl, -⟩ := h.objs o cells (hv (.osl o T esz) (by simp)) hc
            rw [h1]
            obtain ⟨n, e1, e2⟩ := he
            exact ⟨n, by omega, e2⟩
          · exact he.elim
        · exact he
      · exact he
    · exact he
  · exact he
  · exact he
  · exact he

theorem evVal_agree {pr : List Nat} {S' : AState} (h : Agree pr S S') {op : Op} {x : FV} (hs : safeC pr S op x = true) (he : evVal C S op fun u => u = x) : evVal C S' op fun u => u = x := by
  obtain ⟨⟨zs, h1, h2⟩, h3⟩ := safeC_spec hs
  have hv : ∀ z, z ∈ zs → S'.val z = S.val z := fun z hz => h.val z (h2 z hz)
  have gen : ∀ S2 : AState, (∀ z, z ∈ op.operands → S2.val z = S.val z) → S2.objs = S.objs → evVal C S2 op (fun u => u = x) := fun S2 a b => by rw [evVal_congr a b]; exact he
  by_cases hl : ∃ t a, op = .load t a
  · obtain ⟨t, a, rfl⟩ := hl
    simp only [opsL, Option.some.injEq] at h1
    subst h1
    have ha := h2 a (by simp)
    simp only [evVal] at he ⊢
    rw [hv a (by simp)]
    exact evLoad_agree h ha h3 he
  by_cases hl2 : ∃ t a i, op = .indexAddr t a i
  · obtain ⟨t, a, i, rfl⟩ := hl2
    simp only [opsL, Option.some.injEq] at h1
    subst h1
    have ha := h2 a (by simp)
    simp only [evVal] at he ⊢
    rw [hv a (by simp), hv i (by simp)]
    exact evIndexAddr_agree h ha he
  by_cases hl3 : ∃ b args types, op = .call ⟨.builtin b, args, types⟩
  · obtain ⟨b, args, types, rfl⟩ := hl3
    simp only [opsL, Option.some.injEq] at h1
    subst h1
    simp only [evVal] at he ⊢
    have ha : args.toList.map S'.val = args.toList.map S.val := List.map_congr_left fun z hz => hv z hz
    rw [ha]
    exact evBuiltinV_agree h (fun v hv' => by
      obtain ⟨z, hz, rfl⟩ := List.mem_map.1 hv'
      exact h2 z hz) he
  · have hall := opsL_all h1
    have := gen { S' with objs := S.objs } (fun z hz => by
      have := hv z (hall z hz)
      cases z <;> exact this) rfl
    cases op
    case slice t x lo hi mx =>
      cases mx with
      | none => exact this
      | some m => cases h1
    case load t a => exact absurd ⟨t, a, rfl⟩ hl
    case indexAddr t a i => exact absurd ⟨t, a, i, rfl⟩ hl2
    case call c =>
      obtain ⟨callee, args, types⟩ := c
      cases callee with
      | builtin b => exact absurd ⟨b, args, types, rfl⟩ hl3
      | _ => exact this
    case build t parts =>
      simp only [opsL, Option.some.injEq] at h1
      subst h1
      exact (evVal_build (fun p hp => hv p.2 (List.mem_map_of_mem hp))).mpr he
    case buildSlice t len parts =>
      simp only [opsL, Option.some.injEq] at h1
      subst h1
      exact (evVal_buildSlice (fun p hp => hv p.2 (List.mem_map_of_mem hp))).mpr he
    all_goals exact this

theorem wantedA_agree {pr : List Nat} {S' : AState} (h : Agree pr S S') {b : Bool} (hw : wantedA ops S o = some b) : wantedA ops S' o = some b := by
  unfold wantedA at *
  split at hw
  · exact hw
  · rename_i j want hg
    split at hw
    · cases hw
    · rename_i d hd
      have key : ∀ y : AV, S.get d = .p y → S'.get d = .p y := fun y hy => by
        have := h.val (.tmp d) (by show (S.get d).safe pr = true; rw [hy]; rfl)
        exact this.trans hy
      split at hw
      · rename_i c hc
        rw [key _ hc]; exact hw
      · rename_i hc
        rw [key _ hc]; exact hw
      · cases hw

theorem YieldsC.agree {pr : List Nat} {S' : AState} (h : Agree pr S S') {x : FV} (hy : YieldsC C ops pr o x S) : YieldsC C ops pr o x S' := by
  rcases hy with ⟨h1, h2, h3⟩ | ⟨h1, h2⟩
  · refine .inl ⟨wantedA_agree h h1, evVal_agree h h3 h2, ?_⟩
    obtain ⟨⟨zs, q1, q2⟩, q3⟩ := safeC_spec h3
    exact safeC_mk q1 (fun z hz => by rw [h.val z (q2 z hz)]; exact q2 z hz) q3
  · exact .inr ⟨wantedA_agree h h1, h2⟩

def cStep (C : Ctx) (ops : Array Oper) (pr : List Nat) (o : Oper) (K : AState → Prop) (S : AState) : Prop := ∃ x, YieldsC C ops pr o x S ∧ K (S.put o.dst x)

def hStep (C : Ctx) (call : CallH) (Y : Yld) (ops : Array Oper) (pr : List Nat) (o : Oper) (K : AState → Prop) (S : AState) : Prop :=
  match wantedA ops S o with
  | some true => hardSafe pr S o.dst o.op = true ∧ evOp C call Y o K S
  | some false => K (S.put o.dst undefF)
  | none => False

theorem evC1_spec {pr : List Nat} {K : AState → Prop} (h : evC1 C ops pr o K S) : cStep C ops pr o K S := by
  unfold evC1 at h
  unfold cStep YieldsC wantedA
  split at h
  · rename_i hg
    rw [hg]
    obtain ⟨v, h1, h2, h3⟩ := h
    exact ⟨v, .inl ⟨by first | rfl | trivial, h1, h2⟩, h3⟩
  · rename_i j want hg
    rw [hg]
    split at h
    · exact h.elim
    · rename_i d hd
      simp only [hd]
      split at h
      · rename_i b hb
        rw [sameB_eq] at h
        simp only [hb]
        cases hbw : (b == want) with
        | true =>
          rw [hbw] at h
          obtain ⟨v, h1, h2, h3⟩ := h
          exact ⟨v, .inl ⟨by first | rfl | trivial, h1, h2⟩, h3⟩
        | false => rw [hbw] at h; exact ⟨_, .inr ⟨by first | rfl | trivial, rfl⟩, h⟩
      · rename_i hb
        simp only [hb]
        exact ⟨_, .inr ⟨by first | rfl | trivial, rfl⟩, h⟩
      · exact h.elim

theorem evH1_spec {pr : List Nat} {K : AState → Prop} (h : evH1 C call Y ops pr o K S) : hStep C call Y ops pr o K S := by
  unfold evH1 at h
  unfold hStep wantedA
  split at h
  · rename_i hg
    rw [hg]
    exact h
  · rename_i j want hg
    rw [hg]
    split at h
    · exact h.elim
    · rename_i d hd
      simp only [hd]
      split at h
      · rename_i b hb
        rw [sameB_eq] at h
        simp only [hb]
        cases hbw : (b == want) with
        | true => rw [hbw] at h; exact h
        | false => rw [hbw] at h; exact h
      · rename_i hb
        simp only [hb]
        exact h
      · exact h.elim

theorem put_kill {dst : Option Nat} {x : FV} {k : Nat} (hx : x.kill k = x) : (S.put dst x).kill k = (S.kill k).put dst x := by
  cases dst with
  | none => rfl
  | some d =>
    simp only [AState.put, AState.kill]
    congr 1
    funext i
    split
    · exact hx
    · rfl

/-- A hard operation and a calm one that has nothing to do with it. -/
theorem hStep_put {pr : List Nat} {oi oj : Oper} {x : FV} (hap : oi.apart ops oj = true) {K : AState → Prop} (hy : YieldsC C ops pr oi x S) (h : hStep C call Y ops pr oj K (S.put oi.dst x)) :
    hStep C call Y ops pr oj (fun S1 => YieldsC C ops pr oi x S1 ∧ K (S1.put oi.dst x)) S := by
  obtain ⟨h1, h2, h3⟩ := Oper.apart_spec hap
  have hxs := hy.safe
  unfold hStep at *
  rw [wantedA_put h1] at h
  split at h
  · obtain ⟨hh, he⟩ := h
    have hval : ∀ z, z ∈ oj.op.operands → (S.put oi.dst x).val z = S.val z := fun z hz => AState.put_val_ne fun d hd hzd => h1 d hd (by
      subst hzd
      exact List.mem_append_left _ (List.mem_filterMap.2 ⟨.tmp d, by simpa using hz, rfl⟩))
    have hoff : (S.put oi.dst x).off = S.off := by cases oi.dst <;> rfl
    have hobj : (S.put oi.dst x).objs = S.objs := AState.put_objs
    have hbl : (S.put oi.dst x).blds = S.blds := by cases oi.dst <;> rfl
    -- the end, where a value comes into the operation's own slot
    have fin : ∀ (S1 S2 : AState) (v : FV), Agree pr S S1 → S2 = S1.put oi.dst x → K (S2.put oj.dst v) → YieldsC C ops pr oi x (S1.put oj.dst v) ∧ K ((S1.put oj.dst v).put oi.dst x) := fun S1 S2 v ha e hk => by
      refine ⟨(hy.agree ha).put h3, ?_⟩
      rw [← AState.put_comm h2, ← e]
      exact hk
    cases hop : oj.op with
    | alloc t =>
      rw [hop] at hh
      simp only [evOp, hop] at he ⊢
      simp only [hardSafe] at hh ⊢
      split at he
      · rename_i d inf hd hinf
        rw [hd] at hh
        rw [hoff] at hh
        simp only [Bool.not_eq_true'] at hh
        simp only [hd, hinf]
        refine ⟨by simpa using hh, ?_⟩
        have hk := FV.safe_kill hh hxs
        split at he
        · rename_i hb hz
          try simp only [hb, hz]
          have := fin { S.kill (S.off + d) with blds := (S.off + d, []) :: delB (S.off + d) S.blds } { (S.put oi.dst x).kill (S.off + d) with blds := (S.off + d, []) :: delB (S.off + d) S.blds } (.ptr (S.off + d) 0) ((Agree.kill S hh).trans (Agree.bld _ _)) (by
            rw [put_kill hk]
            cases oi.dst <;> rfl)
          rw [hd] at this
          rw [newBldK_eq] at he ⊢
          unfold newBld at *
          rw [hoff, hbl] at he
          exact this he
        · rename_i hno
          rw [forceL_eq, newObjK_eq] at he
          rw [forceL_eq, newObjK_eq]
          unfold newObj at *
          rw [hoff, hobj] at he
          have := fin { S.kill (S.off + d) with objs := (S.off + d, FV.killL (S.off + d) (inf.zero.map FV.ofVal1)) :: delObj (S.off + d) S.objs } { (S.put oi.dst x).kill (S.off + d) with objs := (S.off + d, FV.killL (S.off + d) (inf.zero.map FV.ofVal1)) :: delObj (S.off + d) S.objs } (.ptr (S.off + d) 0) ((Agree.kill S hh).trans (Agree.consO (S.kill (S.off + d)) _ hh)) (by
            rw [put_kill hk]
            cases oi.dst <;> rfl)
          rw [hd] at this
          exact this he
      · exact he.elim
    | box t z =>
      rw [hop] at hh hval
      have hz := hval z (by simp [Op.operands])
      simp only [evOp, hop, hz] at he ⊢
      simp only [hardSafe] at hh ⊢
      split at he
      · rename_i d inf hd hinf
        rw [hd] at hh
        rw [hoff] at hh
        simp only [Bool.not_eq_true'] at hh
        simp only [hd, hinf]
        refine ⟨by simpa using hh, ?_⟩
        have hk := FV.safe_kill hh hxs
        split at he
        · rename_i hb
          try simp only [hb]
          split at he
          · rename_i hb2
            try simp only [hb2]
            rw [forceL_eq, newObjK_eq] at he ⊢
            unfold newObj at *
            rw [hoff, hobj] at he
            have := fin { S.kill (S.off + d) with objs := (S.off + d, FV.killL (S.off + d) (S.val z).cells) :: delObj (S.off + d) S.objs } { (S.put oi.dst x).kill (S.off + d) with objs := (S.off + d, FV.killL (S.off + d) (S.val z).cells) :: delObj (S.off + d) S.objs } (.ptr (S.off + d) 0) ((Agree.kill S hh).trans (Agree.consO (S.kill (S.off + d)) _ hh)) (by
              rw [put_kill hk]
              cases oi.dst <;> rfl)
            rw [hd] at this
            exact this he
          · exact he.elim
        · exact he.elim
      · exact he.elim
    | store t p z =>
      rw [hop] at hh hval
      have hp := hval p (by simp [Op.operands])
      have hz := hval z (by simp [Op.operands])
      simp only [evOp, hop, hz, hp, hobj] at he ⊢
      simp only [hardSafe, hp] at hh ⊢
      split at he
      · rename_i inf ob off hinf hob
        rw [hob] at hh
        simp only [Bool.not_eq_true'] at hh
        simp only [hinf, hob]
        refine ⟨by simpa using hh, ?_⟩
        split at he
        · exact he.elim
        · rename_i cells hc
          try simp only [hc]
          split at he
          · rename_i hb
            try simp only [hb]
            split at he
            · rename_i hb2
              try simp only [hb2]
              split at he
              · rename_i cs hcs
                try simp only [hcs]
                rw [forceL_eq] at he ⊢
                have := fin (S.setO ob cs) ((S.put oi.dst x).setO ob cs) (.p (.tup [])) (Agree.setO S cs hh) (by
                  unfold AState.setO
                  cases oi.dst <;> rfl)
                exact this he
              · exact he.elim
            · exact he.elim
          · exact he.elim
      · rename_i inf ob base off hinf hob
        rw [hob] at hh
        simp only [Bool.not_eq_true'] at hh
        simp only [hinf, hob]
        refine ⟨by simpa using hh, ?_⟩
        split at he
        · exact he.elim
        · rename_i cells hc
          try simp only [hc]
          split at he
          · rename_i hb
            try simp only [hb]
            split at he
            · rename_i hb2
              try simp only [hb2]
              obtain ⟨A, ys, B, g1, g2, he⟩ := he
              refine ⟨A, ys, B, g1, g2, ?_⟩
              split at he
              · rename_i cs hcs
                try simp only [hcs]
                rw [forceL_eq] at he ⊢
                obtain ⟨cs', g3, he⟩ := he
                have := fin (S.setO ob cs') ((S.put oi.dst x).setO ob cs') (.p (.tup [])) (Agree.setO S cs' hh) (by
                  unfold AState.setO
                  cases oi.dst <;> rfl)
                exact ⟨cs', g3, this he⟩
              · exact he.elim
            · exact he.elim
          · exact he.elim
      · exact he.elim
    | buildSlice t len parts =>
      rw [hop] at hh hval
      have hbs : ∀ K', evBuildSlice C (S.put oi.dst x) t len parts.toList K' = evBuildSlice C S t len parts.toList K' := fun K' => by
        have hpp : ∀ p, p ∈ parts.toList → (S.put oi.dst x).val p.2 = S.val p.2 := fun p hp => hval p.2 (by simp [Op.operands]; exact ⟨p.1, by simpa using hp⟩)
        simp only [evBuildSlice]
        split
        · split
          · rfl
          · split
            · rfl
            · rw [placeElems_congr _ _ hpp]
        · rfl
      have hbo : ∀ e K', evOpenCells C (S.put oi.dst x) e len parts.toList K' = evOpenCells C S e len parts.toList K' := fun e K' => by
        have hpp : ∀ p, p ∈ parts.toList → (S.put oi.dst x).val p.2 = S.val p.2 := fun p hp => hval p.2 (by simp [Op.operands]; exact ⟨p.1, by simpa using hp⟩)
        simp only [evOpenCells]
        split
        · rfl
        · split
          · rw [placeElems_congr _ _ hpp]
          · rfl
      have monoO : ∀ {e : TypeId} {K1 K2 : List FV → Nat → Prop}, (∀ v z, K1 v z → K2 v z) → evOpenCells C S e len parts.toList K1 → evOpenCells C S e len parts.toList K2 := fun {e K1 K2} hm hq => by
        unfold evOpenCells at *
        split at hq
        · exact hq.elim
        · split at hq
          · split at hq
            · split at hq
              · exact hq.elim
              · rw [forceL_eq] at hq ⊢
                exact hm _ _ hq
            · exact hq.elim
          · exact hq.elim
      simp only [evOp, hop, hbs, evOpenSlice, hbo] at he ⊢
      simp only [hardSafe] at hh ⊢
      split at he
      · rename_i d b1 b2 e b3 hd hinf
        rw [hd] at hh
        rw [hoff] at hh
        simp only [Bool.not_eq_true'] at hh
        simp only [hd, hinf]
        refine ⟨by simpa using hh, ?_⟩
        have hk := FV.safe_kill hh hxs
        split at he
        · rename_i hopn
          try simp only [hopn]
          refine monoO (fun cs z hv => ?_) he
          rw [withNm_eq] at hv ⊢
          rw [hoff, hobj] at hv
          have := fin { S.kill (S.off + d) with objs := (S.off + d, FV.killL (S.off + d) cs) :: delObj (S.off + d) S.objs } { (S.put oi.dst x).kill (S.off + d) with objs := (S.off + d, FV.killL (S.off + d) cs) :: delObj (S.off + d) S.objs } (.osl (S.off + d) e z) ((Agree.kill S hh).trans (Agree.consO (S.kill (S.off + d)) _ hh)) (by
            rw [put_kill hk]
            cases oi.dst <;> rfl)
          rw [hd] at this
          exact this hv
        rename_i hopn
        try simp only [hopn]
        have mono : ∀ {K1 K2 : FV → Prop}, (∀ v, K1 v → K2 v) → evBuildSlice C S t len parts.toList K1 → evBuildSlice C S t len parts.toList K2 := fun {K1 K2} hm hq => by
          unfold evBuildSlice at *
          split at hq
          · split at hq
            · exact hq.elim
            · split at hq
              · exact hq.elim
              · split at hq
                · split at hq
                  · exact hq.elim
                  · split at hq
                    · exact hm _ hq
                    · exact hq.elim
                · exact hq.elim
          · exact hq.elim
        refine mono (fun v hv => ?_) he
        split at hv
        · rename_i xs
          split at hv
          · exact hv.elim
          · rename_i j hj
            try simp only [hj]
            have := fin (S.kill (S.off + d)) ((S.put oi.dst x).kill (S.off + d)) (.tip (S.off + d) e j.size xs) (Agree.kill S hh) (put_kill hk)
            rw [hd] at this
            rw [withNm_eq] at hv ⊢
            rw [hoff] at hv
            exact this hv
        · exact hv.elim
      · exact he.elim
    | call c =>
      obtain ⟨callee, args, types⟩ := c
      cases callee with
      | value f => rw [hop] at hh; simp [hardSafe] at hh
      | invoke r m => rw [hop] at hh; simp [hardSafe] at hh
      | builtin b =>
        cases b <;> try (rw [hop] at hh; simp [hardSafe] at hh; done)
        rw [hop] at hh hval
        have hargs : args.toList.map (S.put oi.dst x).val = args.toList.map S.val := List.map_congr_left fun z hz => hval z (by simp [Op.operands, Call.operands]; simpa using hz)
        simp only [evOp, hop, hargs] at he ⊢
        simp only [hardSafe, hargs] at hh ⊢
        split at he
        · rename_i a b t u d ha ht hd
          rw [ha, hd] at hh
          simp only at hh
          rw [hoff] at hh
          simp only [ha, ht, hd]
          refine ⟨by simpa using hh, ?_⟩
          split at he
          · rename_i o2 T2 e2
            unfold evAppO at he ⊢
            split at he
            · rename_i b1 b2 e b3 b4 hti hui
              simp only [hti, hui]
              split at he
              · exact he.elim
              · rename_i hli
                try simp only [hli]
                split at he
                · exact he.elim
                · rename_i j hj
                  try simp only [hj]
                  split at he
                  · rename_i v1 v2 v3
                    try simp only [v1, v2, v3]
                    rw [hobj] at he
                    split at he
                    · exact he.elim
                    · rename_i ys hys
                      try simp only [hys]
                      cases a with
                      | osl k T esz =>
                        simp only at hh he ⊢
                        simp only [Bool.not_eq_true'] at hh
                        have hk := FV.safe_kill hh hxs
                        split at he
                        · rename_i e1 e2 e3
                          try simp only [e1, e2, e3]
                          split at he
                          · exact he.elim
                          · rename_i xs hxs'
                            try simp only [hxs']
                            obtain ⟨n, m, q1, q2, q3, q4, zs, q5, q6⟩ := he
                            have := fin { S.kill k with objs := (k, zs) :: delObj k S.objs } { (S.put oi.dst x).kill k with objs := (k, zs) :: delObj k S.objs } (.osl k e j.size) ((Agree.kill S hh).trans (Agree.consO (S.kill k) _ hh)) (by
                              rw [put_kill hk]
                              cases oi.dst <;> rfl)
                            rw [hd] at this
                            exact ⟨n, m, q1, q2, q3, q4, zs, q5, this q6⟩
                        · exact he.elim
                      | full xs =>
                        simp only at hh
                        simp only [Bool.not_eq_true'] at hh
                        have hk := FV.safe_kill hh hxs
                        cases xs with
                        | nil =>
                          simp only at he ⊢
                          obtain ⟨m, q1, q2, q3, q4, q5⟩ := he
                          rw [withNm_eq, hoff] at q5
                          rw [withNm_eq]
                          obtain ⟨zs, q6, q7⟩ := q5
                          have := fin { S.kill (S.off + d) with objs := (S.off + d, zs) :: delObj (S.off + d) S.objs } { (S.put oi.dst x).kill (S.off + d) with objs := (S.off + d, zs) :: delObj (S.off + d) S.objs } (.osl (S.off + d) e j.size) ((Agree.kill S hh).trans (Agree.consO (S.kill (S.off + d)) _ hh)) (by
                            rw [put_kill hk]
                            cases oi.dst <;> rfl)
                          rw [hd] at this
                          exact ⟨m, q1, q2, q3, q4, zs, q6, this q7⟩
                        | cons z zs => exact he.elim
                      | _ => exact he.elim
                  · exact he.elim
            · exact he.elim
          unfold evAppend at he ⊢
          split at he
          · rename_i b1 b2 e b3 b4 hti hui
            simp only [hti, hui]
            split at he
            · exact he.elim
            · rename_i hli
              try simp only [hli]
              split at he
              · exact he.elim
              · rename_i j hj
                try simp only [hj]
                split at he
                · exact he.elim
                · rename_i ys hys
                  try simp only [hys]
                  cases a with
                  | tip k T esz xs =>
                    simp only at hh he ⊢
                    simp only [Bool.not_eq_true'] at hh
                    have hk := FV.safe_kill hh hxs
                    split at he
                    · rename_i e1 e2 e3
                      try simp only [e1, e2, e3]
                      obtain ⟨q1, q2, q3, zs, q4, q5⟩ := he
                      have := fin (S.kill k) ((S.put oi.dst x).kill k) (.tip k T esz zs) (Agree.kill S hh) (put_kill hk)
                      rw [hd] at this
                      exact ⟨q1, q2, q3, zs, q4, this q5⟩
                    · exact he.elim
                  | full xs =>
                    simp only at hh
                    simp only [Bool.not_eq_true'] at hh
                    have hk := FV.safe_kill hh hxs
                    cases xs with
                    | nil =>
                      simp only at he ⊢
                      split at he
                      · rename_i e1
                        try simp only [e1]
                        obtain ⟨q1, q2, q3⟩ := he
                        rw [withNm_eq, hoff] at q3
                        rw [withNm_eq]
                        have := fin (S.kill (S.off + d)) ((S.put oi.dst x).kill (S.off + d)) (.tip (S.off + d) e j.size ys) (Agree.kill S hh) (put_kill hk)
                        rw [hd] at this
                        exact ⟨q1, q2, this q3⟩
                      · exact he.elim
                    | cons z zs => exact he.elim
                  | _ => first | cases hh | exact he.elim
          · exact he.elim
        · exact he.elim
    | _ => rw [hop] at hh; simp [hardSafe] at hh
  · rename_i hw
    refine ⟨hy.put h3, ?_⟩
    rw [← AState.put_comm h2]
    exact h
  · exact h.elim

def stepB (C : Ctx) (call : CallH) (Y : Yld) (ops : Array Oper) (c : Kinds) (i : Nat) (K : AState → Prop) (S : AState) : Prop :=
  match ops[i]? with
  | none => K S
  | some o => match c.of i with
    | 0 => qStep C ops o K S
    | 1 => cStep C ops c.pr o K S
    | 2 => ∃ K' : AState → Prop, hStep C call Y ops c.pr o K' S ∧ ∀ S', K' S' → K S'
    | _ => ∃ K' : AState → Prop, lStep C call Y ops o K' S ∧ ∀ S', K' S' → K S'

def anyB (C : Ctx) (call : CallH) (Y : Yld) (ops : Array Oper) (c : Kinds) (K : AState → Prop) : Nat → Array Bool → AState → Prop
  | 0, listed, S => Region.ready .any ops listed = [] ∧ K S
  | fuel + 1, listed, S => (Region.ready .any ops listed = [] → K S) ∧ ∀ i ∈ Region.ready .any ops listed, stepB C call Y ops c i (anyB C call Y ops c K fuel (listed.setIfInBounds i true)) S

theorem hStep_l {pr : List Nat} {K : AState → Prop} (h : hStep C call Y ops pr o K S) : lStep C call Y ops o K S := by
  unfold hStep at h
  unfold lStep
  split at h
  · rename_i hw; first | exact h.2 | (rw [hw]; exact h.2)
  · rename_i hw; first | exact h | (rw [hw]; exact h)
  · exact h.elim

theorem anyB_sound (hcall : CallOK E.C call) (hY : YldSound E Y) {c : Kinds} {K : AState → Prop} {Q : Exit → Act → World → Prop} (hQ : ∀ S a w, K S → Sim E S a w → Q .normal a w) :
    ∀ (fuel : Nat) (listed : Array Bool) (S : AState) (a : Act) (w : World), Sim E S a w → anyB E.C call Y ops c K fuel listed S → wpAnyIn E.fence 0 E.C.P .any ops Q fuel listed a w := by
  intro fuel
  induction fuel with
  | zero => intro listed S a w hs h; exact ⟨h.1, hQ _ _ _ h.2 hs⟩
  | succ fuel ih =>
    intro listed S a w hs h
    refine ⟨fun h0 => hQ _ _ _ (h.1 h0) hs, fun i hi => ?_⟩
    have h2 := h.2 i hi
    unfold stepB at h2
    unfold wpOpIn
    split at h2
    · rename_i ho
      simp only [ho]
      exact ih _ _ _ _ hs h2
    · rename_i o ho
      simp only [ho]
      split at h2
      · exact qStep_sound hs h2 fun S a w hk hs' => ih _ _ _ _ hs' hk
      · obtain ⟨x, hy, hK⟩ := h2
        exact qStep_sound hs (hy.yA.qStep hK) fun S a w hk hs' => ih _ _ _ _ hs' hk
      · obtain ⟨K', h3, h4⟩ := h2
        exact lStep_sound hcall hY hs (hStep_l h3) fun S a w hk hs' => ih _ _ _ _ hs' (h4 _ hk)
      · obtain ⟨K', h3, h4⟩ := h2
        exact lStep_sound hcall hY hs h3 fun S a w hk hs' => ih _ _ _ _ hs' (h4 _ hk)

/-- What of an operation that goes first is kept by the others. -/
def Keeps (C : Ctx) (ops : Array Oper) (c : Kinds) (i : Nat) (o : Oper) (x : FV) (S : AState) : Prop := match c.of i with
  | 0 => YieldsA C ops o x S
  | _ => YieldsC C ops c.pr o x S

theorem stepB_put {c : Kinds} {i j : Nat} {oi oj : Oper} {x : FV} (hj : ops[j]? = some oj) (hi1 : c.of i ≤ 1) (hjc : c.of j ≤ c.of i + 1) (hap : oi.apart ops oj = true) {K : AState → Prop} (hy : Keeps C ops c i oi x S) (h : stepB C call Y ops c j K (S.put oi.dst x)) :
    stepB C call Y ops c j (fun S' => Keeps C ops c i oi x S' ∧ K (S'.put oi.dst x)) S := by
  obtain ⟨h1, h2, h3⟩ := Oper.apart_spec hap
  have kput : ∀ {S : AState} {v : FV}, Keeps C ops c i oi x S → Keeps C ops c i oi x (S.put oj.dst v) := fun {S v} hk => by
    unfold Keeps at *
    split
    · rename_i he; simp only [he] at hk; exact hk.put h3
    · rename_i he
      have : YieldsC C ops c.pr oi x S := by
        split at hk
        · rename_i he2; exact absurd he2 he
        · exact hk
      exact this.put h3
  unfold stepB at *
  simp only [hj] at h ⊢
  split at h
  · obtain ⟨u, hu, hK⟩ := qStep_yields h
    refine (hu.unput h1).qStep ⟨kput hy, ?_⟩
    rw [← AState.put_comm h2]
    exact hK
  · obtain ⟨u, hu, hK⟩ := h
    refine ⟨u, hu.unput h1, kput hy, ?_⟩
    rw [← AState.put_comm h2]
    exact hK
  · rename_i hc2
    have hi : c.of i = 1 := by omega
    have hyc : YieldsC C ops c.pr oi x S := by
      unfold Keeps at hy
      simp only [hi] at hy
      exact hy
    obtain ⟨K', h4, h5⟩ := h
    refine ⟨_, hStep_put hap hyc h4, fun S' h' => ⟨?_, h5 _ h'.2⟩⟩
    unfold Keeps
    simp only [hi]
    exact h'.1
  · rename_i n0 n1 n2
    exfalso
    have : c.of j ≤ 2 := by omega
    have : c.of j = 0 ∨ c.of j = 1 ∨ c.of j = 2 := by omega
    rcases this with e | e | e
    · exact n0 e
    · exact n1 e
    · exact n2 e

theorem anyB_first {c : Kinds} {K : AState → Prop} {i : Nat} {oi : Oper} {x : FV} (hi : ops[i]? = some oi) (hi1 : c.of i ≤ 1) :
    ∀ (fuel : Nat) (listed : Array Bool) (S : AState), Closed ops listed →
      (∀ j oj, ops[j]? = some oj → j ≠ i → listed.getD j true = false → reachB ops ops.size j i = true ∨ (c.of j ≤ c.of i + 1 ∧ oi.apart ops oj = true)) →
      i ∈ Region.ready .any ops listed → Keeps C ops c i oi x S →
      anyB C call Y ops c K fuel (listed.setIfInBounds i true) (S.put oi.dst x) → anyB C call Y ops c K (fuel + 1) listed S := by
  have self : ∀ {K' : AState → Prop} {S : AState}, Keeps C ops c i oi x S → K' (S.put oi.dst x) → stepB C call Y ops c i K' S := fun {K' S} hy h => by
    unfold stepB
    simp only [hi]
    unfold Keeps at hy
    have : c.of i = 0 ∨ c.of i = 1 := by omega
    rcases this with e | e
    · simp only [e] at hy ⊢; exact hy.qStep h
    · simp only [e] at hy ⊢; exact ⟨x, hy, h⟩
  intro fuel
  induction fuel with
  | zero =>
    intro listed S _ _ hr hy H
    refine ⟨fun h => (by rw [h] at hr; cases hr), fun j hj => ?_⟩
    by_cases hji : j = i
    · subst hji; exact self hy H
    · have := ready_mono hj hji
      rw [H.1] at this
      cases this
  | succ fuel ih =>
    intro listed S hcl hfree hr hy H
    refine ⟨fun h => (by rw [h] at hr; cases hr), fun j hj => ?_⟩
    by_cases hji : j = i
    · subst hji; exact self hy H
    · have h1 := H.2 j (ready_mono hj hji)
      obtain ⟨hjun, oj, hoj, hall⟩ := mem_ready.1 hj
      rcases hfree j oj hoj hji hjun with hre | ⟨hjm, hap⟩
      · have h2 := hcl.reach _ _ _ hre fun o ho => by
          rw [hoj] at ho
          obtain rfl := Option.some.inj ho
          exact hall
        rw [unlisted (mem_ready.1 hr).1] at h2
        cases h2
      · have h2 := stepB_put hoj hi1 hjm hap hy h1
        have hfree' : ∀ k ok, ops[k]? = some ok → k ≠ i → (listed.setIfInBounds j true).getD k true = false → reachB ops ops.size k i = true ∨ (c.of k ≤ c.of i + 1 ∧ oi.apart ops ok = true) := fun k ok hk hki hun => by
          refine hfree k ok hk hki ?_
          by_cases hjk : j = k
          · subst hjk; exact hjun
          · rw [getD_set_ne true hjk] at hun; exact hun
        have mono : ∀ {K1 K2 : AState → Prop} {S : AState}, (∀ S', K1 S' → K2 S') → stepB C call Y ops c j K1 S → stepB C call Y ops c j K2 S := fun {K1 K2 S} hm hq => by
          unfold stepB at *
          simp only [hoj] at hq ⊢
          split at hq
          · obtain ⟨y, q1, q2⟩ := qStep_yields hq; exact q1.qStep (hm _ q2)
          · obtain ⟨y, q1, q2⟩ := hq; exact ⟨y, q1, hm _ q2⟩
          · obtain ⟨K', q1, q2⟩ := hq; exact ⟨K', q1, fun S' h => hm _ (q2 S' h)⟩
          · obtain ⟨K', q1, q2⟩ := hq; exact ⟨K', q1, fun S' h => hm _ (q2 S' h)⟩
        refine mono (fun S' h' => ?_) h2
        refine ih (listed.setIfInBounds j true) _ (hcl.set hj) hfree' (ready_mono hr (Ne.symm hji)) h'.1 ?_
        rw [Array.setIfInBounds_comm _ _ hji]
        exact h'.2

theorem evStep_spec {c : Kinds} {k : Nat} {K : AState → Prop} (h : evStep C call Y ops c k K S) : stepB C call Y ops c k K S ∧ (c.of k ≤ 1 → ∃ o x, ops[k]? = some o ∧ Keeps C ops c k o x S ∧ K (S.put o.dst x)) := by
  unfold evStep at h
  split at h
  · exact h.elim
  · rename_i o ho
    have ho' : ops[k]? = some o := by simpa using ho
    unfold stepB Keeps
    simp only [ho']
    split at h
    · rename_i e
      have := evQ_cons h
      obtain ⟨x, hy, hK⟩ := qStep_yields this
      simp only [e]
      exact ⟨hy.qStep hK, fun _ => ⟨o, x, rfl, hy, hK⟩⟩
    · rename_i e
      obtain ⟨x, hy, hK⟩ := evC1_spec h
      simp only [e]
      exact ⟨⟨x, hy, hK⟩, fun _ => ⟨o, x, rfl, hy, hK⟩⟩
    · rename_i e
      simp only [e]
      exact ⟨⟨_, evH1_spec h, fun _ h => h⟩, fun hle => absurd hle (by omega)⟩
    · rename_i n0 n1 n2
      have a0 : c.of k ≠ 0 := n0
      have a1 : c.of k ≠ 1 := n1
      have a2 : c.of k ≠ 2 := n2
      obtain ⟨n, hn⟩ : ∃ n, c.of k = n + 3 := ⟨c.of k - 3, by omega⟩
      simp only [hn]
      exact ⟨⟨_, evOps_cons h, fun _ h => h⟩, fun hle => absurd hle (by omega)⟩

theorem evPlan_sound {c : Kinds} {K : AState → Prop} : ∀ (p : Plan),
    (∀ (fuel : Nat) (listed : Array Bool) (S : AState), Closed ops listed → planOK ops c p true fuel listed = true → evPlan C call Y ops c K p S → anyB C call Y ops c K fuel listed S) ∧
    (∀ (fuel : Nat) (listed : Array Bool) (S : AState), Closed ops listed → planOK ops c p false fuel listed = true → evPlan C call Y ops c K p S → ∀ i, i ∈ p.heads → i ∈ Region.ready .any ops listed → ∃ f, fuel = f + 1 ∧ stepB C call Y ops c i (anyB C call Y ops c K f (listed.setIfInBounds i true)) S) := by
  intro p
  induction p with
  | fin =>
    refine ⟨fun fuel listed S hcl hB h => ?_, fun fuel listed S hcl hB h i hi => by cases hi⟩
    simp only [planOK, Bool.true_and, List.isEmpty_iff] at hB
    cases fuel with
    | zero => exact ⟨hB, h⟩
    | succ fuel => exact ⟨fun _ => h, fun i hi => by rw [hB] at hi; cases hi⟩
  | stop =>
    refine ⟨fun fuel listed S hcl hB h => ?_, fun fuel listed S hcl hB h i hi => by cases hi⟩
    simp [planOK] at hB
  | one k p ih =>
    refine ⟨fun fuel listed S hcl hB h => ?_, fun fuel listed S hcl hB h i hi => by cases hi⟩
    cases fuel with
    | zero => simp [planOK] at hB
    | succ fuel =>
      simp only [planOK, Bool.true_and, Bool.and_eq_true] at hB
      obtain ⟨⟨⟨hq, hr⟩, hf⟩, hB'⟩ := hB
      have hr' : k ∈ Region.ready .any ops listed := by simpa using hr
      have hq' : c.of k ≤ 1 := Nat.le_of_ble_eq_true hq
      simp only [evPlan] at h
      obtain ⟨o, x, ho, hy, hK⟩ := (evStep_spec h).2 hq'
      refine anyB_first ho hq' fuel listed S hcl (fun j oj hj hne hun => ?_) hr' hy ?_
      · refine (freeB_spec ho hf j oj hj hne hun).imp id fun h => ⟨Nat.le_of_ble_eq_true h.1, h.2⟩
      · exact ih.1 fuel _ _ (hcl.set hr') hB' hK
  | alt k p r ihp ihr =>
    have parts : ∀ {S : AState}, evPlan C call Y ops c K (.alt k p r) S → evStep C call Y ops c k (evPlan C call Y ops c K p) S ∧ evPlan C call Y ops c K r S := fun {S} h => by
      simp only [evPlan] at h
      split at h
      · exact ⟨h, trivial⟩
      · exact h
    have both : ∀ (top : Bool) (fuel : Nat) (listed : Array Bool) (S : AState), Closed ops listed → planOK ops c (.alt k p r) top fuel listed = true → evPlan C call Y ops c K (.alt k p r) S → ∀ i, i ∈ (Plan.alt k p r).heads → i ∈ Region.ready .any ops listed →
        ∃ f, fuel = f + 1 ∧ stepB C call Y ops c i (anyB C call Y ops c K f (listed.setIfInBounds i true)) S := fun top fuel listed S hcl hB h i hi hr => by
      obtain ⟨hst, hrest⟩ := parts h
      cases fuel with
      | zero => simp [planOK] at hB
      | succ f =>
        simp only [planOK, Bool.and_eq_true] at hB
        rcases List.mem_cons.1 hi with rfl | hi
        · refine ⟨f, rfl, ?_⟩
          have hs := (evStep_spec hst).1
          obtain ⟨-, o, ho, -⟩ := mem_ready.1 hr
          unfold stepB at hs ⊢
          simp only [ho] at hs ⊢
          have hnx : ∀ S', evPlan C call Y ops c K p S' → anyB C call Y ops c K f (listed.setIfInBounds i true) S' := fun S' h' => ihp.1 f _ _ (hcl.set hr) hB.2.1 h'
          split at hs
          · obtain ⟨y, q1, q2⟩ := qStep_yields hs; exact q1.qStep (hnx _ q2)
          · obtain ⟨y, q1, q2⟩ := hs; exact ⟨y, q1, hnx _ q2⟩
          · obtain ⟨K', q1, q2⟩ := hs; exact ⟨K', q1, fun S' h => hnx _ (q2 S' h)⟩
          · obtain ⟨K', q1, q2⟩ := hs; exact ⟨K', q1, fun S' h => hnx _ (q2 S' h)⟩
        · exact ihr.2 (f + 1) listed S hcl hB.2.2 hrest i hi hr
    refine ⟨fun fuel listed S hcl hB h => ?_, fun fuel listed S hcl hB h i hi hr => both false fuel listed S hcl hB h i hi hr⟩
    have hB0 := hB
    cases fuel with
    | zero => simp [planOK] at hB
    | succ f =>
      simp only [planOK, Bool.not_true, Bool.false_or, Bool.and_eq_true, beq_iff_eq] at hB
      refine ⟨fun e => (by rw [hB.1] at e; cases e), fun i hi => ?_⟩
      obtain ⟨f', hf, hst⟩ := both true (f + 1) listed S hcl hB0 h i (by rw [hB.1] at hi; exact hi) hi
      obtain rfl : f = f' := by omega
      exact hst

theorem plan_sound (hcall : CallOK E.C call) (hY : YldSound E Y) {id : Nat} {c : Kinds} {p : Plan} {K : AState → Prop} {Q : Exit → Act → World → Prop} (hQ : ∀ S a w, K S → Sim E S a w → Q .normal a w)
    (hB : planOK ops c p true ops.size (Array.replicate ops.size false) = true) (hs : Sim E S a w) (h : evPlan E.C call Y ops c K p S) : (Code.region id ops true).wpIn E.fence 0 E.C.P Q a w := by
  refine wpIn_region_any E.C.mixed (anyB_sound hcall hY (c := c) hQ _ _ _ _ _ (let ⟨G, hs⟩ := hs; ⟨G, hs.drew⟩) ?_)
  exact (evPlan_sound p).1 _ _ _ ⟨by simp, fun p o hp hl => by
      have : p < ops.size := (Array.getElem?_eq_some_iff.1 hp).1
      simp [this] at hl⟩ hB h

theorem getObj_keep {o : Nat} {l : List (Nat × List FV)} {ys : List FV} (h : Qv.getObj l o = some ys) : ∃ xs, Qv.getObj l o = some xs ∧ xs.length = ys.length ∧ ∀ (i : Nat) (x y : FV), xs[i]? = some x → ys[i]? = some y → Weak x y :=
  ⟨ys, h, rfl, fun i x y hx hy => by rw [hx] at hy; obtain rfl := Option.some.inj hy; exact Weak.refl _⟩

theorem Weaken.refl (S : AState) : Weaken S S := ⟨rfl, rfl, rfl, fun _ _ q => ⟨q, id⟩, ⟨rfl, fun i f f' h1 h2 => by rw [h1] at h2; obtain rfl := Option.some.inj h2; exact ⟨rfl, rfl, fun _ => Weak.refl _⟩⟩, fun _ => Weak.refl _, fun _ _ h => getObj_keep h⟩

theorem off_refl (S : AState) (ds : List Nat) : Off ds S S := ⟨rfl, rfl, rfl, rfl, rfl, rfl, fun _ _ => rfl⟩

/-- **A region.** -/
theorem evRegion_sound (hcall : CallOK E.C call) (hY : YldSound E Y) {id : Nat} {draw : Bool} {K : AState → Prop} {Q : Exit → Act → World → Prop} (hQ : ∀ S a w, K S → Sim E S a w → Q .normal a w) (hs : Sim E S a w)
    (h : evRegion E.C call Y ops draw K S) : (Code.region id ops draw).wpIn E.fence 0 E.C.P Q a w := by
  have keep : ∀ (φ : List FV → Prop), evKeep K (S.junked (dstsOf ops.toList)) (keptOf ops.toList) φ → ∀ S' a w, (φ (getAll S' (keptOf ops.toList)) ∧ Off (dstsOf ops.toList) S S') → Sim E S' a w → Q .normal a w := fun φ hk S' a w ⟨h1, h2⟩ hs' => by
    obtain ⟨T, h3, h4⟩ := getAll_keep _ _ _ hk h1 h2.weaken
    exact hQ T a w h3 (hs'.weaken h4)
  have hd : ∀ o, o ∈ ops.toList → ∀ d, o.dst = some d → d ∈ dstsOf ops.toList := fun o ho d hd => mem_dstsOf ho hd
  unfold evRegion at h
  split at h
  · exact wpIn_region_list (evOps_sound hcall hY hQ _ _ _ _ h hs)
  · obtain ⟨φ, h⟩ := h
    cases φ with
    | none => exact wpIn_region_list (evOps_sound hcall hY hQ _ _ _ _ h hs)
    | some φ =>
      obtain ⟨h1, h2⟩ := h
      exact wpIn_region_list (evQ_sound (keep φ h2) _ _ _ _ (evQ_off _ _ _ hd (off_refl _ _) h1) hs)
  · obtain ⟨how, h⟩ := h
    cases how with
    | lex m =>
      obtain ⟨hB, h⟩ := h
      have hm : m ≤ ops.size := by
        simp only [drawOK, Bool.and_eq_true, decide_eq_true_eq] at hB
        exact hB.1.1
      exact draw_sound hcall hY hQ hB hs h hm
    | keep φ =>
      obtain ⟨hB, h1, h2⟩ := h
      refine draw_sound hcall hY (m := ops.size) (keep φ h2) hB hs ?_ (Nat.le_refl _)
      have h3 := evQ_off (ds := dstsOf ops.toList) _ _ _ hd (off_refl _ _) h1
      have e1 : ops.toList.take ops.size = ops.toList := List.take_of_length_le (by simp)
      have e2 : ops.toList.drop ops.size = [] := List.drop_of_length_le (by simp)
      rw [e1, e2]
      exact h3
    | plan c p T =>
      obtain ⟨hB, h⟩ := h
      cases T with
      | none => exact plan_sound hcall hY hQ hB hs h
      | some T => exact plan_sound hcall hY (K := fun S' => Weaken S' T) (fun S a w hw hs => hQ T a w h.2 (hs.weaken hw)) hB hs h.1

end
end Qv
end
