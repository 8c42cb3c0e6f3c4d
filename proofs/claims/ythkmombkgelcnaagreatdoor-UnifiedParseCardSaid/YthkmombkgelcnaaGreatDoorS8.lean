/- Several texts in one: Contracts: the hunks of a block, in the reference, Contracts: the hunks of blocks, in the reference, Contracts: the hunks of blocks, in the program. No condition. -/
import Derived.Test.YthkmombkgelcnaaGreatDoorS7

section
/- Contracts: the hunks of a block, in the reference. No condition. -/
set_option linter.unusedVariables false
set_option linter.unusedSimpArgs false
open Go Go.Proofs
namespace Qv

/-! ### Cells of open slices -/

theorem killL_append (d : Nat) (xs ys : List FV) : FV.killL d (xs ++ ys) = FV.killL d xs ++ FV.killL d ys := by
  simp [FV.killL_eq]

theorem killL_mapP (d : Nat) (xs : List AV) : FV.killL d (mapP xs) = mapP xs := by
  induction xs with
  | nil => rfl
  | cons x xs ih => simp [mapP, FV.killL, FV.kill, ih]

theorem mapP_append (xs ys : List AV) : mapP (xs ++ ys) = mapP xs ++ mapP ys := by
  induction xs with
  | nil => rfl
  | cons x xs ih => simp [mapP, ih]

theorem mapP_length (xs : List AV) : (mapP xs).length = xs.length := by
  induction xs with
  | nil => rfl
  | cons x xs ih => simp [mapP, ih]

theorem flat_length {α : Type} (f : α → List AV) (n : Nat) (hf : ∀ x, (f x).length = n) (l : List α) : (mapP (l.flatMap f)).length = l.length * n := by
  rw [mapP_length]
  induction l with
  | nil => simp
  | cons x l ih => simp only [List.flatMap_cons, List.length_append, List.length_cons, hf, ih, Nat.add_mul, Nat.one_mul]; omega

/-- Cell for cell no more. -/
def WeakL (xs ys : List FV) : Prop := xs.length = ys.length ∧ ∀ (i : Nat) (x y : FV), xs[i]? = some x → ys[i]? = some y → Weak x y

theorem WeakL.refl (xs : List FV) : WeakL xs xs := ⟨rfl, fun i x y h1 h2 => by rw [h1] at h2; obtain rfl := Option.some.inj h2; exact Weak.refl _⟩
theorem WeakL.nil : WeakL [] [] := WeakL.refl _
theorem WeakL.cons {x y : FV} {xs ys : List FV} (h : Weak x y) (h' : WeakL xs ys) : WeakL (x :: xs) (y :: ys) :=
  ⟨by simp [h'.1], fun i a b h1 h2 => by
    cases i with
    | zero => simp at h1 h2; subst h1; subst h2; exact h
    | succ i => exact h'.2 i a b (by simpa using h1) (by simpa using h2)⟩
theorem WeakL.append {xs ys xs' ys' : List FV} (h : WeakL xs ys) (h' : WeakL xs' ys') : WeakL (xs ++ xs') (ys ++ ys') :=
  ⟨by simp [h.1, h'.1], fun i a b h1 h2 => by
    by_cases hi : i < xs.length
    · rw [List.getElem?_append_left hi] at h1
      rw [List.getElem?_append_left (by rw [← h.1]; exact hi)] at h2
      exact h.2 i a b h1 h2
    · rw [List.getElem?_append_right (by omega)] at h1
      rw [List.getElem?_append_right (by have := h.1; omega), ← h.1] at h2
      exact h'.2 _ a b h1 h2⟩

theorem hasO_w {objs : List (Nat × List FV)} {o : Nat} {xs ys : List FV} (h : Qv.getObj objs o = some xs) (hw : WeakL xs ys) :
    ∃ zs, Qv.getObj objs o = some zs ∧ zs.length = ys.length ∧ ∀ (i : Nat) (x y : FV), zs[i]? = some x → ys[i]? = some y → Weak x y := ⟨xs, h, hw.1, hw.2⟩

/-! ### What it computes -/

/-- The hunks of lines: the place so far, the hunk that is open. -/
def hunkF (at_ : Int) : Option Hunk → List Bytes → List Hunk
  | cur, [] => cur.toList
  | cur, s :: l =>
    if sgn s = 32 then cur.toList ++ hunkF (at_ + 1) none l
    else if sgn s = 45 then hunkF (at_ + 1) (some { cur.getD ⟨at_, [], []⟩ with old := (cur.getD ⟨at_, [], []⟩).old ++ [s.tail] }) l
    else hunkF at_ (some { cur.getD ⟨at_, [], []⟩ with new := (cur.getD ⟨at_, [], []⟩).new ++ [s.tail] }) l

def hunksB (b : Block) : List Hunk := hunkF b.oldAt none b.lines

/-- The cells of the hunks: the last may be open. -/
def hCells (n1 n2 : Nat) (done : List Hunk) : Option Hunk → List FV
  | none => mapP (done.flatMap encHunk) ++ []
  | some h => mapP (done.flatMap encHunk) ++ [.p (.int .i64 h.at_), .tip n1 9 1 (h.old.map enc1), .tip n2 9 1 (h.new.map enc1)]

theorem hunk_flat (done : List Hunk) : (mapP (done.flatMap encHunk)).length = done.length * 3 := flat_length encHunk 3 (fun _ => rfl) done

theorem hCells_close (n1 n2 : Nat) (done : List Hunk) (cur : Option Hunk) : WeakL (hCells n1 n2 done cur) (hCells n1 n2 (done ++ cur.toList) none) := by
  cases cur with
  | none => simpa using WeakL.refl _
  | some h =>
    simp only [hCells, Option.toList, List.flatMap_append, mapP_append, List.append_nil]
    exact (WeakL.refl _).append (.cons (Weak.refl _) (.cons (Weak.tip_p _ _ _ _) (.cons (Weak.tip_p _ _ _ _) .nil)))

/-- The state of the loop over the lines. -/
structure HuI (b : Block) (i : Nat) (at_ : Int) (done : List Hunk) (cur : Option Hunk) : Prop where
  le : i ≤ b.lines.length
  eq : done ++ hunkF at_ cur (b.lines.drop i) = hunksB b
  lo : b.oldAt ≤ at_
  hi : at_ ≤ b.oldAt + i
  len : done.length + cur.toList.length ≤ i
  oldLe : ∀ h, cur = some h → h.old.length ≤ i ∧ h.new.length ≤ i

theorem HuI.zero (b : Block) : HuI b 0 b.oldAt [] none := ⟨Nat.zero_le _, by simp [hunksB], Int.le_refl _, by omega, by simp, fun h e => by cases e⟩

theorem HuI.ctx {b : Block} {i : Nat} {at_ : Int} {done : List Hunk} {cur : Option Hunk} (h : HuI b i at_ done cur) (hi : i < b.lines.length) (hs : sgn b.lines[i] = 32) : HuI b (i + 1) (at_ + 1) (done ++ cur.toList) none := by
  have he := h.eq
  rw [List.drop_eq_getElem_cons hi, hunkF, if_pos hs] at he
  exact ⟨hi, by rw [List.append_assoc]; exact he, by have := h.lo; omega, by have := h.hi; omega, by have := h.len; simp; omega, fun h e => by cases e⟩

theorem HuI.old {b : Block} {i : Nat} {at_ : Int} {done : List Hunk} {cur : Option Hunk} (h : HuI b i at_ done cur) (hi : i < b.lines.length) (hs : sgn b.lines[i] = 45) :
    HuI b (i + 1) (at_ + 1) done (some { cur.getD ⟨at_, [], []⟩ with old := (cur.getD ⟨at_, [], []⟩).old ++ [b.lines[i].tail] }) := by
  have he := h.eq
  rw [List.drop_eq_getElem_cons hi, hunkF, if_neg (by rw [hs]; decide), if_pos hs] at he
  have hl := h.len
  have ho := h.oldLe
  refine ⟨hi, he, by have := h.lo; omega, by have := h.hi; omega, ?_, fun g e => ?_⟩
  · cases cur <;> simp at hl ⊢ <;> omega
  · obtain rfl := Option.some.inj e
    cases cur with
    | none => simp
    | some c => have := ho c rfl; simp; omega

theorem HuI.new {b : Block} {i : Nat} {at_ : Int} {done : List Hunk} {cur : Option Hunk} (h : HuI b i at_ done cur) (hi : i < b.lines.length) (hs : sgn b.lines[i] ≠ 32) (hs' : sgn b.lines[i] ≠ 45) :
    HuI b (i + 1) at_ done (some { cur.getD ⟨at_, [], []⟩ with new := (cur.getD ⟨at_, [], []⟩).new ++ [b.lines[i].tail] }) := by
  have he := h.eq
  rw [List.drop_eq_getElem_cons hi, hunkF, if_neg hs, if_neg hs'] at he
  have hl := h.len
  have ho := h.oldLe
  refine ⟨hi, he, h.lo, by have := h.hi; omega, ?_, fun g e => ?_⟩
  · cases cur <;> simp at hl ⊢ <;> omega
  · obtain rfl := Option.some.inj e
    cases cur with
    | none => simp
    | some c => have := ho c rfl; simp; omega

theorem HuI.done_ {b : Block} {i : Nat} {at_ : Int} {done : List Hunk} {cur : Option Hunk} (h : HuI b i at_ done cur) (hi : ¬ i < b.lines.length) : done ++ cur.toList = hunksB b := by
  have he := h.eq
  rw [List.drop_of_length_le (by omega), hunkF] at he
  exact he

theorem toAVs_append {xs ys : List FV} {as_ bs : List AV} (h : FV.toAVs xs = some as_) (h' : FV.toAVs ys = some bs) : FV.toAVs (xs ++ ys) = some (as_ ++ bs) := by
  induction xs generalizing as_ with
  | nil => simp [FV.toAVs] at h; subst h; exact h'
  | cons x xs ih =>
    simp only [FV.toAVs] at h
    split at h
    · rename_i y hy
      split at h
      · rename_i zs hz
        obtain rfl := Option.some.inj h
        simp only [List.cons_append, FV.toAVs, hy, ih hz]
      · cases h
    · cases h

theorem toAVs_mapP (xs : List AV) : FV.toAVs (mapP xs) = some xs := by
  induction xs with
  | nil => rfl
  | cons x xs ih => simp [mapP, FV.toAVs, FV.toAV, ih]

theorem toAVs_hCells (n1 n2 : Nat) (done : List Hunk) (cur : Option Hunk) : FV.toAVs (hCells n1 n2 done cur) = some (((done ++ cur.toList).map encHunk).flatten) := by
  have hf : ((done ++ cur.toList).map encHunk).flatten = done.flatMap encHunk ++ cur.toList.flatMap encHunk := by
    rw [← List.flatMap_append]; rfl
  rw [hf]
  cases cur with
  | none => exact toAVs_append (toAVs_mapP _) rfl
  | some h => exact toAVs_append (toAVs_mapP _) rfl

end Qv
end

section
/- Contracts: the hunks of blocks, in the reference. No condition. -/
set_option linter.unusedVariables false
set_option linter.unusedSimpArgs false
open Go Go.Proofs
namespace Qv

def uhunks (l : List Block) : List Hunk × Int := if (checkL l).2 = 0 then (l.flatMap hunksB, 0) else ([], (checkL l).2)

theorem hunkF_len (l : List Bytes) : ∀ (at_ : Int) (cur : Option Hunk), (hunkF at_ cur l).length ≤ cur.toList.length + l.length := by
  induction l with
  | nil => intro at_ cur; simp [hunkF]
  | cons s l ih =>
    intro at_ cur
    unfold hunkF
    split
    · have := ih (at_ + 1) none; simp at *; omega
    · split
      · have := ih (at_ + 1) (some { cur.getD ⟨at_, [], []⟩ with old := (cur.getD ⟨at_, [], []⟩).old ++ [s.tail] }); simp at *; omega
      · have := ih at_ (some { cur.getD ⟨at_, [], []⟩ with new := (cur.getD ⟨at_, [], []⟩).new ++ [s.tail] }); simp at *; omega

theorem hunksB_len (b : Block) : (hunksB b).length ≤ b.lines.length := by
  have := hunkF_len b.lines b.oldAt none
  simpa [hunksB] using this

theorem hunks_take (l : List Block) (k : Nat) (h : k < l.length) : (l.take (k + 1)).flatMap hunksB = (l.take k).flatMap hunksB ++ hunksB l[k] := by
  rw [List.take_succ_eq_append_getElem h, List.flatMap_append]
  simp

theorem hunks_len (l : List Block) (n : Nat) (h : ∀ b, b ∈ l → b.lines.length ≤ n) : (l.flatMap hunksB).length ≤ l.length * n := by
  induction l with
  | nil => simp
  | cons b l ih =>
    have h1 := ih (fun x hx => h x (List.mem_cons_of_mem _ hx))
    have h2 := hunksB_len b
    have h3 := h b (List.mem_cons_self ..)
    simp only [List.flatMap_cons, List.length_append, List.length_cons, Nat.add_mul, Nat.one_mul]
    omega

theorem bok_sgn {b : Block} (h : BOK b) : ∀ s, s ∈ b.lines → isSgn s = true := fun s hs => List.all_eq_true.1 h.signs s hs

end Qv
end

section
/- Contracts: the hunks of blocks, in the program. No condition. -/
set_option linter.unusedVariables false
set_option linter.unusedSimpArgs false
open Go Go.Proofs
namespace Qv

def sl6 : Bool → FV
  | false => .full []
  | true => .osl 48 33 3
def ob6 (cs : List FV) : Bool → List (Nat × List FV)
  | false => []
  | true => [(48, cs)]

theorem hunkF_ne (l : List Bytes) : ∀ (at_ : Int) (cur : Option Hunk), (∀ s, s ∈ l → isSgn s = true) → (cur ≠ none ∨ ∃ s, s ∈ l ∧ sgn s ≠ 32) → hunkF at_ cur l ≠ [] := by
  induction l with
  | nil =>
    intro at_ cur hs h
    rcases h with h | ⟨s, h, -⟩
    · cases cur with
      | none => exact absurd rfl h
      | some c => simp [hunkF]
    · cases h
  | cons s l ih =>
    intro at_ cur hs h
    unfold hunkF
    split
    · rename_i h1
      cases cur with
      | some c => simp
      | none =>
        simp only [Option.toList, List.nil_append]
        refine ih _ _ (fun x hx => hs x (List.mem_cons_of_mem _ hx)) (.inr ?_)
        rcases h with h | ⟨x, hx, hx'⟩
        · exact absurd rfl h
        · rcases List.mem_cons.1 hx with rfl | hx
          · exact absurd h1 hx'
          · exact ⟨x, hx, hx'⟩
    · split
      · exact ih _ _ (fun x hx => hs x (List.mem_cons_of_mem _ hx)) (.inl (by simp))
      · exact ih _ _ (fun x hx => hs x (List.mem_cons_of_mem _ hx)) (.inl (by simp))

theorem hunksB_ne {b : Block} (h : BOK b) : hunksB b ≠ [] := by
  refine hunkF_ne _ _ _ (bok_sgn h) (.inr ?_)
  by_cases h1 : ∃ s, s ∈ b.lines ∧ sgn s ≠ 32
  · exact h1
  have h2 : ∀ s, s ∈ b.lines → sgn s = 32 := fun s hs => Classical.byContradiction fun e => h1 ⟨s, hs, e⟩
  have e1 : nR b.lines = 0 := List.countP_eq_zero.2 fun s hs => by rw [h2 s hs]; decide
  have e2 : nA b.lines = 0 := List.countP_eq_zero.2 fun s hs => by rw [h2 s hs]; decide
  exact absurd (by rw [e1, e2]) h.some_

theorem hunks_ne {l : List Block} (h : ∀ b, b ∈ l → BOK b) (hl : l ≠ []) : l.flatMap hunksB ≠ [] := by
  cases l with
  | nil => exact absurd rfl hl
  | cons b l =>
    intro e
    rw [List.flatMap_cons] at e
    exact hunksB_ne (h b (List.mem_cons_self ..)) (List.append_eq_nil_iff.1 e).1

theorem hCells_len (n1 n2 : Nat) (d : List Hunk) (g : Hunk) : (hCells n1 n2 d (some g)).length = (d.length + 1) * 3 := by
  unfold hCells
  rw [List.length_append, hunk_flat]
  simp only [List.length_cons, List.length_nil]
  omega

theorem hCells_kill1 (d : List Hunk) (g : Hunk) : FV.killL 65 (hCells 65 78 d (some g)) = mapP (d.flatMap encHunk) ++ ([.p (.int .i64 g.at_), .p (encS g.old), .tip 78 9 1 (g.new.map enc1)] ++ []) := by
  simp [hCells, killL_append, killL_mapP, FV.killL, FV.kill]; rfl
theorem hCells_kill2 (d : List Hunk) (g : Hunk) : FV.killL 78 (hCells 65 78 d (some g)) = mapP (d.flatMap encHunk) ++ ([.p (.int .i64 g.at_), .tip 65 9 1 (g.old.map enc1), .p (encS g.new)] ++ []) := by
  simp [hCells, killL_append, killL_mapP, FV.killL, FV.kill]; rfl

end Qv
end
