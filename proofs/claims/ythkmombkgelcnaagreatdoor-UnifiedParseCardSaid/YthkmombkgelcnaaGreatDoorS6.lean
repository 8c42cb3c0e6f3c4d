/- Several texts in one: Contracts: the size of blocks, What a list of blocks reads as, Contracts: the two sides of a block in the reference, Contracts: distance and fits of the reference, Contracts: where the reference places a block, Contracts: Apply of the reference, and the law UnifiedApply. No condition. -/
import Derived.Test.YthkmombkgelcnaaGreatDoorS5
import Derived.Test.YthkmombkgelcnaaGreatDoorS1
import Derived.Test.YthkmombkgelcnaaGreatDoorS4

section
/- Contracts: the size of blocks. No condition. -/
set_option linter.unusedVariables false
set_option linter.unusedSimpArgs false
open Go Go.Proofs
namespace Qv

def lSum (l : List Block) : Nat := (l.map fun b => b.lines.length).sum
def bSum (l : List Block) : Nat := (l.map fun b => sumLen b.lines).sum
def greatBs (l : List Block) : Bool := decide (10 < l.length) || decide (60 < lSum l) || decide (4000 < bSum l)

/-- What a row's own reach gives of blocks. -/
structure SzB (l : List Block) : Prop where
  len : l.length ≤ 2 ^ 47
  each : ∀ b, b ∈ l → SzS b.lines

theorem le_sum : ∀ {l : List Nat} {x : Nat}, x ∈ l → x ≤ l.sum
  | y :: l, x, h => by
    simp only [List.sum_cons]
    rcases List.mem_cons.1 h with rfl | h
    · omega
    · have := le_sum h; omega

theorem bSum_le {l : List Block} (h : SzB l) : bSum l ≤ lSum l * 2 ^ 47 := by
  have : ∀ (l : List Block), (∀ b, b ∈ l → SzS b.lines) → (l.map fun b => sumLen b.lines).sum ≤ (l.map fun b => b.lines.length).sum * 2 ^ 47 := by
    intro l
    induction l with
    | nil => intro _; simp
    | cons b l ih =>
      intro h
      have h1 := ih fun x hx => h x (by simp [hx])
      have h2 : sumLen b.lines ≤ b.lines.length * 2 ^ 47 := sum_each List.length (2 ^ 47) b.lines (h b (by simp)).each
      simp only [List.map_cons, List.sum_cons, Nat.add_mul]
      omega
  exact this l h.each

theorem lSum_le {l : List Block} (h : SzB l) : lSum l ≤ l.length * 2 ^ 47 := sum_each _ (2 ^ 47) l fun b hb => (h.each b hb).len

theorem greatBs_no {l : List Block} (h : greatBs l = false) : l.length ≤ 10 ∧ lSum l ≤ 60 ∧ bSum l ≤ 4000 := by
  simp only [greatBs, Bool.or_eq_false_iff, decide_eq_false_iff_not] at h
  omega

theorem greatBs_tiny {l : List Block} (h : greatBs l = false) : TinyB l := by
  obtain ⟨h1, h2, h3⟩ := greatBs_no h
  refine ⟨by omega, fun b hb => ?_⟩
  have : b.lines.length ≤ lSum l := by
    unfold lSum
    exact le_sum (List.mem_map_of_mem (f := fun b => b.lines.length) hb)
  omega

end Qv
end

section
/- What a list of blocks reads as. No condition. -/
set_option linter.unusedVariables false
open Go Go.Proofs
namespace Qv

theorem inv_block {H : Type} {d : DataW H} {xs : List AV} (h : DRep Tryz.prog 48 d xs) : ∃ y, xs = encBlock y := by
  obtain ⟨ds, ps, rfl, rfl, h1, h2, h3⟩ := DRep.struct_inv Tryz.underlying48 h
  match ds, ps, h1, h2 with
  | [d0, d1, d2, d3, d4], [p0, p1, p2, p3, p4], _, _ =>
    obtain ⟨n0, rfl, _⟩ := inv_int (h3 0 _ _ _ rfl rfl rfl)
    obtain ⟨n1, rfl, _⟩ := inv_int (h3 1 _ _ _ rfl rfl rfl)
    obtain ⟨n2, rfl, _⟩ := inv_int (h3 2 _ _ _ rfl rfl rfl)
    obtain ⟨n3, rfl, _⟩ := inv_int (h3 3 _ _ _ rfl rfl rfl)
    obtain ⟨a, rfl⟩ := inv_S (h3 4 _ _ _ rfl rfl rfl)
    exact ⟨⟨n0, n1, n2, n3, a⟩, rfl⟩
theorem inv_Bs {H : Type} {d : DataW H} {xs : List AV} (h : DRep Tryz.prog 23 d xs) : ∃ a, xs = [encBs a] := DRep.slice_inv Tryz.underlying23 (fun _ _ h => inv_block h) h

theorem sz_B {l : List Block} (h : AV.Small (2 ^ 47) (encBs l)) : SzB l := by
  obtain ⟨h1, h2⟩ := h.sl_inv
  refine ⟨by simpa using h1, fun x hx => ?_⟩
  exact sz_S (h2 (encBlock x) (List.mem_map_of_mem hx) (encS x.lines) (by simp [encBlock]))

theorem arg_B {H : Type} {d : DataW H} {x : AV} (h : DArg Tryz.prog 23 d x) (hw : ∀ n, n ∈ d.weights Tryz.prog 23 → n ≤ reachBytes) : ∃ a, x = encBs a ∧ SzB a := by
  obtain ⟨ys, h1, h2, h3⟩ := arg_one (by decide) h hw
  obtain ⟨a, rfl⟩ := inv_Bs h1
  exact ⟨a, h2.trans (avOf_one Tryz.underlying23 (fun _ h => by cases h)), sz_B (h3 _ (by simp))⟩

theorem arg_s {H : Type} {d : DataW H} {x : AV} (h : DArg Tryz.prog 9 d x) (hw : ∀ n, n ∈ d.weights Tryz.prog 9 → n ≤ reachBytes) : ∃ a : List UInt8, x = .str a ∧ a.length ≤ 2 ^ 47 := by
  obtain ⟨ys, h1, h2, h3⟩ := arg_one (by decide) h hw
  obtain ⟨a, rfl⟩ := inv_str h1
  exact ⟨a, h2.trans (avOf_one Tryz.underlying9 (fun _ h => by cases h)), (h3 _ (by simp [enc1])).str_inv⟩

end Qv
end

section
/- Contracts: the two sides of a block in the reference. No condition. -/
set_option linter.unusedVariables false
set_option linter.unusedSimpArgs false
open Go Go.Proofs
namespace Qv

theorem sgn_cases {s : Bytes} (h : isSgn s = true) : ∃ c t, s = c :: t ∧ (c = 32 ∨ c = 45 ∨ c = 43) := by
  cases s with
  | nil => simp [isSgn, sgn] at h
  | cons c t => exact ⟨c, t, rfl, by simpa [isSgn, sgn, or_assoc] using h⟩

end Qv
end

section
/- Contracts: distance and fits of the reference. No condition. -/
set_option linter.unusedVariables false
set_option linter.unusedSimpArgs false
open Go Go.Proofs
namespace Qv

end Qv
end

section
/- Contracts: where the reference places a block. No condition. -/
set_option linter.unusedVariables false
set_option linter.unusedSimpArgs false
open Go Go.Proofs
namespace Qv

def posI : Option Nat → Int
  | none => -1
  | some b => b

structure PlInv (a old : List Bytes) (fr : Nat) (want reach : Int) (p : Nat) (best : Option Nat) : Prop where
  pos : fr ≤ p
  hi : p ≤ max fr (a.length + 1)
  eq : nearF a old want reach best p (a.length + 1 - old.length - p) = near a old fr want reach
  bound : ∀ b, best = some b → b ≤ a.length

theorem PlInv.next {a old : List Bytes} {fr : Nat} {want reach : Int} {p : Nat} {best : Option Nat} (h : PlInv a old fr want reach p best) (hp : p ≤ a.length) : PlInv a old fr want reach (p + 1) (near1 a old want reach best p) := by
  refine ⟨by have := h.pos; omega, by have := h.hi; omega, ?_, ?_⟩
  · have he := h.eq
    by_cases hle : p + old.length ≤ a.length
    · rw [show a.length + 1 - old.length - p = (a.length + 1 - old.length - (p + 1)) + 1 by omega] at he
      exact he
    · have : near1 a old want reach best p = best := by simp [near1, fitsB, hle]
      rw [this, show a.length + 1 - old.length - (p + 1) = 0 by omega]
      rw [show a.length + 1 - old.length - p = 0 by omega] at he
      exact he
  · intro b hb
    unfold near1 at hb
    split at hb
    · cases hb; exact hp
    · exact h.bound b hb

end Qv
end

section
/- Contracts: Apply of the reference, and the law UnifiedApply. No condition. -/
set_option linter.unusedVariables false
set_option linter.unusedSimpArgs false
open Go Go.Proofs
namespace Qv

theorem applyF_len {a : List Bytes} {reach : Int} : ∀ {l : List Block} {fr : Nat} {sh : Int} {m : List Bytes} {ps : List Int}, applyF a reach fr sh l = some (m, ps) → m.length ≤ (l.length + 1) * a.length + lSum l ∧ ps.length = l.length
  | [], fr, sh, m, ps, h => by
    cases h
    simp [lSum]
  | b :: l, fr, sh, m, ps, h => by
    rw [applyF] at h
    cases hq : near a (chosenL 45 b.lines) fr (b.oldAt + sh) reach with
    | none => rw [hq] at h; cases h
    | some p =>
      rw [hq] at h
      simp only at h
      cases hr : applyF a reach (p + b.oldLen.toNat) (p - b.oldAt) l with
      | none => rw [hr] at h; cases h
      | some r =>
        obtain ⟨m', ps'⟩ := r
        rw [hr] at h
        cases h
        obtain ⟨i1, i2⟩ := applyF_len hr
        have h1 := seg_le a fr p
        have h2 := chosenL_le 43 b.lines
        have h3 : lSum (b :: l) = b.lines.length + lSum l := by simp [lSum]
        refine ⟨?_, by simp [i2]⟩
        simp only [List.length_append, List.length_cons, h3]
        rw [show (l.length + 1 + 1) * a.length = (l.length + 1) * a.length + a.length by rw [Nat.add_mul (l.length + 1) 1, Nat.one_mul]]
        omega

theorem uapply_len (a : List Bytes) (l : List Block) (reach : Int) : (uapply a l reach).1.length ≤ (l.length + 1) * a.length + lSum l ∧ (uapply a l reach).2.1.length ≤ l.length := by
  unfold uapply
  split
  · split
    · cases h : applyF a reach 0 0 l with
      | none => simp [resA]
      | some r =>
        obtain ⟨m, ps⟩ := r
        have := applyF_len h
        simp only [resA]
        omega
    · simp
  · simp

end Qv
end
