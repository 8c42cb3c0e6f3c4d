/- Several texts in one: Contracts: equality of blocks, Contracts: the law UnifiedBlocks. No condition. -/
import Derived.Test.YthkmombkgelcnaaGreatDoorS4
import Derived.Test.YthkmombkgelcnaaGreatDoorS1

section
/- Contracts: equality of blocks. No condition. -/
set_option linter.unusedVariables false
set_option linter.unusedSimpArgs false
open Go Go.Proofs
namespace Qv

theorem blk_ext {b c : Block} (h1 : b.oldAt = c.oldAt) (h2 : b.oldLen = c.oldLen) (h3 : b.newAt = c.newAt) (h4 : b.newLen = c.newLen) (h5 : b.lines = c.lines) : b = c := by
  cases b; cases c
  simp_all

structure SInv (x y : List Block) (k : Nat) : Prop where
  le : k ≤ x.length
  eq : x.take k = y.take k

set_option maxRecDepth 100000 in
set_option maxHeartbeats 4000000 in
theorem sameBs_ok (x y : List Block) (hx : x.length ≤ 2 ^ 40) (hy : y.length ≤ 2 ^ 40) (hxl : ∀ b, b ∈ x → b.lines.length ≤ 2 ^ 40) (hyl : ∀ b, b ∈ y → b.lines.length ≤ 2 ^ 40) :
    CallsTo C 7 [encBs x, encBs y] (fun r => r = .val (.bool (decide (x = y)))) := by
  refine callsTo_of_ev' Tryz.func7 rfl rfl rfl ?_
  refine ⟨nec (fun h => ?_) (fun h => ?_)⟩
  · have : x ≠ y := fun e => h (by rw [e])
    show Ret.val (.bool false) = _
    simp [this]
  have hl : x.length = y.length := by simp only [List.length_map] at h; omega
  refine loopR 81 (fun k : Nat => [(0, .p (encBs x)), (1, .p (encBs y)), (5, .p (.int .i64 k))]) (fun _ => []) (fun k => SInv x y k) (fun k => x.length - k) 0 ⟨Nat.zero_le _, rfl⟩ rfl ⟨Weak.refl _, Weak.refl _, Weak.refl _, trivial⟩ trivial ?_
  intro k hk
  refine al_lt (fun hlt => ?_) (fun hge => ?_)
  · have hlb : k < y.length := by omega
    have hne (h' : x[k] ≠ y[k]) : x ≠ y := fun e => by subst e; exact h' rfl
    refine ⟨.plan ⟨[0, 1, 2, 3, 4, 5, 6, 7], [8, 9, 10, 11], [], []⟩ (.one 0 (.one 1 (.one 2 (.one 3 (.one 4 (.one 5 (.one 6 (.one 7 (.alt 8 (.alt 9 (.alt 10 (.alt 11 (.fin) (.stop)) (.stop)) (.stop)) (.alt 9 (.alt 8 (.alt 10 (.alt 11 (.fin) (.stop)) (.stop)) (.stop)) (.stop))))))))))) none, by kernel_rfl, _, rfl, rfl, _, rfl, rfl, _, ⟨by omega, _, idx_map rfl hlt, rfl, rfl⟩, rfl, _, rfl, rfl, _, rfl, rfl, _, rfl, rfl, _, ⟨by omega, _, idx_map rfl hlb, rfl, rfl⟩, rfl, _, rfl, rfl, ?_⟩
    refine ⟨?_, ?_⟩
    · refine ⟨rfl, rfl, rfl, rfl, none, ⟨nec (fun h1 => ?_) (fun h1 => ⟨nec (fun h2 => ?_) (fun h2 => ⟨nec (fun h3 => ?_) (fun h3 => ⟨nec (fun h4 => ?_) (fun h4 => ⟨nec (fun h5 => ?_) (fun h5 => ?_)⟩)⟩)⟩)⟩)⟩⟩
      · have := hne (fun e => h1 (by rw [e]))
        show Ret.val (.bool false) = _
        simp [this]
      · have := hne (fun e => h2 (by rw [e]))
        show Ret.val (.bool false) = _
        simp [this]
      · have := hne (fun e => h3 (by rw [e]))
        show Ret.val (.bool false) = _
        simp [this]
      · have := hne (fun e => h4 (by rw [e]))
        show Ret.val (.bool false) = _
        simp [this]
      · have := hne (fun e => h5 (by rw [e]))
        show Ret.val (.bool false) = _
        simp [this]
      have e5 : x[k].lines.length = y[k].lines.length := by simp only [List.length_map] at h5; omega
      have hb (e : x[k].lines = y[k].lines) : x[k] = y[k] := blk_ext h1 h2 h3 h4 e
      have n1 := hxl _ (List.getElem_mem hlt)
      refine loopR 81 (fun j : Nat => [(0, .p (encBs x)), (1, .p (encBs y)), (5, .p (.int .i64 k)), (6, .ptr 6 0), (7, .ptr 7 0), (8, .p (.int .i64 j))]) (fun _ => [(6, mapP (encBlock x[k])), (7, mapP (encBlock y[k]))]) (fun j => j ≤ x[k].lines.length ∧ x[k].lines.take j = y[k].lines.take j) (fun j => x[k].lines.length - j) 0 ⟨Nat.zero_le _, rfl⟩ rfl ⟨Weak.refl _, Weak.refl _, Weak.refl _, Weak.refl _, Weak.refl _, Weak.refl _, trivial⟩ ⟨hasO_one rfl, hasO_one rfl, trivial⟩ ?_
      rintro j ⟨hj, hje⟩
      refine al_lt (fun hlj => ?_) (fun hgj => ?_)
      · have hlj2 : j < y[k].lines.length := by omega
        refine ⟨.lex 10, by kernel_rfl, _, rfl, _, rfl, _, rfl, _, ⟨by omega, _, idx_map rfl hlj, rfl, rfl⟩, _, rfl, _, rfl, _, rfl, _, rfl, _, ⟨by omega, _, idx_map rfl hlj2, rfl, rfl⟩, _, rfl, al_nes (fun h6 => ?_) (fun h6 => ?_)⟩
        · have := hne (fun e => h6 (by simp only [e]))
          show Ret.val (.bool false) = _
          simp [this]
        · exact ⟨j + 1, wrap64 (by first | omega | (simp only [List.length_map, List.length_append, List.length_cons, List.length_nil] at *; omega)) (by first | omega | (simp only [List.length_map, List.length_append, List.length_cons, List.length_nil] at *; omega)), roundR (j + 1) ⟨hlj, same_step e5 hlj hje h6⟩ (by omega) rfl ⟨Weak.refl _, Weak.refl _, Weak.refl _, Weak.refl _, Weak.refl _, Weak.refl _, trivial⟩ ⟨hasO_one rfl, hasO_one rfl, trivial⟩⟩
      · have he := hb (same_all e5 hgj hje)
        exact ⟨k + 1, wrap64 (by first | omega | (simp only [List.length_map, List.length_append, List.length_cons, List.length_nil] at *; omega)) (by first | omega | (simp only [List.length_map, List.length_append, List.length_cons, List.length_nil] at *; omega)), roundR (k + 1) ⟨hlt, same_step hl hlt hk.eq he⟩ (by omega) rfl ⟨Weak.refl _, Weak.refl _, Weak.refl _, trivial⟩ trivial⟩
    · refine ⟨rfl, rfl, rfl, rfl, none, ⟨nec (fun h1 => ?_) (fun h1 => ⟨nec (fun h2 => ?_) (fun h2 => ⟨nec (fun h3 => ?_) (fun h3 => ⟨nec (fun h4 => ?_) (fun h4 => ⟨nec (fun h5 => ?_) (fun h5 => ?_)⟩)⟩)⟩)⟩)⟩⟩
      · have := hne (fun e => h1 (by rw [e]))
        show Ret.val (.bool false) = _
        simp [this]
      · have := hne (fun e => h2 (by rw [e]))
        show Ret.val (.bool false) = _
        simp [this]
      · have := hne (fun e => h3 (by rw [e]))
        show Ret.val (.bool false) = _
        simp [this]
      · have := hne (fun e => h4 (by rw [e]))
        show Ret.val (.bool false) = _
        simp [this]
      · have := hne (fun e => h5 (by rw [e]))
        show Ret.val (.bool false) = _
        simp [this]
      have e5 : x[k].lines.length = y[k].lines.length := by simp only [List.length_map] at h5; omega
      have hb (e : x[k].lines = y[k].lines) : x[k] = y[k] := blk_ext h1 h2 h3 h4 e
      have n1 := hxl _ (List.getElem_mem hlt)
      refine loopR 81 (fun j : Nat => [(0, .p (encBs x)), (1, .p (encBs y)), (5, .p (.int .i64 k)), (6, .ptr 6 0), (7, .ptr 7 0), (8, .p (.int .i64 j))]) (fun _ => [(6, mapP (encBlock x[k])), (7, mapP (encBlock y[k]))]) (fun j => j ≤ x[k].lines.length ∧ x[k].lines.take j = y[k].lines.take j) (fun j => x[k].lines.length - j) 0 ⟨Nat.zero_le _, rfl⟩ rfl ⟨Weak.refl _, Weak.refl _, Weak.refl _, Weak.refl _, Weak.refl _, Weak.refl _, trivial⟩ ⟨hasO_one rfl, hasO_one rfl, trivial⟩ ?_
      rintro j ⟨hj, hje⟩
      refine al_lt (fun hlj => ?_) (fun hgj => ?_)
      · have hlj2 : j < y[k].lines.length := by omega
        refine ⟨.lex 10, by kernel_rfl, _, rfl, _, rfl, _, rfl, _, ⟨by omega, _, idx_map rfl hlj, rfl, rfl⟩, _, rfl, _, rfl, _, rfl, _, rfl, _, ⟨by omega, _, idx_map rfl hlj2, rfl, rfl⟩, _, rfl, al_nes (fun h6 => ?_) (fun h6 => ?_)⟩
        · have := hne (fun e => h6 (by simp only [e]))
          show Ret.val (.bool false) = _
          simp [this]
        · exact ⟨j + 1, wrap64 (by first | omega | (simp only [List.length_map, List.length_append, List.length_cons, List.length_nil] at *; omega)) (by first | omega | (simp only [List.length_map, List.length_append, List.length_cons, List.length_nil] at *; omega)), roundR (j + 1) ⟨hlj, same_step e5 hlj hje h6⟩ (by omega) rfl ⟨Weak.refl _, Weak.refl _, Weak.refl _, Weak.refl _, Weak.refl _, Weak.refl _, trivial⟩ ⟨hasO_one rfl, hasO_one rfl, trivial⟩⟩
      · have he := hb (same_all e5 hgj hje)
        exact ⟨k + 1, wrap64 (by first | omega | (simp only [List.length_map, List.length_append, List.length_cons, List.length_nil] at *; omega)) (by first | omega | (simp only [List.length_map, List.length_append, List.length_cons, List.length_nil] at *; omega)), roundR (k + 1) ⟨hlt, same_step hl hlt hk.eq he⟩ (by omega) rfl ⟨Weak.refl _, Weak.refl _, Weak.refl _, trivial⟩ trivial⟩
  · obtain rfl : k = x.length := by have := hk.le; omega
    have he := hk.eq
    rw [List.take_length, hl, List.take_length] at he
    show Ret.val (.bool true) = _
    simp [he]

end Qv
end

section
/- Contracts: the law UnifiedBlocks. No condition. -/
set_option linter.unusedVariables false
set_option linter.unusedSimpArgs false
open Go Go.Proofs
namespace Qv

theorem blocksL_tiny {a : List Bytes} {l : List Hunk} (n : Int) (ha : a.length ≤ 40) (hl : l.length ≤ 12) (hh : hSum l ≤ 40) : TinyB (blocksL a l n).1 := by
  have h0 : TinyB [] := ⟨by decide, fun b hb => (List.not_mem_nil hb).elim⟩
  unfold blocksL
  split
  · exact h0
  · split
    · exact (blocks_tiny n ha hl hh).1
    · exact h0

end Qv
end
