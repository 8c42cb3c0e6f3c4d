/- Several texts in one: Contracts: the size of blocks, What a list of blocks reads as, Contracts: the two sides of a block in the reference, Contracts: distance and fits of the reference, Contracts: where the reference places a block, Contracts: Apply of the reference, and the law UnifiedApply. No condition. -/
import Derived.Test.YtbnnmamkplbdkaaDoorS5
import Derived.Test.YtbnnmamkplbdkaaDoorS1
import Derived.Test.YtbnnmamkplbdkaaDoorS4

section
/- Contracts: the size of blocks. No condition. -/
set_option linter.unusedVariables false
set_option linter.unusedSimpArgs false
open Go Go.Proofs
namespace Qv

def lSum (l : List Block) : Nat := (l.map fun b => b.lines.length).sum
def bSum (l : List Block) : Nat := (l.map fun b => sumLen b.lines).sum
def greatBs (l : List Block) : Bool := decide (10 < l.length) || decide (60 < lSum l) || decide (4000 < bSum l)

/-- What a row's own reach gives of blocks. -/
structure SzB (l : List Block) : Prop where
  len : l.length ≤ 2 ^ 47
  each : ∀ b, b ∈ l → SzS b.lines

theorem le_sum : ∀ {l : List Nat} {x : Nat}, x ∈ l → x ≤ l.sum
  | y :: l, x, h => by
    simp only [List.sum_cons]
    rcases List.mem_cons.1 h with rfl | h
    · omega
    · have := le_sum h; omega

theorem bSum_le {l : List Block} (h : SzB l) : bSum l ≤ lSum l * 2 ^ 47 := by
  have : ∀ (l : List Block), (∀ b, b ∈ l → SzS b.lines) → (l.map fun b => sumLen b.lines).sum ≤ (l.map fun b => b.lines.length).sum * 2 ^ 47 := by
    intro l
    induction l with
    | nil => intro _; simp
    | cons b l ih =>
      intro h
      have h1 := ih fun x hx => h x (by simp [hx])
      have h2 : sumLen b.lines ≤ b.lines.length * 2 ^ 47 := sum_each List.length (2 ^ 47) b.lines (h b (by simp)).each
      simp only [List.map_cons, List.sum_cons, Nat.add_mul]
      omega
  exact this l h.each

theorem lSum_le {l : List Block} (h : SzB l) : lSum l ≤ l.length * 2 ^ 47 := sum_each _ (2 ^ 47) l fun b hb => (h.each b hb).len

theorem greatBs_no {l : List Block} (h : greatBs l = false) : l.length ≤ 10 ∧ lSum l ≤ 60 ∧ bSum l ≤ 4000 := by
  simp only [greatBs, Bool.or_eq_false_iff, decide_eq_false_iff_not] at h
  omega

set_option maxHeartbeats 1000000 in
theorem greatBs_ok (l : List Block) (hs : SzB l) : CallsTo C 18 [encBs l] (fun r => r = .val (.bool (greatBs l))) := by
  have h1 := hs.len
  refine callsTo_of_ev' Tryd.func18 rfl rfl rfl ?_
  refine loopR 53 (fun k : Nat => [(0, .p (encBs l)), (3, .p (.int .i64 (IntKind.i64.wrap ((lSum (l.take k) : Nat) : Int)))), (4, .p (.int .i64 (IntKind.i64.wrap ((bSum (l.take k) : Nat) : Int)))), (5, .p (.int .i64 k))]) (fun _ => []) (fun k => k ≤ l.length) (fun k => l.length - k) 0 (Nat.zero_le _) rfl ⟨Weak.refl _, Weak.refl _, Weak.refl _, Weak.refl _, trivial⟩ trivial ?_
  intro k hk
  refine al_lt (fun hlt => ?_) (fun hge => ?_)
  · have d1 : lSum (l.take (k + 1)) = lSum (l.take k) + l[k].lines.length := sum_take _ l k hlt
    have d2 : bSum (l.take (k + 1)) = bSum (l.take k) + sumLen l[k].lines := sum_take _ l k hlt
    have hsk := hs.each _ (List.getElem_mem hlt)
    have hll := hsk.len
    refine ⟨by omega, _, idx_map rfl hlt, rfl, IntKind.i64.wrap ((lSum (l.take (k + 1)) : Nat) : Int), by rw [List.length_map, wrap_add, d1, Int.natCast_add], ?_⟩
    refine loopR 53 (fun j : Nat => [(0, .p (encBs l)), (3, .p (.int .i64 (IntKind.i64.wrap ((lSum (l.take (k + 1)) : Nat) : Int)))), (4, .p (.int .i64 (IntKind.i64.wrap ((bSum (l.take k) + sumLen (l[k].lines.take j) : Nat) : Int)))), (5, .p (.int .i64 k)), (6, .p (.int .i64 j))]) (fun _ => []) (fun j => j ≤ l[k].lines.length) (fun j => l[k].lines.length - j) 0 (Nat.zero_le _) rfl ⟨Weak.refl _, Weak.refl _, Weak.refl _, Weak.refl _, Weak.refl _, trivial⟩ trivial ?_
    intro j hj
    refine ⟨by omega, _, idx_map rfl hlt, rfl, al_lt (fun hlj => ?_) (fun hgj => ?_)⟩
    · have s1 := sumLen_take l[k].lines j hlj
      refine ⟨by omega, _, idx_map rfl hlt, rfl, by omega, _, idx_map rfl hlj, rfl, IntKind.i64.wrap ((bSum (l.take k) + sumLen (l[k].lines.take (j + 1)) : Nat) : Int), by rw [wrap_add, s1]; congr 1; simp only [Int.natCast_add, Int.add_assoc], j + 1, wrap64 (by first | omega | (simp only [List.length_map, List.length_append, List.length_cons, List.length_nil] at *; omega)) (by first | omega | (simp only [List.length_map, List.length_append, List.length_cons, List.length_nil] at *; omega)), roundR (j + 1) hlj (by omega) rfl ⟨Weak.refl _, Weak.refl _, Weak.refl _, Weak.refl _, Weak.refl _, trivial⟩ trivial⟩
    · obtain rfl : j = l[k].lines.length := by omega
      exact ⟨k + 1, wrap64 (by first | omega | (simp only [List.length_map, List.length_append, List.length_cons, List.length_nil] at *; omega)) (by first | omega | (simp only [List.length_map, List.length_append, List.length_cons, List.length_nil] at *; omega)), roundR (k + 1) hlt (by omega) rfl ⟨Weak.refl _, Weak.refl _, Weak.int (by rw [d2, List.take_length]), Weak.refl _, trivial⟩ trivial⟩
  · obtain rfl : k = l.length := by omega
    rw [List.take_length]
    have hL : ¬ 10 < l.length → IntKind.i64.wrap ((lSum l : Nat) : Int) = (lSum l : Int) := fun h => by
      have x1 := lSum_le hs
      have x2 : l.length * 2 ^ 47 ≤ 10 * 2 ^ 47 := Nat.mul_le_mul_right _ (by omega)
      exact wrap64 (by omega) (by omega)
    have hB : ¬ 60 < lSum l → IntKind.i64.wrap ((bSum l : Nat) : Int) = (bSum l : Int) := fun h => by
      have x1 := bSum_le hs
      have x2 : lSum l * 2 ^ 47 ≤ 60 * 2 ^ 47 := Nat.mul_le_mul_right _ (by omega)
      exact wrap64 (by omega) (by omega)
    refine ⟨none, al_dec (fun h => ?_) (fun h => al_dec (fun h2 => ?_) (fun h2 => al_dec (fun h3 => ?_) (fun h3 => ?_)))⟩
    · have : 10 < l.length := by simp only [List.length_map] at h; omega
      show Ret.val (.bool true) = _
      simp [greatBs, this]
    · have e1 : ¬ 10 < l.length := by simp only [List.length_map] at h; omega
      rw [hL e1] at h2
      have : 60 < lSum l := by omega
      show Ret.val (.bool true) = _
      simp [greatBs, this]
    · have e1 : ¬ 10 < l.length := by simp only [List.length_map] at h; omega
      rw [hL e1] at h2
      rw [hB (by omega)] at h3
      have : 4000 < bSum l := by omega
      show Ret.val (.bool true) = _
      simp [greatBs, this]
    · have e1 : ¬ 10 < l.length := by simp only [List.length_map] at h; omega
      rw [hL e1] at h2
      have e2 : ¬ 60 < lSum l := by omega
      rw [hB e2] at h3
      have e3 : ¬ 4000 < bSum l := by omega
      show Ret.val (.bool false) = _
      simp only [greatBs, e1, e2, e3, decide_false, Bool.or_self]

theorem greatBs_tiny {l : List Block} (h : greatBs l = false) : TinyB l := by
  obtain ⟨h1, h2, h3⟩ := greatBs_no h
  refine ⟨by omega, fun b hb => ?_⟩
  have : b.lines.length ≤ lSum l := by
    unfold lSum
    exact le_sum (List.mem_map_of_mem (f := fun b => b.lines.length) hb)
  omega

end Qv
end

section
/- What a list of blocks reads as. No condition. -/
set_option linter.unusedVariables false
open Go Go.Proofs
namespace Qv

theorem inv_block {H : Type} {d : DataW H} {xs : List AV} (h : DRep Tryd.prog 43 d xs) : ∃ y, xs = encBlock y := by
  obtain ⟨ds, ps, rfl, rfl, h1, h2, h3⟩ := DRep.struct_inv Tryd.underlying43 h
  match ds, ps, h1, h2 with
  | [d0, d1, d2, d3, d4], [p0, p1, p2, p3, p4], _, _ =>
    obtain ⟨n0, rfl, _⟩ := inv_int (h3 0 _ _ _ rfl rfl rfl)
    obtain ⟨n1, rfl, _⟩ := inv_int (h3 1 _ _ _ rfl rfl rfl)
    obtain ⟨n2, rfl, _⟩ := inv_int (h3 2 _ _ _ rfl rfl rfl)
    obtain ⟨n3, rfl, _⟩ := inv_int (h3 3 _ _ _ rfl rfl rfl)
    obtain ⟨a, rfl⟩ := inv_S (h3 4 _ _ _ rfl rfl rfl)
    exact ⟨⟨n0, n1, n2, n3, a⟩, rfl⟩
theorem inv_Bs {H : Type} {d : DataW H} {xs : List AV} (h : DRep Tryd.prog 26 d xs) : ∃ a, xs = [encBs a] := DRep.slice_inv Tryd.underlying26 (fun _ _ h => inv_block h) h

theorem sz_B {l : List Block} (h : AV.Small (2 ^ 47) (encBs l)) : SzB l := by
  obtain ⟨h1, h2⟩ := h.sl_inv
  refine ⟨by simpa using h1, fun x hx => ?_⟩
  exact sz_S (h2 (encBlock x) (List.mem_map_of_mem hx) (encS x.lines) (by simp [encBlock]))

theorem arg_B {H : Type} {d : DataW H} {x : AV} (h : DArg Tryd.prog 26 d x) (hw : ∀ n, n ∈ d.weights Tryd.prog 26 → n ≤ reachBytes) : ∃ a, x = encBs a ∧ SzB a := by
  obtain ⟨ys, h1, h2, h3⟩ := arg_one (by decide) h hw
  obtain ⟨a, rfl⟩ := inv_Bs h1
  exact ⟨a, h2.trans (avOf_one Tryd.underlying26 (fun _ h => by cases h)), sz_B (h3 _ (by simp))⟩

theorem arg_s {H : Type} {d : DataW H} {x : AV} (h : DArg Tryd.prog 9 d x) (hw : ∀ n, n ∈ d.weights Tryd.prog 9 → n ≤ reachBytes) : ∃ a : List UInt8, x = .str a ∧ a.length ≤ 2 ^ 47 := by
  obtain ⟨ys, h1, h2, h3⟩ := arg_one (by decide) h hw
  obtain ⟨a, rfl⟩ := inv_str h1
  exact ⟨a, h2.trans (avOf_one Tryd.underlying9 (fun _ h => by cases h)), (h3 _ (by simp [enc1])).str_inv⟩

end Qv
end

section
/- Contracts: the two sides of a block in the reference. No condition. -/
set_option linter.unusedVariables false
set_option linter.unusedSimpArgs false
open Go Go.Proofs
namespace Qv

theorem sgn_cases {s : Bytes} (h : isSgn s = true) : ∃ c t, s = c :: t ∧ (c = 32 ∨ c = 45 ∨ c = 43) := by
  cases s with
  | nil => simp [isSgn, sgn] at h
  | cons c t => exact ⟨c, t, rfl, by simpa [isSgn, sgn, or_assoc] using h⟩

set_option maxHeartbeats 1000000 in
theorem olds_ok (b : Block) (hne : ∀ s, s ∈ b.lines → isSgn s = true) (hlen : b.lines.length ≤ 2 ^ 40) : CallsTo C 43 [.agg (encBlock b)] (fun r => r = .fresh 9 1 ((chosenL 45 b.lines).map enc1)) := by
  refine callsTo_of_ev' Tryd.func43 rfl rfl rfl ?_
  refine loopR 30 (fun k : Nat => [(1, .ptr 1 0), (3, .tip 5 9 1 ((chosenL 45 (b.lines.take k)).map enc1)), (4, .p (.int .i64 k))]) (fun _ => [(1, mapP (encBlock b))]) (fun k => k ≤ b.lines.length) (fun k => b.lines.length - k) 0 (Nat.zero_le _) rfl ⟨Weak.refl _, Weak.refl _, Weak.refl _, trivial⟩ ⟨hasO_one rfl, trivial⟩ ?_
  intro k hk
  refine ⟨ltc (fun hlt => ?_) (fun hge => ?_)⟩
  · obtain ⟨c, s, hs, hcs⟩ := sgn_cases (hne _ (List.getElem_mem hlt))
    have ho := flatMap_take (chosen1 45) _ _ hlt
    have hl := chosenL_le 45 (b.lines.take k)
    refine ⟨by omega, _, idx_map rfl hlt, rfl, Int.le_refl 0, c, by rw [hs]; rfl, ⟨nec (fun ht => ?_) (fun ht => ?_)⟩⟩
    · have hc : c ≠ 43 := fun e => ht (by rw [e]; rfl)
      have h1 : chosen1 45 b.lines[k] = [s] := by
        rcases hcs with e | e | e <;> simp_all [chosen1]
      rw [h1] at ho
      refine ⟨by omega, _, idx_map rfl hlt, rfl, 1, rfl, by rw [hs]; simp, Nat.le_refl _, s, by rw [hs]; simp, all_enc1 _, all_one rfl, ?_, (chosenL 45 (b.lines.take (k + 1))).map enc1, ?_, ?_⟩
      · simp [chunk] at hl ⊢; omega
      · unfold chosenL; rw [ho]; simp [chunk, enc1]
      · exact ⟨k + 1, wrap64 (by omega) (by omega), roundR (k + 1) hlt (by omega) rfl ⟨Weak.refl _, Weak.refl _, Weak.refl _, trivial⟩ ⟨hasO_one rfl, trivial⟩⟩
    · have hc : c = 43 := u8_eq ht
      have h1 : chosen1 45 b.lines[k] = [] := by simp [chosen1, hs, hc]
      rw [h1, List.append_nil] at ho
      exact ⟨k + 1, wrap64 (by omega) (by omega), roundR (k + 1) hlt (by omega) rfl ⟨Weak.refl _, Weak.eq (by unfold chosenL; rw [ho]; rfl), Weak.refl _, trivial⟩ ⟨hasO_one rfl, trivial⟩⟩
  · obtain rfl : k = b.lines.length := by omega
    rw [List.take_length]
    exact .inl rfl

set_option maxHeartbeats 1000000 in
theorem news_ok (b : Block) (hne : ∀ s, s ∈ b.lines → isSgn s = true) (hlen : b.lines.length ≤ 2 ^ 40) : CallsTo C 44 [.agg (encBlock b)] (fun r => r = .fresh 9 1 ((chosenL 43 b.lines).map enc1)) := by
  refine callsTo_of_ev' Tryd.func44 rfl rfl rfl ?_
  refine loopR 30 (fun k : Nat => [(1, .ptr 1 0), (3, .tip 5 9 1 ((chosenL 43 (b.lines.take k)).map enc1)), (4, .p (.int .i64 k))]) (fun _ => [(1, mapP (encBlock b))]) (fun k => k ≤ b.lines.length) (fun k => b.lines.length - k) 0 (Nat.zero_le _) rfl ⟨Weak.refl _, Weak.refl _, Weak.refl _, trivial⟩ ⟨hasO_one rfl, trivial⟩ ?_
  intro k hk
  refine ⟨ltc (fun hlt => ?_) (fun hge => ?_)⟩
  · obtain ⟨c, s, hs, hcs⟩ := sgn_cases (hne _ (List.getElem_mem hlt))
    have ho := flatMap_take (chosen1 43) _ _ hlt
    have hl := chosenL_le 43 (b.lines.take k)
    refine ⟨by omega, _, idx_map rfl hlt, rfl, Int.le_refl 0, c, by rw [hs]; rfl, ⟨nec (fun ht => ?_) (fun ht => ?_)⟩⟩
    · have hc : c ≠ 45 := fun e => ht (by rw [e]; rfl)
      have h1 : chosen1 43 b.lines[k] = [s] := by
        rcases hcs with e | e | e <;> simp_all [chosen1]
      rw [h1] at ho
      refine ⟨by omega, _, idx_map rfl hlt, rfl, 1, rfl, by rw [hs]; simp, Nat.le_refl _, s, by rw [hs]; simp, all_enc1 _, all_one rfl, ?_, (chosenL 43 (b.lines.take (k + 1))).map enc1, ?_, ?_⟩
      · simp [chunk] at hl ⊢; omega
      · unfold chosenL; rw [ho]; simp [chunk, enc1]
      · exact ⟨k + 1, wrap64 (by omega) (by omega), roundR (k + 1) hlt (by omega) rfl ⟨Weak.refl _, Weak.refl _, Weak.refl _, trivial⟩ ⟨hasO_one rfl, trivial⟩⟩
    · have hc : c = 45 := u8_eq ht
      have h1 : chosen1 43 b.lines[k] = [] := by simp [chosen1, hs, hc]
      rw [h1, List.append_nil] at ho
      exact ⟨k + 1, wrap64 (by omega) (by omega), roundR (k + 1) hlt (by omega) rfl ⟨Weak.refl _, Weak.eq (by unfold chosenL; rw [ho]; rfl), Weak.refl _, trivial⟩ ⟨hasO_one rfl, trivial⟩⟩
  · obtain rfl : k = b.lines.length := by omega
    rw [List.take_length]
    exact .inl rfl

end Qv
end

section
/- Contracts: distance and fits of the reference. No condition. -/
set_option linter.unusedVariables false
set_option linter.unusedSimpArgs false
open Go Go.Proofs
namespace Qv

theorem rdist_ok (a b : Int) (ha : -1 ≤ a ∧ a ≤ 2305843009213693952) (hb : -2305843009213693952 ≤ b ∧ b ≤ 2305843009213693952) : CallsTo C 67 [.int .i64 a, .int .i64 b] (fun r => r = .val (.int .i64 (dist a b))) := by
  refine callsTo_of_ev' Tryd.func67 rfl rfl rfl ?_
  refine ⟨dc (fun h => ?_) (fun h => ?_)⟩
  · exact ⟨dist a b, by rw [wrap64 (by omega) (by omega)]; unfold dist; split <;> omega, rfl⟩
  · exact ⟨dist a b, by rw [wrap64 (by omega) (by omega)]; unfold dist; split <;> omega, rfl⟩

set_option maxHeartbeats 1000000 in
theorem rfits_ok (a old : List Bytes) (p : Nat) (ha : a.length ≤ 2 ^ 40) (ho : old.length ≤ 2 ^ 40) (hp : p ≤ 2 ^ 42) : CallsTo C 66 [encS a, encS old, .int .i64 p] (fun r => r = .val (.bool (fitsB a old p))) := by
  refine callsTo_of_ev' Tryd.func66 rfl rfl rfl ?_
  refine ⟨_, wrap64 (by first | omega | (simp only [List.length_map, List.length_append, List.length_cons, List.length_nil] at *; omega)) (by first | omega | (simp only [List.length_map, List.length_append, List.length_cons, List.length_nil] at *; omega)), ⟨dc (fun h => ?_) (fun h => ?_)⟩⟩
  · have : ¬ p + old.length ≤ a.length := by simp only [List.length_map] at h; omega
    show Ret.val (.bool false) = _
    simp [fitsB, this]
  have hle : p + old.length ≤ a.length := by simp only [List.length_map] at h; omega
  have hfit : fitsB a old p = decide (seg a p (p + old.length) = old) := by simp [fitsB, hle]
  have hw : (seg a p (p + old.length)).length = old.length := by unfold seg; simp only [List.length_drop, List.length_take]; omega
  have hget : ∀ k (h1 : k < (seg a p (p + old.length)).length) (h2 : p + k < a.length), (seg a p (p + old.length))[k] = a[p + k] := by
    intro k h1 h2
    simp [seg]
  rw [hfit]
  generalize seg a p (p + old.length) = w at *
  refine loopR 32 (fun k : Nat => [(0, .p (encS a)), (1, .p (encS old)), (2, .p (.int .i64 p)), (7, .p (.int .i64 k))]) (fun _ => []) (fun k => k ≤ old.length ∧ w.take k = old.take k) (fun k => old.length - k) 0 ⟨Nat.zero_le _, rfl⟩ rfl ⟨Weak.refl _, Weak.refl _, Weak.refl _, Weak.refl _, trivial⟩ trivial ?_
  rintro k ⟨hk, he⟩
  refine al_lt (fun hlt => ?_) (fun hge => ?_)
  · have hpk : p + k < a.length := by omega
    have hkw : k < w.length := by omega
    have hg := hget k hkw hpk
    refine ⟨.lex 10, by kernel_rfl, _, rfl, _, rfl, _, rfl, .p (.int .i64 ((p + k : Nat) : Int)), ⟨_, by rw [wrap64 (by omega) (by omega)]; omega, rfl⟩, _, ⟨by omega, _, idx_map rfl hpk, rfl, rfl⟩, _, rfl, _, rfl, _, rfl, _, ⟨by omega, _, idx_map rfl hlt, rfl, rfl⟩, _, rfl, al_nes (fun h6 => ?_) (fun h6 => ?_)⟩
    · have : w ≠ old := fun e => by subst e; exact h6 hg.symm
      show Ret.val (.bool false) = _
      simp [this]
    · exact ⟨k + 1, wrap64 (by first | omega | (simp only [List.length_map, List.length_append, List.length_cons, List.length_nil] at *; omega)) (by first | omega | (simp only [List.length_map, List.length_append, List.length_cons, List.length_nil] at *; omega)), roundR (k + 1) ⟨hlt, same_step hw hkw he (hg.trans h6)⟩ (by omega) rfl ⟨Weak.refl _, Weak.refl _, Weak.refl _, Weak.refl _, trivial⟩ trivial⟩
  · have : w = old := same_all hw (by omega) he
    show Ret.val (.bool true) = _
    simp [this]

end Qv
end

section
/- Contracts: where the reference places a block. No condition. -/
set_option linter.unusedVariables false
set_option linter.unusedSimpArgs false
open Go Go.Proofs
namespace Qv

def posI : Option Nat → Int
  | none => -1
  | some b => b

structure PlInv (a old : List Bytes) (fr : Nat) (want reach : Int) (p : Nat) (best : Option Nat) : Prop where
  pos : fr ≤ p
  hi : p ≤ max fr (a.length + 1)
  eq : nearF a old want reach best p (a.length + 1 - old.length - p) = near a old fr want reach
  bound : ∀ b, best = some b → b ≤ a.length

theorem PlInv.next {a old : List Bytes} {fr : Nat} {want reach : Int} {p : Nat} {best : Option Nat} (h : PlInv a old fr want reach p best) (hp : p ≤ a.length) : PlInv a old fr want reach (p + 1) (near1 a old want reach best p) := by
  refine ⟨by have := h.pos; omega, by have := h.hi; omega, ?_, ?_⟩
  · have he := h.eq
    by_cases hle : p + old.length ≤ a.length
    · rw [show a.length + 1 - old.length - p = (a.length + 1 - old.length - (p + 1)) + 1 by omega] at he
      exact he
    · have : near1 a old want reach best p = best := by simp [near1, fitsB, hle]
      rw [this, show a.length + 1 - old.length - (p + 1) = 0 by omega]
      rw [show a.length + 1 - old.length - p = 0 by omega] at he
      exact he
  · intro b hb
    unfold near1 at hb
    split at hb
    · cases hb; exact hp
    · exact h.bound b hb

set_option maxHeartbeats 1000000 in
theorem place_ref_ok (a old : List Bytes) (fr : Nat) (want reach : Int) (ha : a.length ≤ 2 ^ 40) (ho : old.length ≤ 2 ^ 40) (hfr : fr ≤ 2 ^ 41) (hw : -2 ^ 44 ≤ want ∧ want ≤ 2 ^ 44) :
    CallsTo C 42 [encS a, encS old, .int .i64 fr, .int .i64 want, .int .i64 reach] (fun r => r = .val (.int .i64 (posI (near a old fr want reach)))) := by
  refine callsTo_of_ev' Tryd.func42 rfl rfl rfl ?_
  refine loopR 46 (fun x : Nat × Option Nat => [(0, .p (encS a)), (1, .p (encS old)), (3, .p (.int .i64 want)), (4, .p (.int .i64 reach)), (11, .p (.int .i64 (posI x.2))), (12, .p (.int .i64 x.1))]) (fun _ => []) (fun x => PlInv a old fr want reach x.1 x.2) (fun x => a.length + 1 - x.1) (fr, none) ⟨Nat.le_refl _, Nat.le_max_left _ _, rfl, fun b h => by cases h⟩ rfl ⟨Weak.refl _, Weak.refl _, Weak.refl _, Weak.refl _, Weak.refl _, Weak.refl _, trivial⟩ trivial ?_
  rintro ⟨p, best⟩ hI
  simp only at hI
  have g1 := hI.pos
  have g2 := hI.hi
  refine ⟨dc (fun hle => ?_) (fun hgt => ?_)⟩
  · simp only [List.length_map] at hle
    have hle : p ≤ a.length := by omega
    have hN := hI.next hle
    have hb := hI.bound
    have hno (h : near1 a old want reach best p = best) : PlInv a old fr want reach (p + 1) best := by rw [h] at hN; exact hN
    refine ⟨none, _, (rfits_ok a old p ha ho (by omega)).bool, ?_⟩
    rintro r ⟨t, ht, rfl⟩
    cases t with
    | false => exact ⟨_, wrap64 (by first | omega | (simp only [List.length_map, List.length_append, List.length_cons, List.length_nil] at *; omega)) (by first | omega | (simp only [List.length_map, List.length_append, List.length_cons, List.length_nil] at *; omega)), roundR (p + 1, best) (hno (by simp [near1, ← ht])) (by simp only; omega) rfl ⟨Weak.refl _, Weak.refl _, Weak.refl _, Weak.refl _, Weak.refl _, Weak.refl _, trivial⟩ trivial⟩
    | true =>
      refine ⟨_, rdist_ok p want (by omega) (by omega), ?_⟩
      rintro r rfl
      refine ⟨dc (fun hd => ?_) (fun hd => ?_)⟩
      · cases best with
        | none =>
          refine ⟨dc (fun _ => ?_) (fun h => absurd (show (-1 : Int) < 0 by decide) h)⟩
          have hy : near1 a old want reach none p = some p := by simp [near1, ← ht, hd, betterB]
          rw [hy] at hN
          exact ⟨_, wrap64 (by first | omega | (simp only [List.length_map, List.length_append, List.length_cons, List.length_nil] at *; omega)) (by first | omega | (simp only [List.length_map, List.length_append, List.length_cons, List.length_nil] at *; omega)), roundR (p + 1, some p) hN (by simp only; omega) rfl ⟨Weak.refl _, Weak.refl _, Weak.refl _, Weak.refl _, Weak.refl _, Weak.refl _, trivial⟩ trivial⟩
        | some b =>
          have hbl := hb b rfl
          refine ⟨dc (fun h => absurd h (by show ¬ ((b : Int) < 0); omega)) (fun _ => ?_)⟩
          refine ⟨_, rdist_ok p want (by omega) (by omega), ?_⟩
          rintro r rfl
          refine ⟨_, rdist_ok b want (by omega) (by omega), ?_⟩
          rintro r rfl
          refine ⟨dc (fun hlt => ?_) (fun hge => ?_)⟩
          · have hy : near1 a old want reach (some b) p = some p := by simp [near1, ← ht, hd, betterB, hlt]
            rw [hy] at hN
            exact ⟨_, wrap64 (by first | omega | (simp only [List.length_map, List.length_append, List.length_cons, List.length_nil] at *; omega)) (by first | omega | (simp only [List.length_map, List.length_append, List.length_cons, List.length_nil] at *; omega)), roundR (p + 1, some p) hN (by simp only; omega) rfl ⟨Weak.refl _, Weak.refl _, Weak.refl _, Weak.refl _, Weak.refl _, Weak.refl _, trivial⟩ trivial⟩
          · exact ⟨_, wrap64 (by first | omega | (simp only [List.length_map, List.length_append, List.length_cons, List.length_nil] at *; omega)) (by first | omega | (simp only [List.length_map, List.length_append, List.length_cons, List.length_nil] at *; omega)), roundR (p + 1, some b) (hno (by simp [near1, betterB, hge])) (by simp only; omega) rfl ⟨Weak.refl _, Weak.refl _, Weak.refl _, Weak.refl _, Weak.refl _, Weak.refl _, trivial⟩ trivial⟩
      · exact ⟨_, wrap64 (by first | omega | (simp only [List.length_map, List.length_append, List.length_cons, List.length_nil] at *; omega)) (by first | omega | (simp only [List.length_map, List.length_append, List.length_cons, List.length_nil] at *; omega)), roundR (p + 1, best) (hno (by simp [near1, hd])) (by simp only; omega) rfl ⟨Weak.refl _, Weak.refl _, Weak.refl _, Weak.refl _, Weak.refl _, Weak.refl _, trivial⟩ trivial⟩
  · simp only [List.length_map] at hgt
    have he := hI.eq
    rw [show a.length + 1 - old.length - p = 0 by omega] at he
    rw [← he]
    exact rfl

end Qv
end

section
/- Contracts: Apply of the reference, and the law UnifiedApply. No condition. -/
set_option linter.unusedVariables false
set_option linter.unusedSimpArgs false
open Go Go.Proofs
namespace Qv

set_option maxHeartbeats 2000000 in
theorem refUApply_ok (a : List Bytes) (l : List Block) (reach : Int) (ha : a.length ≤ 2 ^ 38) (ht : TinyB l) (hl : l.length ≤ 2 ^ 18) :
    CallsTo C 20 [encS a, encBs l, .int .i64 reach] (fun r => r = .val (.tup [encS (uapply a l reach).1, encIs (uapply a l reach).2.1, .int .i64 (uapply a l reach).2.2])) := by
  refine callsTo_of_ev' Tryd.func20 rfl rfl rfl ?_
  refine ⟨_, checkR_ok l ht, ?_⟩
  rintro r rfl
  refine ⟨nec (fun h => ?_) (fun h => ?_)⟩
  · rw [uapply_bad h]
    exact rfl
  refine ⟨none, al_dec (fun q1 => ?_) (fun q1 => al_dec (fun q2 => ?_) (fun q2 => ?_))⟩
  · rw [uapply_range h (inR_lo q1)]
    exact rfl
  · rw [uapply_range h (inR_hi (by omega))]
    exact rfl
  rw [uapply_go h (inR_true (by omega) (by omega))]
  have hBOK := checkF_ok h
  refine loopR 93 (fun x : Nat × Nat × Int × List Bytes × List Int => [(0, .p (encS a)), (1, .p (encBs l)), (2, .p (.int .i64 reach)), (11, .tip 31 9 1 (x.2.2.2.1.map enc1)), (12, .tip 32 3 1 (x.2.2.2.2.map encI)), (13, .p (.int .i64 x.2.1)), (14, .p (.int .i64 x.2.2.1)), (15, .p (.int .i64 x.1))]) (fun _ => [])
    (fun x => AInv a l reach x.1 x.2.1 x.2.2.1 x.2.2.2.1 x.2.2.2.2) (fun x => l.length - x.1) (0, 0, 0, [], []) (AInv.zero a l reach) rfl ⟨Weak.refl _, Weak.refl _, Weak.refl _, Weak.refl _, Weak.refl _, Weak.refl _, Weak.refl _, Weak.refl _, trivial⟩ trivial ?_
  rintro ⟨k, fr, sh, o, ps⟩ hI
  simp only at hI
  refine al_lt (fun hlt => ?_) (fun hge => ?_)
  · have hlt : k < l.length := hlt
    have hb := hBOK _ (List.getElem_mem hlt)
    have hll := ht.each _ (List.getElem_mem hlt)
    have g1 := hI.frle
    have g2 := hI.lo
    have g3 := hI.hi
    have g4 := hI.len
    have g5 := hI.plen
    have g6 := hb.at_
    have g7 := chosenL_le 45 l[k].lines
    have g8 := chosenL_le 43 l[k].lines
    have hc45 := olds_ok l[k] (fun s hs => List.all_eq_true.1 hb.signs s hs) (by omega)
    have hc43 := news_ok l[k] (fun s hs => List.all_eq_true.1 hb.signs s hs) (by omega)
    have hpl := place_ref_ok a (chosenL 45 l[k].lines) fr (l[k].oldAt + sh) reach (by omega) (by omega) (by omega) (by omega)
    refine ⟨.lex 15, by kernel_rfl, _, rfl, _, rfl, _, rfl, _, ⟨by omega, _, idx_map rfl hlt, rfl, rfl⟩, _, rfl, .p (encS (chosenL 45 l[k].lines)), ⟨_, hc45, fun r hr => by subst hr; rfl⟩, _, rfl, _, rfl, _, rfl, _, ⟨by omega, _, idx_map rfl hlt, rfl, rfl⟩, _, rfl, _, rfl, _, rfl, .p (.int .i64 (l[k].oldAt + sh)), ⟨_, (show IntKind.i64.wrap (l[k].oldAt + sh) = _ from wrap64 (by omega) (by omega)), rfl⟩, _, rfl, _, hpl, ?_⟩
    rintro r rfl
    cases hq : near a (chosenL 45 l[k].lines) fr (l[k].oldAt + sh) reach with
    | none =>
      refine ⟨dc (fun _ => ?_) (fun h => absurd (show (-1 : Int) < 0 by decide) h)⟩
      rw [hI.none_ hlt hq]
      exact rfl
    | some p =>
      obtain ⟨f1, f2, f3, hN⟩ := hI.some_ ha hlt hb hll hq
      have n1 := hN.len
      have n2 : (seg a fr p).length = p - fr := seg_length a fr p (by omega)
      refine ⟨dc (fun h => absurd h (by show ¬ ((p : Int) < 0); omega)) (fun _ => ?_)⟩
      simp only [List.length_append, n2] at n1
      refine ⟨.plan ⟨[6, 7, 8, 9], [5, 11], [], []⟩ (.one 0 (.one 1 (.one 2 (.one 3 (.one 4 (.one 6 (.one 7 (.one 8 (.one 9 (.alt 5 (.one 10 (.alt 11 (.one 12 (.fin)) (.stop))) (.stop))))))))))) none, by kernel_rfl, _, rfl, _, rfl, _, rfl, _, rfl, .p (encS (seg a fr p)), ⟨p, rfl, fr, rfl, f1, by rw [List.length_map]; omega, all_enc1 _, _, seg_map enc1 a _ _, rfl⟩, _, rfl, rfl, _, rfl, rfl, _, ⟨by omega, _, idx_map rfl hlt, rfl, rfl⟩, rfl, _, rfl, rfl, rfl, all_enc1 _, all_enc1 _, ?_, (o ++ seg a fr p).map enc1, ?_, .p (encS (chosenL 43 l[k].lines)), ⟨_, hc43, fun r hr => by subst hr; rfl⟩, rfl, all_enc1 _, all_enc1 _, ?_, (o ++ seg a fr p ++ chosenL 43 l[k].lines).map enc1, ?_, _, rfl, all_enc (f := encI) (n := 1) (fun _ => rfl) ps, all_one rfl, ?_, (ps ++ [(p : Int)]).map encI, by rw [List.map_append]; rfl, ?_⟩
      · simp only [List.length_map, n2]; omega
      · simp
      · simp only [List.length_map, List.length_append, n2]; omega
      · simp
      · simp only [List.length_map, chunk, List.length_singleton]; omega
      refine ⟨.lex 15, by kernel_rfl, _, rfl, _, rfl, _, rfl, _, ⟨by omega, _, idx_map rfl hlt, rfl, rfl⟩, _, rfl, _, rfl, .p (.int .i64 ((p + l[k].oldLen.toNat : Nat) : Int)), ⟨_, (show IntKind.i64.wrap ((p : Int) + l[k].oldLen) = ((p + l[k].oldLen.toNat : Nat) : Int) from by rw [wrap64 (by omega) (by omega)]; omega), rfl⟩, _, rfl, _, rfl, _, rfl, _, ⟨by omega, _, idx_map rfl hlt, rfl, rfl⟩, _, rfl, _, rfl, .p (.int .i64 ((p : Int) - l[k].oldAt)), ⟨_, (show IntKind.i64.wrap ((p : Int) - l[k].oldAt) = _ from wrap64 (by omega) (by omega)), rfl⟩, _, rfl, ?_⟩
      exact ⟨_, wrap64 (by first | omega | (simp only [List.length_map, List.length_append, List.length_cons, List.length_nil] at *; omega)) (by first | omega | (simp only [List.length_map, List.length_append, List.length_cons, List.length_nil] at *; omega)), roundR (k + 1, p + l[k].oldLen.toNat, (p : Int) - l[k].oldAt, o ++ seg a fr p ++ chosenL 43 l[k].lines, ps ++ [(p : Int)]) hN (by simp only; omega) rfl ⟨Weak.refl _, Weak.refl _, Weak.refl _, Weak.refl _, Weak.refl _, Weak.refl _, Weak.refl _, Weak.refl _, trivial⟩ trivial⟩
  · have hd := hI.done hge
    have g1 := hI.frle
    have g4 := hI.len
    have g9 := hI.le
    rw [hd]
    refine ⟨fr, rfl, by rw [List.length_map]; exact g1, Nat.le_refl _, all_enc1 _, _, drop_map enc1 a fr, all_enc1 _, all_enc1 _, ?_, (o ++ a.drop fr).map enc1, by simp, ?_⟩
    · simp only [List.length_map, List.length_drop]; omega
    · exact rfl

theorem applyF_len {a : List Bytes} {reach : Int} : ∀ {l : List Block} {fr : Nat} {sh : Int} {m : List Bytes} {ps : List Int}, applyF a reach fr sh l = some (m, ps) → m.length ≤ (l.length + 1) * a.length + lSum l ∧ ps.length = l.length
  | [], fr, sh, m, ps, h => by
    cases h
    simp [lSum]
  | b :: l, fr, sh, m, ps, h => by
    rw [applyF] at h
    cases hq : near a (chosenL 45 b.lines) fr (b.oldAt + sh) reach with
    | none => rw [hq] at h; cases h
    | some p =>
      rw [hq] at h
      simp only at h
      cases hr : applyF a reach (p + b.oldLen.toNat) (p - b.oldAt) l with
      | none => rw [hr] at h; cases h
      | some r =>
        obtain ⟨m', ps'⟩ := r
        rw [hr] at h
        cases h
        obtain ⟨i1, i2⟩ := applyF_len hr
        have h1 := seg_le a fr p
        have h2 := chosenL_le 43 b.lines
        have h3 : lSum (b :: l) = b.lines.length + lSum l := by simp [lSum]
        refine ⟨?_, by simp [i2]⟩
        simp only [List.length_append, List.length_cons, h3]
        rw [show (l.length + 1 + 1) * a.length = (l.length + 1) * a.length + a.length by rw [Nat.add_mul (l.length + 1) 1, Nat.one_mul]]
        omega

theorem uapply_len (a : List Bytes) (l : List Block) (reach : Int) : (uapply a l reach).1.length ≤ (l.length + 1) * a.length + lSum l ∧ (uapply a l reach).2.1.length ≤ l.length := by
  unfold uapply
  split
  · split
    · cases h : applyF a reach 0 0 l with
      | none => simp [resA]
      | some r =>
        obtain ⟨m, ps⟩ := r
        have := applyF_len h
        simp only [resA]
        omega
    · simp
  · simp

set_option maxHeartbeats 1000000 in
theorem apply_law_ok (a : List Bytes) (l : List Block) (reach : Int) (hs : SzS a) (hb : SzB l) :
    CallsTo C 4 [encS a, encBs l, .int .i64 reach] (fun q => q = .val (.bool true)) := by
  refine callsTo_of_ev' Tryd.func4 rfl rfl rfl ?_
  refine ⟨none, _, (greatS_ok a hs).bool, ?_⟩
  rintro q ⟨t, hg, rfl⟩
  cases t with
  | true =>
    refine ⟨_, awake_ok, ?_⟩
    rintro q rfl
    exact rfl
  | false =>
  refine ⟨_, (greatBs_ok l hb).bool, ?_⟩
  rintro q ⟨t, hg2, rfl⟩
  cases t with
  | true =>
    refine ⟨_, awake_ok, ?_⟩
    rintro q rfl
    exact rfl
  | false =>
  have z1 : a.length ≤ 40 := by
    have := hg.symm
    simp only [greatS, Bool.or_eq_false_iff, decide_eq_false_iff_not] at this
    omega
  obtain ⟨z2, z3, z4⟩ := greatBs_no hg2.symm
  have ht := greatBs_tiny hg2.symm
  have c1 := uapply_ok a l reach (by omega) ht (by omega)
  have c2 := refUApply_ok a l reach (by omega) ht (by omega)
  obtain ⟨n1, n2⟩ := uapply_len a l reach
  have n3 : (l.length + 1) * a.length ≤ 11 * 40 := Nat.mul_le_mul (by omega) z1
  generalize uapply a l reach = X at *
  refine ⟨_, c1, ?_⟩
  rintro q rfl
  refine ⟨_, c2, ?_⟩
  rintro q rfl
  refine ⟨none, _, same_self X.1 (by omega), ?_⟩
  rintro q rfl
  have c3 : CallsTo C 22 [encIs X.2.1, encIs X.2.1] (fun r => r = .val (.bool true)) := (sameInts_ok X.2.1 X.2.1 (by omega) (by omega)).mono fun r hr => by rw [hr, decide_eq_true rfl]
  refine ⟨_, c3, ?_⟩
  rintro q rfl
  refine ⟨eqc (fun _ => ?_) (fun h => absurd rfl h)⟩
  refine ⟨_, awake_ok, ?_⟩
  rintro q rfl
  exact rfl

end Qv
end
