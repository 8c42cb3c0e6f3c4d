/- Several texts in one: A quick check that the operations of a region may be taken in their own order, The table of glob.Overlap in plain terms, Contract: glob.Overlap. Written by gen13.py. No condition. -/
import Derived.Test.YtikckhebddimoaaGreatDoorN4
import Derived.Test.YtikckhebddimoaaGreatDoorNN
import Derived.Test.YtikckhebddimoaaGreatDoorN8

section
/- A quick check that the operations of a region may be taken in their own order. No condition. -/
set_option linter.unusedVariables false
set_option linter.unusedSimpArgs false
open Go Go.Proofs Go.RowKit
namespace Qv
def orMask (ms : List Nat) : List Edge → Nat
  | [] => 0
  | e :: es => match Region.binds .any e with
    | true => orMask ms es ||| ((1 <<< e.on) ||| ms.getD e.on 0)
    | false => orMask ms es
def fwdB (j : Nat) : List Edge → Bool
  | [] => true
  | e :: es => match Region.binds .any e with
    | true => match Nat.ble (e.on + 1) j with
      | true => fwdB j es
      | false => false
    | false => fwdB j es
def chkMasks (ms : List Nat) : Nat → List Oper → Bool
  | _, [] => true
  | j, o :: os => match fwdB j o.after.toList with
    | true => match Nat.beq (ms.getD j 0) (orMask ms o.after.toList) with
      | true => chkMasks ms (j + 1) os
      | false => false
    | false => false
def freeRow (ops : Array Oper) (m : Nat) (ms : List Nat) (k : Nat) (o : Oper) : Nat → List Oper → Bool
  | _, [] => true
  | j, oj :: os => match (ms.getD j 0).testBit k with
    | true => freeRow ops m ms k o (j + 1) os
    | false => match Nat.ble (j + 1) m with
      | true => match o.apart ops oj with
        | true => freeRow ops m ms k o (j + 1) os
        | false => false
      | false => false
def chkFree (ops : Array Oper) (m : Nat) (ms : List Nat) : Nat → List Oper → Bool
  | _, [] => true
  | k, o :: os => match Nat.ble (k + 1) m with
    | true => match freeRow ops m ms k o (k + 1) os with
      | true => chkFree ops m ms (k + 1) os
      | false => false
    | false => true
def onPrev (j : Nat) : List Edge → Bool
  | [] => false
  | e :: es => match Region.binds .any e with
    | true => match Nat.beq (e.on + 1) j with
      | true => true
      | false => onPrev j es
    | false => onPrev j es
def chkTail (m : Nat) : Nat → List Oper → Bool
  | _, [] => true
  | j, o :: os => match Nat.ble (m + 1) j with
    | true => match onPrev j o.after.toList with
      | true => chkTail m (j + 1) os
      | false => false
    | false => chkTail m (j + 1) os
def drawFast (ops : Array Oper) (m : Nat) (ms : List Nat) : Bool := match Nat.ble m ops.toList.length with
  | true => match chkMasks ms 0 ops.toList with
    | true => match chkTail m 0 ops.toList with
      | true => chkFree ops m ms 0 ops.toList
      | false => false
    | false => false
  | false => false
theorem orMask_bit {ms : List Nat} {i : Nat} : ∀ {es : List Edge}, (orMask ms es).testBit i = true → ∃ e, e ∈ es ∧ Region.binds .any e = true ∧ (e.on = i ∨ (ms.getD e.on 0).testBit i = true)
  | [], h => by simp [orMask] at h
  | e :: es, h => by
    unfold orMask at h
    split at h
    · rename_i hb
      rw [Nat.testBit_or, Nat.testBit_or, Bool.or_eq_true, Bool.or_eq_true, Nat.one_shiftLeft, Nat.testBit_two_pow] at h
      rcases h with h | h | h
      · obtain ⟨e', h1, h2⟩ := orMask_bit h
        exact ⟨e', List.mem_cons_of_mem _ h1, h2⟩
      · exact ⟨e, List.mem_cons_self, hb, .inl (of_decide_eq_true h)⟩
      · exact ⟨e, List.mem_cons_self, hb, .inr h⟩
    · obtain ⟨e', h1, h2⟩ := orMask_bit h
      exact ⟨e', List.mem_cons_of_mem _ h1, h2⟩
theorem fwd_lt {j : Nat} : ∀ {es : List Edge}, fwdB j es = true → ∀ e, e ∈ es → Region.binds .any e = true → e.on < j
  | [], _, e, he, _ => by cases he
  | e0 :: es, h, e, he, hb => by
    unfold fwdB at h
    split at h
    · split at h
      · rename_i h1 h2
        rcases List.mem_cons.1 he with rfl | he
        · exact Nat.le_of_ble_eq_true h2
        · exact fwd_lt h e he hb
      · cases h
    · rename_i h1
      rcases List.mem_cons.1 he with rfl | he
      · rw [hb] at h1; cases h1
      · exact fwd_lt h e he hb
theorem chkMasks_at {ms : List Nat} : ∀ {l : List Oper} {k : Nat}, chkMasks ms k l = true → ∀ i o, l[i]? = some o → fwdB (k + i) o.after.toList = true ∧ ms.getD (k + i) 0 = orMask ms o.after.toList
  | [], _, _, i, o, h => by simp at h
  | o0 :: l, k, hc, i, o, h => by
    unfold chkMasks at hc
    split at hc
    · split at hc
      · rename_i _ h1 _ h2
        cases i with
        | zero =>
          obtain rfl : o0 = o := by simpa using h
          exact ⟨h1, Nat.eq_of_beq_eq_true h2⟩
        | succ i =>
          have := chkMasks_at hc i o (by simpa using h)
          rw [show k + (i + 1) = k + 1 + i from by omega]
          exact this
      · cases hc
    · cases hc
theorem reach_of {ops : Array Oper} {ms : List Nat} (hc : chkMasks ms 0 ops.toList = true) (i : Nat) : ∀ (fuel j : Nat), j < fuel → j < ops.size → (ms.getD j 0).testBit i = true → reachB ops fuel j i = true
  | 0, j, h, _, _ => absurd h (Nat.not_lt_zero _)
  | fuel + 1, j, hj, hs, hb => by
    have ho : ops[j]? = some ops[j] := Array.getElem?_eq_getElem hs
    have hl : ops.toList[j]? = some ops[j] := by rw [Array.getElem?_toList]; exact ho
    obtain ⟨h1, h2⟩ := chkMasks_at hc j _ hl
    rw [Nat.zero_add] at h1 h2
    rw [h2] at hb
    obtain ⟨e, he, heb, hor⟩ := orMask_bit hb
    have hlt := fwd_lt h1 e he heb
    unfold reachB
    rw [ho]
    simp only [List.any_eq_true]
    refine ⟨e, he, ?_⟩
    rw [heb, Bool.true_and, Bool.or_eq_true]
    rcases hor with rfl | hor
    · exact .inl (by simp)
    · exact .inr (reach_of hc i fuel e.on (by omega) (by omega) hor)
theorem freeRow_at {ops : Array Oper} {m : Nat} {ms : List Nat} {k : Nat} {o : Oper} : ∀ {l : List Oper} {b : Nat}, freeRow ops m ms k o b l = true → ∀ i oj, l[i]? = some oj → (ms.getD (b + i) 0).testBit k = true ∨ (b + i < m ∧ o.apart ops oj = true)
  | [], _, _, i, o, h => by simp at h
  | o0 :: l, b, hc, i, oj, h => by
    have key : ((ms.getD b 0).testBit k = true ∨ (b < m ∧ o.apart ops o0 = true)) ∧ freeRow ops m ms k o (b + 1) l = true := by
      unfold freeRow at hc
      split at hc
      · rename_i h1
        exact ⟨.inl h1, hc⟩
      · split at hc
        · split at hc
          · rename_i _ h1 _ h2 _ h3
            exact ⟨.inr ⟨Nat.le_of_ble_eq_true h2, h3⟩, hc⟩
          · cases hc
        · cases hc
    cases i with
    | zero =>
      obtain rfl : o0 = oj := by simpa using h
      exact key.1
    | succ i =>
      have := freeRow_at key.2 i oj (by simpa using h)
      rw [show b + (i + 1) = b + 1 + i from by omega]
      exact this
theorem chkFree_at {ops : Array Oper} {m : Nat} {ms : List Nat} : ∀ {l : List Oper} {b : Nat}, chkFree ops m ms b l = true → ∀ i j o oj, b + i < m → i < j → l[i]? = some o → l[j]? = some oj → (ms.getD (b + j) 0).testBit (b + i) = true ∨ (b + j < m ∧ o.apart ops oj = true)
  | [], _, _, i, j, o, oj, _, _, h, _ => by simp at h
  | o0 :: l, b, hc, i, j, o, oj, hm, hij, h, hj => by
    unfold chkFree at hc
    split at hc
    · split at hc
      · rename_i h1 h2
        cases j with
        | zero => omega
        | succ j =>
          cases i with
          | zero =>
            obtain rfl : o0 = o := by simpa using h
            have := freeRow_at h2 j oj (by simpa using hj)
            rw [show b + (j + 1) = b + 1 + j from by omega]
            exact this
          | succ i =>
            have := chkFree_at hc i j o oj (by omega) (by omega) (by simpa using h) (by simpa using hj)
            rw [show b + (j + 1) = b + 1 + j from by omega, show b + (i + 1) = b + 1 + i from by omega]
            exact this
      · cases hc
    · rename_i h1
      exact absurd (Nat.ble_eq_true_of_le (show b + 1 ≤ m by omega)) (by rw [h1]; decide)
theorem onPrev_at {j : Nat} : ∀ {es : List Edge}, onPrev j es = true → ∃ e, e ∈ es ∧ Region.binds .any e = true ∧ e.on + 1 = j
  | [], h => by cases h
  | e :: es, h => by
    unfold onPrev at h
    split at h
    · split at h
      · rename_i _ h1 _ h2
        exact ⟨e, List.mem_cons_self, h1, Nat.eq_of_beq_eq_true h2⟩
      · obtain ⟨e', h1, h2⟩ := onPrev_at h
        exact ⟨e', List.mem_cons_of_mem _ h1, h2⟩
    · obtain ⟨e', h1, h2⟩ := onPrev_at h
      exact ⟨e', List.mem_cons_of_mem _ h1, h2⟩
theorem chkTail_at {m : Nat} : ∀ {l : List Oper} {b : Nat}, chkTail m b l = true → ∀ i o, l[i]? = some o → m < b + i → onPrev (b + i) o.after.toList = true
  | [], _, _, i, o, h, _ => by simp at h
  | o0 :: l, b, hc, i, o, h, hm => by
    have key : (m < b → onPrev b o0.after.toList = true) ∧ chkTail m (b + 1) l = true := by
      unfold chkTail at hc
      split at hc
      · split at hc
        · rename_i h1 h2
          exact ⟨fun _ => h2, hc⟩
        · cases hc
      · rename_i h1
        exact ⟨fun hlt => absurd (Nat.ble_eq_true_of_le (show m + 1 ≤ b by omega)) (by rw [h1]; decide), hc⟩
    cases i with
    | zero =>
      obtain rfl : o0 = o := by simpa using h
      exact key.1 (by omega)
    | succ i =>
      have := chkTail_at key.2 i o (by simpa using h) (by omega)
      rw [show b + (i + 1) = b + 1 + i from by omega]
      exact this
theorem filter_one {p : Nat → Bool} : ∀ {n k : Nat}, k < n → (∀ i, i < n → p i = decide (i = k)) → (List.range n).filter p = [k]
  | 0, _, h, _ => absurd h (Nat.not_lt_zero _)
  | n + 1, k, h, hp => by
    rw [List.range_succ, List.filter_append]
    by_cases hk : k = n
    · subst hk
      rw [List.filter_eq_nil_iff.2 fun i hi => by
        have hi := List.mem_range.1 hi
        rw [hp i (by omega)]
        simp; omega]
      simp [hp k (by omega)]
    · rw [filter_one (n := n) (by omega) fun i hi => hp i (by omega)]
      have : p n = false := by rw [hp n (by omega)]; simp; omega
      simp [this]
structure UpTo (ops : Array Oper) (k : Nat) (listed : Array Bool) : Prop where
  size : listed.size = ops.size
  at_ : ∀ i, i < ops.size → listed[i]? = some (decide (i < k))
theorem UpTo.getD {ops : Array Oper} {k : Nat} {listed : Array Bool} (h : UpTo ops k listed) {i : Nat} {d : Bool} (hi : i < ops.size) : listed.getD i d = decide (i < k) := by
  rw [Array.getD_eq_getD_getElem?, h.at_ i hi]
  rfl
theorem UpTo.next {ops : Array Oper} {k : Nat} {listed : Array Bool} (h : UpTo ops k listed) : UpTo ops (k + 1) (listed.setIfInBounds k true) := by
  refine ⟨by simp [h.size], fun i hi => ?_⟩
  rw [Array.getElem?_setIfInBounds]
  by_cases hk : k = i
  · subst hk
    rw [if_pos rfl, if_pos (by rw [h.size]; exact hi)]
    simp
  · rw [if_neg hk, h.at_ i hi]
    congr 1
    apply decide_eq_decide.2
    omega
theorem drawFrom_of {ops : Array Oper} {m : Nat} {ms : List Nat} (hc : chkMasks ms 0 ops.toList = true) (hf : chkFree ops m ms 0 ops.toList = true) (ht : chkTail m 0 ops.toList = true) :
    ∀ (fuel k : Nat) (listed : Array Bool), k + fuel = ops.size → UpTo ops k listed → drawFrom ops m fuel k listed = true := by
  have hop : ∀ j, j < ops.size → ∃ o, ops[j]? = some o ∧ ops.toList[j]? = some o := fun j hj => ⟨ops[j], Array.getElem?_eq_getElem hj, by rw [Array.getElem?_toList]; exact Array.getElem?_eq_getElem hj⟩
  have hrd : ∀ (k : Nat) (listed : Array Bool), UpTo ops k listed → ∀ i, i < ops.size → i ≤ k → ((!listed.getD i true) && ((ops[i]?).map (·.after.all fun e => !Region.binds .any e || listed.getD e.on false)).getD false) = decide (i = k) := by
    intro k listed hu i hi hik
    obtain ⟨o, ho, hl⟩ := hop i hi
    rw [hu.getD hi]
    by_cases h : i = k
    · subst h
      have hall : (o.after.all fun e => !Region.binds .any e || listed.getD e.on false) = true := by
        rw [Array.all_eq_true_iff_forall_mem]
        intro e he
        cases hb : Region.binds .any e with
        | false => rfl
        | true =>
          have hlt := fwd_lt (by have := (chkMasks_at hc i o hl).1; rwa [Nat.zero_add] at this) e (Array.mem_toList_iff.2 he) hb
          rw [hu.getD (by omega)]
          simp [hlt]
      rw [ho, decide_eq_true rfl, decide_eq_false (Nat.lt_irrefl _)]
      exact hall
    · have : i < k := by omega
      simp [this, h]
  intro fuel
  induction fuel with
  | zero =>
    intro k listed hk hu
    unfold drawFrom
    have : Region.ready .any ops listed = [] := by
      unfold Region.ready
      rw [List.filter_eq_nil_iff]
      intro i hi
      have hi := List.mem_range.1 hi
      rw [hrd k listed hu i hi (by omega)]
      simp; omega
    rw [this]; rfl
  | succ fuel ih =>
    intro k listed hk hu
    unfold drawFrom
    rw [ih (k + 1) _ (by omega) hu.next, Bool.and_true]
    have hks : k < ops.size := by omega
    split
    · rename_i hkm
      have hkm : k < m := of_decide_eq_true hkm
      rw [Bool.and_eq_true]
      constructor
      · unfold Region.ready
        rw [List.contains_iff_mem, List.mem_filter]
        exact ⟨List.mem_range.2 hks, by rw [hrd k listed hu k hks (Nat.le_refl _)]; simp⟩
      · obtain ⟨o, ho, hl⟩ := hop k hks
        unfold freeB
        rw [ho]
        simp only [List.all_eq_true]
        intro j hj
        have hj := List.mem_range.1 hj
        rw [hu.getD hj]
        by_cases h1 : j = k
        · simp [h1]
        by_cases h2 : j < k
        · simp [h2]
        obtain ⟨oj, hoj, hlj⟩ := hop j hj
        have := chkFree_at hf k j o oj (by omega) (by omega) hl hlj
        rw [Nat.zero_add, Nat.zero_add] at this
        rcases this with h | ⟨h, h'⟩
        · rw [reach_of hc k ops.size j hj hj h]
          simp
        · rw [hoj]
          simp [h, h']
    · rename_i hkm
      have hkm : m ≤ k := by
        have := of_decide_eq_false hkm
        omega
      have : Region.ready .any ops listed = [k] := by
        unfold Region.ready
        refine filter_one hks fun i hi => ?_
        by_cases hik : i ≤ k
        · exact hrd k listed hu i hi hik
        · obtain ⟨o, ho, hl⟩ := hop i hi
          have hon := chkTail_at ht i o hl (by omega)
          rw [Nat.zero_add] at hon
          obtain ⟨e, he, hb, hei⟩ := onPrev_at hon
          have hno : (o.after.all fun e => !Region.binds .any e || listed.getD e.on false) = false := by
            rw [Bool.eq_false_iff]
            intro hall
            rw [Array.all_eq_true_iff_forall_mem] at hall
            have := hall e (Array.mem_toList_iff.1 he)
            rw [hb, hu.getD (by omega)] at this
            simp at this
            omega
          have hne : i ≠ k := by omega
          rw [ho, decide_eq_false hne]
          show (_ && (o.after.all fun e => !Region.binds .any e || listed.getD e.on false)) = false
          rw [hno, Bool.and_false]
      rw [this]
      simp
theorem drawOK_of {ops : Array Oper} {m : Nat} (ms : List Nat) (hs : Region.noSelect ops = true) (h : drawFast ops m ms = true) : drawOK ops m = true := by
  unfold drawFast at h
  split at h
  · split at h
    · split at h
      · rename_i _ h1 _ h2 _ h3
        unfold drawOK
        rw [decide_eq_true (show m ≤ ops.size from Nat.le_of_ble_eq_true h1), hs, Bool.true_and, Bool.true_and]
        exact drawFrom_of h2 h h3 ops.size 0 _ (by omega) ⟨by simp, fun i hi => by simp [hi]⟩
      · cases h
    · cases h
  · cases h
end Qv

end

section
/- The table of glob.Overlap in plain terms. No condition. -/
set_option linter.unusedVariables false
set_option linter.unusedSimpArgs false
open Go Go.Proofs Go.RowKit
namespace Qv
noncomputable def ovV (x y : List Comp) (k t : Nat) : Bool := ovE comB (x.drop k) (y.drop t)
noncomputable def rowB (x y : List Comp) (k : Nat) : List AV := (List.range (y.length + 1)).map fun t => .bool (ovV x y k t)
noncomputable def rowA (x y : List Comp) (k : Nat) : List (List AV) := (rowB x y k).map fun a => [a]
noncomputable def rowF (x y : List Comp) (k t : Nat) : List FV := mapP ((rowB x y k).drop t)
noncomputable def rowsF (x y : List Comp) (k : Nat) : List FV := ((List.range (x.length + 1)).drop k).map fun u => .p (.sl (rowA x y u))
noncomputable def headO (x y : List Comp) (n : Nat) : List FV := List.replicate n (.full []) ++ rowsF x y n
noncomputable def rowsO (x y : List Comp) (i : Nat) : List FV := List.replicate i (.full []) ++ (.osl 43 4 1 :: rowsF x y (i + 1))
noncomputable def cellsO (x y : List Comp) (i m : Nat) : List FV := List.replicate m (.p (.bool false)) ++ rowF x y i m
theorem range_drop {n t : Nat} (h : t < n) : (List.range n).drop t = t :: (List.range n).drop (t + 1) := by
  rw [List.drop_eq_getElem_cons (by rw [List.length_range]; exact h), List.getElem_range]
theorem rowsF_cons {x y : List Comp} {k : Nat} (h : k < x.length + 1) : rowsF x y k = .p (.sl (rowA x y k)) :: rowsF x y (k + 1) := by
  unfold rowsF
  rw [range_drop h]; rfl
theorem rowsF_end (x y : List Comp) : rowsF x y (x.length + 1) = [] := by
  unfold rowsF
  rw [List.drop_eq_nil_of_le (by simp)]; rfl
theorem rowF_cons {x y : List Comp} {k t : Nat} (h : t < y.length + 1) : rowF x y k t = .p (.bool (ovV x y k t)) :: rowF x y k (t + 1) := by
  unfold rowF rowB
  rw [← List.map_drop, range_drop h, List.map_cons, ← List.map_drop]; rfl
theorem rowF_end (x y : List Comp) (k : Nat) : rowF x y k (y.length + 1) = [] := by
  unfold rowF rowB
  rw [List.drop_eq_nil_of_le (by simp)]; rfl
theorem rowA_at {x y : List Comp} {k t : Nat} {b : Bool} (h : t < y.length + 1) (hb : ovV x y k t = b) : (rowA x y k)[((t : Nat) : Int).toNat]? = some [.bool b] := by
  subst hb
  simp [rowA, rowB, h]
theorem rowA_flat (x y : List Comp) (k : Nat) : (rowA x y k).flatten = rowB x y k := by
  unfold rowA
  induction rowB x y k with
  | nil => rfl
  | cons a r ih => show _ ++ (r.map fun a => [a]).flatten = _; rw [ih]; rfl
theorem rowA_all (x y : List Comp) (k : Nat) : ∀ ys, ys ∈ rowA x y k → ys.length = 1 ∧ ∀ a, a ∈ ys → a.one = true := fun ys hy => by
  unfold rowA rowB at hy
  obtain ⟨a, ha, rfl⟩ := List.mem_map.1 hy
  obtain ⟨t, -, rfl⟩ := List.mem_map.1 ha
  exact ⟨rfl, fun y hy => by rw [List.mem_singleton.1 hy]; rfl⟩
theorem kill_app (d : Nat) (A B : List FV) : FV.killL d (A ++ B) = FV.killL d A ++ FV.killL d B := by
  rw [FV.killL_eq, FV.killL_eq, FV.killL_eq, List.map_append]
theorem kill_rep (d n : Nat) (a : FV) (h : a.kill d = a) : FV.killL d (List.replicate n a) = List.replicate n a := by
  rw [FV.killL_eq, List.map_replicate, h]
theorem kill_rows (d : Nat) (x y : List Comp) (k : Nat) : FV.killL d (rowsF x y k) = rowsF x y k := by
  rw [FV.killL_eq]
  unfold rowsF
  rw [List.map_map]; rfl
theorem kill_head (d : Nat) (x y : List Comp) (n : Nat) : FV.killL d (headO x y n) = headO x y n := by
  unfold headO
  rw [kill_app, kill_rep d n _ rfl, kill_rows]
theorem headO_len {x y : List Comp} {n : Nat} (h : n ≤ x.length + 1) : (headO x y n).length = x.length + 1 := by
  unfold headO rowsF
  simp; omega
theorem rowsO_len {x y : List Comp} {i : Nat} (h : i < x.length + 1) : (rowsO x y i).length = x.length + 1 := by
  unfold rowsO rowsF
  simp; omega
theorem mapP_len5 : ∀ l : List AV, (mapP l).length = l.length
  | [] => rfl
  | a :: l => by show (mapP l).length + 1 = l.length + 1; rw [mapP_len5 l]
theorem cellsO_len {x y : List Comp} {i m : Nat} (h : m ≤ y.length + 1) : (cellsO x y i m).length = y.length + 1 := by
  unfold cellsO rowF rowB
  rw [List.length_append, mapP_len5]
  simp; omega
theorem headO_split (x y : List Comp) (i : Nat) : headO x y (i + 1) = List.replicate i (.full []) ++ ([.full []] ++ rowsF x y (i + 1)) := by
  unfold headO
  rw [List.replicate_succ', List.append_assoc]
theorem rowsO_here (x y : List Comp) (i : Nat) : rowsO x y i = List.replicate i (.full []) ++ ([.osl 43 4 1] ++ rowsF x y (i + 1)) := rfl
theorem rowsO_next {x y : List Comp} {i : Nat} (h : i + 1 < x.length + 1) : rowsO x y i = (List.replicate i (.full []) ++ [.osl 43 4 1]) ++ ([.p (.sl (rowA x y (i + 1)))] ++ rowsF x y (i + 2)) := by
  unfold rowsO
  rw [rowsF_cons h, List.append_assoc]; rfl
theorem cellsO_here (x y : List Comp) (i j : Nat) : cellsO x y i (j + 1) = List.replicate j (.p (.bool false)) ++ ([.p (.bool false)] ++ rowF x y i (j + 1)) := by
  unfold cellsO
  rw [List.replicate_succ', List.append_assoc]
theorem cellsO_next {x y : List Comp} {i j : Nat} {b : Bool} (h : j + 1 < y.length + 1) (hb : ovV x y i (j + 1) = b) : cellsO x y i (j + 1) = List.replicate (j + 1) (.p (.bool false)) ++ ([.p (.bool b)] ++ rowF x y i (j + 2)) := by
  subst hb
  unfold cellsO
  rw [rowF_cons h]; rfl
theorem cellsO_put {x y : List Comp} {i j : Nat} {b : Bool} (h : j < y.length + 1) (hb : ovV x y i j = b) : List.replicate j (.p (.bool false)) ++ ([.p (.bool b)] ++ rowF x y i (j + 1)) = cellsO x y i j := by
  subst hb
  unfold cellsO
  rw [rowF_cons h]; rfl
theorem drop_get {α : Type} {l : List α} {k : Nat} {c : α} (h : l[k]? = some c) : l.drop k = c :: l.drop (k + 1) := by
  have hi := List.getElem?_eq_some_iff.1 h
  rw [List.drop_eq_getElem_cons hi.1, hi.2]
theorem ovV_nn {x y : List Comp} : ovV x y x.length y.length = true := by
  unfold ovV
  rw [List.drop_length, List.drop_length]
  exact ovE_nn _
theorem ovV_cn {x y : List Comp} {k : Nat} {c : Comp} (h : x[k]? = some c) : ovV x y k y.length = (c.deep && ovV x y (k + 1) y.length) := by
  unfold ovV
  rw [drop_get h, List.drop_length]
  exact ovE_cn _ _ _
theorem ovV_nc {x y : List Comp} {t : Nat} {d : Comp} (h : y[t]? = some d) : ovV x y x.length t = (d.deep && ovV x y x.length (t + 1)) := by
  unfold ovV
  rw [drop_get h, List.drop_length]
  exact ovE_nc _ _ _
theorem ovV_cc {x y : List Comp} {k t : Nat} {c d : Comp} (h : x[k]? = some c) (h2 : y[t]? = some d) :
    ovV x y k t = ((c.deep && (ovV x y (k + 1) t || ovV x y k (t + 1))) || (d.deep && (ovV x y k (t + 1) || ovV x y (k + 1) t)) || (!c.deep && !d.deep && ovV x y (k + 1) (t + 1) && comB c.ones d.ones)) := by
  unfold ovV
  rw [drop_get h, drop_get h2]
  exact ovE_cc _ _ _ _ _
theorem hasO_rows {objs : List (Nat × List FV)} {x y : List Comp} {i : Nat} {l0 : List FV} (hi : i < x.length + 1) (h : Qv.getObj objs 31 = some l0) (e : l0 = FV.frOL 43 1 (rowA x y i) (rowsO x y i)) :
    ∃ ys, Qv.getObj objs 31 = some ys ∧ ys.length = (headO x y i).length ∧ ∀ (t : Nat) (a b : FV), ys[t]? = some a → (headO x y i)[t]? = some b → Weak a b := by
  subst e
  have e1 : FV.frOL 43 1 (rowA x y i) (rowsO x y i) = List.replicate i (.full []) ++ (.tip 43 4 1 (rowA x y i) :: rowsF x y (i + 1)) := by
    rw [FV.frOL_eq]
    unfold rowsO rowsF
    rw [List.map_append, List.map_replicate, List.map_cons, List.map_map]; rfl
  have e2 : headO x y i = List.replicate i (.full []) ++ (.p (.sl (rowA x y i)) :: rowsF x y (i + 1)) := by
    unfold headO
    rw [rowsF_cons hi]
  rw [e1] at h
  rw [e2]
  refine ⟨_, h, by simp, fun t a b h1 h2 => ?_⟩
  by_cases ht : t = i
  · subst ht
    simp at h1 h2
    subst h1; subst h2
    exact Weak.tip_p _ _ _ _
  · have : a = b := by
      by_cases hlt : t < i
      · rw [List.getElem?_append_left (by simp; exact hlt)] at h1 h2
        exact Option.some.inj (h1.symm.trans h2)
      · rw [List.getElem?_append_right (by simp; omega)] at h1 h2
        obtain ⟨u, hu⟩ : ∃ u, t - (List.replicate i (FV.full [])).length = u + 1 := ⟨t - i - 1, by simp; omega⟩
        rw [hu] at h1 h2
        exact Option.some.inj (h1.symm.trans h2)
    subst this
    exact Weak.refl _
end Qv

end

section
/- Contract: glob.Overlap. Written by gen13.py. No condition. -/
set_option linter.unusedVariables false
set_option linter.unusedSimpArgs false
open Go Go.Proofs Go.RowKit
namespace Qv
theorem ovV_nn' {x y : List Comp} {k t : Nat} (hk : k = x.length) (ht : t = y.length) : ovV x y k t = true := by subst hk; subst ht; exact ovV_nn
theorem ovV_cn' {x y : List Comp} {k t : Nat} {c : Comp} (ht : t = y.length) (h : x[k]? = some c) : ovV x y k t = (c.deep && ovV x y (k + 1) t) := by subst ht; exact ovV_cn h
theorem ovV_nc' {x y : List Comp} {k t : Nat} {d : Comp} (hk : k = x.length) (h : y[t]? = some d) : ovV x y k t = (d.deep && ovV x y k (t + 1)) := by subst hk; exact ovV_nc h
theorem parseF_tiny (g : Bytes) : (parseF g).1.length ≤ 2 ^ 20 ∧ (∀ c, c ∈ (parseF g).1 → c.ones.length ≤ 2 ^ 20) ∧ ∀ c, c ∈ (parseF g).1 → ∀ a, a ∈ c.ones → a.fine := by
  unfold parseF
  split
  · exact ⟨by simp, by simp, by simp⟩
  · split
    · exact ⟨by simp, by simp, by simp⟩
    · rename_i hg l hl
      obtain ⟨h1, h2⟩ := compsGo_all hl
      have h3 := parts_length 47 g
      have h4 := parts_mem 47 g
      have each : ∀ c, c ∈ l → c.ones.length ≤ 2 ^ 20 ∧ ∀ a, a ∈ c.ones → a.fine := fun c hc => by
        rcases h2 c hc with h | ⟨p, hp, he⟩
        · cases h
        · obtain ⟨h5, h6⟩ := compF_fine he
          have := h4 p hp
          exact ⟨by omega, h6⟩
      refine ⟨?_, fun c hc => (each c hc).1, fun c hc => (each c hc).2⟩
      show l.length ≤ 2 ^ 20
      rw [h1, List.length_nil]
      omega
abbrev ovS (x y : List Comp) (more : List (Nat × FV)) : List (Nat × FV) := (5, .p (.sl (encComps x))) :: (7, .p (.sl (encComps y))) :: (9, .osl 31 86 1) :: more
set_option maxRecDepth 100000 in
set_option maxHeartbeats 100000000 in
theorem over_ok (g h : Bytes) (hg : g.length ≤ 2 ^ 30) (hh : h.length ≤ 2 ^ 30) : CallsTo C 24 [.str g, .str h] (fun r => r = .val (.bool (overF g h))) := by
  refine callsTo_of_evO ⟨[], [8], false, [], [], []⟩ [13] Tryz.func24 rfl rfl rfl ?_
  refine ⟨_, (parse_ok g hg).opn, fun r hr => ?_⟩
  subst hr
  refine ⟨_, (parse_ok h hh).opn, fun r hr => ?_⟩
  subst hr
  obtain ⟨hxl, hxo, hxf⟩ := parseF_tiny g
  obtain ⟨hyl, hyo, hyf⟩ := parseF_tiny h
  have hov : overF g h = (decide ((parseF g).2 = 0) && decide ((parseF h).2 = 0) && ovE comB (parseF g).1 (parseF h).1) := rfl
  rw [hov]
  generalize (parseF g).1 = x at hxl hxo hxf ⊢
  generalize (parseF h).1 = y at hyl hyo hyf ⊢
  generalize (parseF g).2 = e1
  generalize (parseF h).2 = e2
  have hlx : ((encComps x).length : Int) = (x.length : Int) := by simp [encComps]
  have hly : ((encComps y).length : Int) = (y.length : Int) := by simp [encComps]
  have hwx : IntKind.i64.wrap (((encComps x).length : Int) + 1) = ((x.length + 1 : Nat) : Int) := by rw [hlx, wrap64 (by omega) (by omega)]; omega
  have hwy : IntKind.i64.wrap (((encComps y).length : Int) + 1) = ((y.length + 1 : Nat) : Int) := by rw [hly, wrap64 (by omega) (by omega)]; omega
  refine ⟨none, ?_⟩
  refine al_ne (fun h1 => ?_) (fun h1 => ?_)
  · show _ = _
    have h1 : e1 ≠ 0 := h1
    rw [decide_eq_false h1]; rfl
  have h1 : e1 = 0 := h1
  refine al_ne (fun h2 => ?_) (fun h2 => ?_)
  · show _ = _
    have h2 : e2 ≠ 0 := h2
    rw [decide_eq_false h2, Bool.and_false]; rfl
  have h2 : e2 = 0 := h2
  rw [decide_eq_true h1, decide_eq_true h2, Bool.true_and, Bool.true_and]
  refine ⟨_, hwx, x.length + 1, rfl, rfl, by omega, by omega, headO x y (x.length + 1), ?_, ?_⟩
  · unfold headO
    rw [rowsF_end, List.append_nil]
    exact kill_rep _ _ _ rfl
  refine loopR 202 (fun n : Nat => ovS x y [(10, .p (.int .i64 ((n : Int) - 1)))]) (fun n => [(31, headO x y n)]) (fun n => n ≤ x.length + 1) (fun n => n) (x.length + 1) (Nat.le_refl _) rfl ⟨Weak.refl _, Weak.refl _, Weak.refl _, Weak.eq (by show FV.p (.int .i64 ((encComps x).length : Int)) = FV.p (.int .i64 (((x.length + 1 : Nat) : Int) - 1)); rw [hlx]; congr 2; omega), trivial⟩ ⟨hasO_one rfl, trivial⟩ ?_
  intro n hn
  have hn : n ≤ x.length + 1 := hn
  refine al_dec (fun hge => ?_) (fun hlt => ?_)
  case refine_2 =>
    have hn0 : n = 0 := by
      have : ¬ ((n : Int) - 1 ≥ 0) := hlt
      omega
    subst hn0
    refine ⟨0, 0, rfl, rfl, by rw [headO_len (by omega)]; omega, [], [.p (.sl (rowA x y 0))], rowsF x y 1, ?_, rfl, ?_⟩
    · show rowsF x y 0 = _
      rw [rowsF_cons (by omega)]; rfl
    refine ⟨by omega, [.bool (ovV x y 0 0)], rowA_at (t := 0) (by omega) rfl, rfl, ?_⟩
    exact rfl
  obtain ⟨i, rfl⟩ : ∃ i, n = i + 1 := ⟨n - 1, by
    have : (n : Int) - 1 ≥ 0 := hge
    omega⟩
  have hi1 : i < x.length + 1 := by omega
  have hii : ((i + 1 : Nat) : Int) - 1 = (i : Int) := by omega
  refine ⟨_, hwy, y.length + 1, rfl, rfl, by omega, by omega, List.replicate (y.length + 1) (.p (.bool false)), kill_rep _ _ _ rfl, ?_⟩
  refine ⟨i, i * 1, hii, rfl, by rw [kill_head, headO_len (by omega)]; omega, ?_⟩
  refine ⟨List.replicate i (.full []), [.full []], rowsF x y (i + 1), (kill_head _ _ _ _).trans (headO_split x y i), by simp, rowsO x y i, rfl, ?_⟩
  refine loopR 202 (fun m : Nat => ovS x y [(10, .p (.int .i64 (i : Int))), (11, .p (.int .i64 ((m : Int) - 1)))]) (fun m => [(31, rowsO x y i), (43, cellsO x y i m)]) (fun m => m ≤ y.length + 1) (fun m => m) (y.length + 1) (Nat.le_refl _) rfl ⟨Weak.refl _, Weak.refl _, Weak.refl _, Weak.eq (by show FV.p (.int .i64 (((i + 1 : Nat) : Int) - 1)) = FV.p (.int .i64 (i : Int)); rw [hii]), Weak.eq (by show FV.p (.int .i64 ((encComps y).length : Int)) = FV.p (.int .i64 (((y.length + 1 : Nat) : Int) - 1)); rw [hly]; congr 2; omega), trivial⟩ ⟨hasO_one rfl, hasO_eq rfl (by show List.replicate (y.length + 1) (FV.p (.bool false)) = List.replicate (y.length + 1) (FV.p (.bool false)) ++ rowF x y i (y.length + 1); rw [rowF_end, List.append_nil]), trivial⟩ ?_
  intro m hm
  have hm : m ≤ y.length + 1 := hm
  refine al_dec (fun hge2 => ?_) (fun hlt2 => ?_)
  case refine_2 =>
    have hm0 : m = 0 := by
      have : ¬ ((m : Int) - 1 ≥ 0) := hlt2
      omega
    subst hm0
    refine ⟨43, 1, rowA x y i, ⟨⟨_, rfl, by rw [rowA_flat]; exact toAVs_mapP _⟩, rowA_all x y i⟩, ?_⟩
    refine ⟨(i : Int) - 1, wrap64 (by omega) (by omega), ?_⟩
    exact roundR i (by show i ≤ x.length + 1; omega) (by show i < i + 1; omega) rfl ⟨Weak.refl _, Weak.refl _, Weak.refl _, Weak.refl _, trivial⟩ ⟨hasO_rows hi1 rfl rfl, trivial⟩
  obtain ⟨j, rfl⟩ : ∃ j, m = j + 1 := ⟨m - 1, by
    have : (m : Int) - 1 ≥ 0 := hge2
    omega⟩
  have hjj : ((j + 1 : Nat) : Int) - 1 = (j : Int) := by omega
  have hwm : IntKind.i64.wrap ((j : Int) - 1) = (j : Int) - 1 := wrap64 (by omega) (by omega)
  have hwi : IntKind.i64.wrap ((i : Int) + 1) = ((i + 1 : Nat) : Int) := by rw [wrap64 (by omega) (by omega)]; omega
  have hwj : IntKind.i64.wrap ((j : Int) + 1) = ((j + 1 : Nat) : Int) := by rw [wrap64 (by omega) (by omega)]; omega
  refine cutR 202 (ovS x y [(10, .p (.int .i64 (i : Int))), (11, .p (.int .i64 (j : Int)))]) [(31, rowsO x y i), (43, cellsO x y i (j + 1))] rfl ⟨Weak.refl _, Weak.refl _, Weak.refl _, Weak.refl _, Weak.eq (by show FV.p (.int .i64 (((j + 1 : Nat) : Int) - 1)) = FV.p (.int .i64 (j : Int)); rw [hjj]), trivial⟩ ⟨hasO_one rfl, hasO_one rfl, trivial⟩ ?_
  refine ⟨.lex 146, drawOK_of [0, 0, 3, 7, 0, 0, 0, 64, 224, 480, 992, 992, 3040, 8160, 16352, 32736, 65504, 65504, 196576, 524256, 1048544, 2097120, 2097120, 8388576, 16777184, 33554400, 67108832, 134217696, 268435424, 268435424, 805306336, 2147483616, 4294967264, 268435424, 17179869152, 34359738336, 68719476704, 137438953440, 137438953440, 412316860384, 1099511627744, 2199023255520, 4398046511072, 4398046511072, 17592186044384, 35184372088800, 4398046511072, 74766790688736, 281474976710624, 562949953421280, 1125899906842592, 2251799813685216, 4503599627370464, 9007199254740960, 18014398509481952, 36028797018963936, 36028797018963936, 108086391056891872, 288230376151711712, 576460752303423456, 1152921504606846944, 1152921504606846944, 4611686018427387872, 9223372036854775776, 18446744073709551584, 36893488147419103200, 73786976294838206432, 147573952589676412896, 147573952589676412896, 590295810358705651680, 1180591620717411303392, 147573952589676412896, 2508757194024499019744, 9444732965739290427360, 18889465931478580854752, 37778931862957161709536, 75557863725914323419104, 75557863725914323419104, 226673591177742970257376, 604462909807314587353056, 1208925819614629174706144, 2417851639229258349412320, 2417851639229258349412320, 7253554917687775048237024, 19342813113834066795298784, 38685626227668133590597600, 2417851639229258349412320, 154742504910672534362390496, 309485009821345068724781024, 618970019642690137449562080, 1237940039285380274899124192, 2475880078570760549798248416, 4951760157141521099596496864, 9903520314283042199192993760, 19807040628566084398385987552, 19807040628566084398385987552, 59421121885698253195157962720, 158456325028528675187087900640, 316912650057057350374175801312, 633825300114114700748351602656, 633825300114114700748351602656, 1901475900342344102245054808032, 5070602400912917605986812821472, 10141204801825835211973625642976, 20282409603651670423947251285984, 40564819207303340847894502572000, 40564819207303340847894502572000, 162259276829213363391578010288096, 324518553658426726783156020576224, 649037107316853453566312041152480, 1298074214633706907132624082304992, 2596148429267413814265248164610016, 5192296858534827628530496329220064, 10384593717069655257060992658440160, 10384593717069655257060992658440160, 41538374868278621028243970633760736, 83076749736557242056487941267521504, 166153499473114484112975882535043040, 332306998946228968225951765070086112, 664613997892457936451903530140172256, 1329227995784915872903807060280344544, 2658455991569831745807614120560689120, 2658455991569831745807614120560689120, 7975367974709495237422842361682067424, 21267647932558653966460912964485513184, 42535295865117307932921825928971026400, 2658455991569831745807614120560689120, 87729047721804447611651265978502741984, 340282366920938463463374607431768211424, 680564733841876926926749214863536422880, 1361129467683753853853498429727072845792, 2722258935367507707706996859454145691616, 5444517870735015415413993718908291383264, 5444517870735015415413993718908291383264, 21778071482940061661655974875633165533152, 43556142965880123323311949751266331066336, 87112285931760246646623899502532662132704, 5444517870735015415413993718908291383264, 5444517870735015415413993718908291383264, 528118233461296495295157390734104264179680, 1225016520915378468468148586754365561241568, 2618813095823542414814130978794888155365344, 5575186299632655785383929568162090376495072, 11150372599265311570767859136324180752990176, 22300745198530623141535718272648361505980384, 44601490397061246283071436545296723011960831, 89202980794122492566142873090593446023921663] (by kernel_rfl) (by kernel_rfl), ?_⟩
  by_cases hic : i < x.length
  case pos =>
    have hiE : ((i : Int) == ((encComps x).length : Int)) = false := by rw [beq_eq_false_iff_ne]; omega
    have hiL : decide ((i : Int) < ((encComps x).length : Int)) = true := decide_eq_true (by omega)
    obtain ⟨⟨dx, ox⟩, hx0⟩ : ∃ c, x[i]? = some c := ⟨_, List.getElem?_eq_getElem hic⟩
    have hxm := List.mem_of_getElem? hx0
    have hxi : (encComps x)[((i : Nat) : Int).toNat]? = some [.bool dx, .sl (encOnes ox)] := by simp [encComps, hx0, Comp.enc]
    by_cases hjc : j < y.length
    case pos =>
      have hjE : ((j : Int) == ((encComps y).length : Int)) = false := by rw [beq_eq_false_iff_ne]; omega
      have hjL : decide ((j : Int) < ((encComps y).length : Int)) = true := decide_eq_true (by omega)
      obtain ⟨⟨dy, oy⟩, hy0⟩ : ∃ c, y[j]? = some c := ⟨_, List.getElem?_eq_getElem hjc⟩
      have hym := List.mem_of_getElem? hy0
      have hyj : (encComps y)[((j : Nat) : Int).toNat]? = some [.bool dy, .sl (encOnes oy)] := by simp [encComps, hy0, Comp.enc]
      have hcom : CallsTo C 50 [.sl (encOnes ox), .sl (encOnes oy)] (fun r => r = .val (.bool (comB ox oy))) := (common_ok ox oy (hxo _ hxm) (hyo _ hym) (hxf _ hxm) (hyf _ hym)).mono fun r hr => by obtain ⟨t, rfl, ht⟩ := hr; rw [comB_of ht]
      cases dx with
      | false =>
        cases dy with
        | false =>
          refine ⟨_, rfl, ?_⟩
          refine ⟨_, rfl, ?_⟩
          refine ⟨_, ⟨i, i * 1, rfl, rfl, by rw [rowsO_len hi1]; omega, rfl⟩, ?_⟩
          refine ⟨.osl 43 4 1, ⟨_, _, _, rowsO_here x y i, by simp, rfl⟩, ?_⟩
          refine ⟨_, rfl, ?_⟩
          refine ⟨_, rfl, ?_⟩
          refine ⟨_, rfl, ?_⟩
          refine ⟨_, rfl, ?_⟩
          refine ⟨.p (.bool false), ⟨fun t ht => by rw [ht]; exact congrArg (fun b => FV.p (AV.bool b)) hiE⟩, ?_⟩
          refine ⟨_, rfl, ?_⟩
          refine ⟨_, rfl, ?_⟩
          refine ⟨_, rfl, ?_⟩
          refine ⟨_, rfl, ?_⟩
          refine ⟨_, rfl, ?_⟩
          refine ⟨_, rfl, ?_⟩
          refine ⟨.p (.bool true), ⟨fun t ht => by rw [ht]; exact congrArg (fun b => FV.p (AV.bool b)) hiL⟩, ?_⟩
          refine ⟨_, rfl, ?_⟩
          refine ⟨_, rfl, ?_⟩
          refine ⟨_, rfl, ?_⟩
          refine ⟨.p (.imp [.bool false, .sl (encOnes ox)]), ⟨by omega, _, hxi, rfl, rfl⟩, ?_⟩
          refine ⟨_, rfl, ?_⟩
          refine ⟨_, rfl, ?_⟩
          refine ⟨_, rfl, ?_⟩
          refine ⟨_, rfl, ?_⟩
          refine ⟨_, rfl, ?_⟩
          refine ⟨_, rfl, ?_⟩
          refine ⟨_, rfl, ?_⟩
          refine ⟨_, rfl, ?_⟩
          refine ⟨_, rfl, ?_⟩
          refine ⟨_, rfl, ?_⟩
          refine ⟨.p (.bool true), ⟨fun t ht => by rw [ht]; exact congrArg (fun b => FV.p (AV.bool b)) hjL⟩, ?_⟩
          refine ⟨_, rfl, ?_⟩
          refine ⟨_, rfl, ?_⟩
          refine ⟨_, rfl, ?_⟩
          refine ⟨.p (.imp [.bool false, .sl (encOnes oy)]), ⟨by omega, _, hyj, rfl, rfl⟩, ?_⟩
          refine ⟨_, rfl, ?_⟩
          refine ⟨_, rfl, ?_⟩
          refine ⟨_, rfl, ?_⟩
          refine ⟨_, rfl, ?_⟩
          refine ⟨_, rfl, ?_⟩
          refine ⟨_, rfl, ?_⟩
          refine ⟨_, rfl, ?_⟩
          refine ⟨_, rfl, ?_⟩
          refine ⟨_, rfl, ?_⟩
          refine ⟨_, rfl, ?_⟩
          refine ⟨.p (.bool true), ⟨fun t ht => by rw [ht]; exact congrArg (fun b => FV.p (AV.bool b)) hiL⟩, ?_⟩
          refine ⟨_, rfl, ?_⟩
          refine ⟨_, rfl, ?_⟩
          refine ⟨_, rfl, ?_⟩
          refine ⟨_, rfl, ?_⟩
          refine ⟨.p (.bool true), ⟨fun t ht => by rw [ht]; exact congrArg (fun b => FV.p (AV.bool b)) hjL⟩, ?_⟩
          refine ⟨_, rfl, ?_⟩
          refine ⟨_, rfl, ?_⟩
          refine ⟨_, rfl, ?_⟩
          refine ⟨_, rfl, ?_⟩
          refine ⟨.p (.imp [.bool false, .sl (encOnes ox)]), ⟨by omega, _, hxi, rfl, rfl⟩, ?_⟩
          refine ⟨_, rfl, ?_⟩
          refine ⟨_, rfl, ?_⟩
          refine ⟨.p (.bool true), ⟨fun t ht => by rw [ht]; rfl⟩, ?_⟩
          refine ⟨_, rfl, ?_⟩
          refine ⟨_, rfl, ?_⟩
          refine ⟨_, rfl, ?_⟩
          refine ⟨_, rfl, ?_⟩
          refine ⟨.p (.imp [.bool false, .sl (encOnes oy)]), ⟨by omega, _, hyj, rfl, rfl⟩, ?_⟩
          refine ⟨_, rfl, ?_⟩
          refine ⟨_, rfl, ?_⟩
          refine ⟨.p (.bool true), ⟨fun t ht => by rw [ht]; rfl⟩, ?_⟩
          refine ⟨_, rfl, ?_⟩
          refine ⟨_, rfl, ?_⟩
          refine ⟨_, rfl, ?_⟩
          refine ⟨_, rfl, ?_⟩
          refine ⟨_, ⟨_, hwi, rfl⟩, ?_⟩
          refine ⟨_, ⟨(i + 1), (i + 1) * 1, rfl, rfl, by rw [rowsO_len hi1]; omega, rfl⟩, ?_⟩
          refine ⟨.p (.sl (rowA x y (i + 1))), ⟨_, _, _, rowsO_next (by omega), by simp, rfl⟩, ?_⟩
          refine ⟨_, rfl, ?_⟩
          refine ⟨_, ⟨_, hwj, rfl⟩, ?_⟩
          cases hv11 : ovV x y (i + 1) (j + 1) with
          | false =>
            refine ⟨.p (.imp [.bool false]), ⟨by omega, _, rowA_at (by omega) hv11, rfl, rfl⟩, ?_⟩
            refine ⟨_, rfl, ?_⟩
            refine ⟨_, rfl, ?_⟩
            refine ⟨_, rfl, ?_⟩
            refine ⟨_, rfl, ?_⟩
            refine ⟨_, rfl, ?_⟩
            refine ⟨_, ⟨j, j * 1, rfl, rfl, by rw [cellsO_len (by omega)]; omega, rfl⟩, ?_⟩
            have hb : ovV x y i j = false := by
              rw [ovV_cc hx0 hy0, hv11]; simp
            refine ⟨_, _, _, cellsO_here x y i j, by simp, _, cellsO_put (by omega) hb, ?_⟩
            exact ⟨_, hwm, roundR j (by show j ≤ y.length + 1; omega) (by show j < j + 1; omega) rfl ⟨Weak.refl _, Weak.refl _, Weak.refl _, Weak.refl _, Weak.refl _, trivial⟩ ⟨hasO_one rfl, hasO_one rfl, trivial⟩⟩
          | true =>
            refine ⟨.p (.imp [.bool true]), ⟨by omega, _, rowA_at (by omega) hv11, rfl, rfl⟩, ?_⟩
            refine ⟨_, rfl, ?_⟩
            refine ⟨_, rfl, ?_⟩
            refine ⟨_, rfl, ?_⟩
            refine ⟨_, rfl, ?_⟩
            refine ⟨_, rfl, ?_⟩
            refine ⟨.p (.imp [.bool false, .sl (encOnes ox)]), ⟨by omega, _, hxi, rfl, rfl⟩, ?_⟩
            refine ⟨_, rfl, ?_⟩
            refine ⟨_, rfl, ?_⟩
            refine ⟨_, rfl, ?_⟩
            refine ⟨_, rfl, ?_⟩
            refine ⟨.p (.imp [.bool false, .sl (encOnes oy)]), ⟨by omega, _, hyj, rfl, rfl⟩, ?_⟩
            refine ⟨_, rfl, ?_⟩
            refine ⟨_, rfl, ?_⟩
            refine ⟨.p (.bool (comB ox oy)), ⟨_, hcom.opn, fun r hr => by subst hr; rfl⟩, ?_⟩
            refine ⟨_, rfl, ?_⟩
            refine ⟨_, rfl, ?_⟩
            refine ⟨_, ⟨j, j * 1, rfl, rfl, by rw [cellsO_len (by omega)]; omega, rfl⟩, ?_⟩
            have hb : ovV x y i j = comB ox oy := by
              rw [ovV_cc hx0 hy0, hv11]; simp
            refine ⟨_, _, _, cellsO_here x y i j, by simp, _, cellsO_put (by omega) hb, ?_⟩
            exact ⟨_, hwm, roundR j (by show j ≤ y.length + 1; omega) (by show j < j + 1; omega) rfl ⟨Weak.refl _, Weak.refl _, Weak.refl _, Weak.refl _, Weak.refl _, trivial⟩ ⟨hasO_one rfl, hasO_one rfl, trivial⟩⟩
        | true =>
          refine ⟨_, rfl, ?_⟩
          refine ⟨_, rfl, ?_⟩
          refine ⟨_, ⟨i, i * 1, rfl, rfl, by rw [rowsO_len hi1]; omega, rfl⟩, ?_⟩
          refine ⟨.osl 43 4 1, ⟨_, _, _, rowsO_here x y i, by simp, rfl⟩, ?_⟩
          refine ⟨_, rfl, ?_⟩
          refine ⟨_, rfl, ?_⟩
          refine ⟨_, rfl, ?_⟩
          refine ⟨_, rfl, ?_⟩
          refine ⟨.p (.bool false), ⟨fun t ht => by rw [ht]; exact congrArg (fun b => FV.p (AV.bool b)) hiE⟩, ?_⟩
          refine ⟨_, rfl, ?_⟩
          refine ⟨_, rfl, ?_⟩
          refine ⟨_, rfl, ?_⟩
          refine ⟨_, rfl, ?_⟩
          refine ⟨_, rfl, ?_⟩
          refine ⟨_, rfl, ?_⟩
          refine ⟨.p (.bool true), ⟨fun t ht => by rw [ht]; exact congrArg (fun b => FV.p (AV.bool b)) hiL⟩, ?_⟩
          refine ⟨_, rfl, ?_⟩
          refine ⟨_, rfl, ?_⟩
          refine ⟨_, rfl, ?_⟩
          refine ⟨.p (.imp [.bool false, .sl (encOnes ox)]), ⟨by omega, _, hxi, rfl, rfl⟩, ?_⟩
          refine ⟨_, rfl, ?_⟩
          refine ⟨_, rfl, ?_⟩
          refine ⟨_, rfl, ?_⟩
          refine ⟨_, rfl, ?_⟩
          refine ⟨_, rfl, ?_⟩
          refine ⟨_, rfl, ?_⟩
          refine ⟨_, rfl, ?_⟩
          refine ⟨_, rfl, ?_⟩
          refine ⟨_, rfl, ?_⟩
          refine ⟨_, rfl, ?_⟩
          refine ⟨.p (.bool true), ⟨fun t ht => by rw [ht]; exact congrArg (fun b => FV.p (AV.bool b)) hjL⟩, ?_⟩
          refine ⟨_, rfl, ?_⟩
          refine ⟨_, rfl, ?_⟩
          refine ⟨_, rfl, ?_⟩
          refine ⟨.p (.imp [.bool true, .sl (encOnes oy)]), ⟨by omega, _, hyj, rfl, rfl⟩, ?_⟩
          refine ⟨_, rfl, ?_⟩
          refine ⟨_, rfl, ?_⟩
          refine ⟨_, rfl, ?_⟩
          refine ⟨_, rfl, ?_⟩
          refine ⟨_, rfl, ?_⟩
          refine ⟨_, rfl, ?_⟩
          refine ⟨_, ⟨i, i * 1, rfl, rfl, by rw [rowsO_len hi1]; omega, rfl⟩, ?_⟩
          refine ⟨.osl 43 4 1, ⟨_, _, _, rowsO_here x y i, by simp, rfl⟩, ?_⟩
          refine ⟨_, rfl, ?_⟩
          refine ⟨_, ⟨_, hwj, rfl⟩, ?_⟩
          refine ⟨_, ⟨(j + 1), (j + 1) * 1, rfl, rfl, by rw [cellsO_len (by omega)]; omega, rfl⟩, ?_⟩
          cases hv01 : ovV x y i (j + 1) with
          | false =>
            refine ⟨.p (.bool false), ⟨_, _, _, cellsO_next (by omega) hv01, by simp, rfl⟩, ?_⟩
            refine ⟨_, rfl, ?_⟩
            refine ⟨_, rfl, ?_⟩
            refine ⟨_, rfl, ?_⟩
            refine ⟨_, rfl, ?_⟩
            refine ⟨.p (.bool true), ⟨fun t ht => by rw [ht]; exact congrArg (fun b => FV.p (AV.bool b)) hiL⟩, ?_⟩
            refine ⟨_, rfl, ?_⟩
            refine ⟨_, rfl, ?_⟩
            refine ⟨_, rfl, ?_⟩
            refine ⟨_, ⟨_, hwi, rfl⟩, ?_⟩
            refine ⟨_, ⟨(i + 1), (i + 1) * 1, rfl, rfl, by rw [rowsO_len hi1]; omega, rfl⟩, ?_⟩
            refine ⟨.p (.sl (rowA x y (i + 1))), ⟨_, _, _, rowsO_next (by omega), by simp, rfl⟩, ?_⟩
            refine ⟨_, rfl, ?_⟩
            cases hv10 : ovV x y (i + 1) j with
            | false =>
              refine ⟨.p (.imp [.bool false]), ⟨by omega, _, rowA_at (by omega) hv10, rfl, rfl⟩, ?_⟩
              refine ⟨_, rfl, ?_⟩
              refine ⟨_, rfl, ?_⟩
              refine ⟨_, rfl, ?_⟩
              refine ⟨_, rfl, ?_⟩
              refine ⟨_, rfl, ?_⟩
              refine ⟨_, rfl, ?_⟩
              refine ⟨_, rfl, ?_⟩
              refine ⟨_, rfl, ?_⟩
              refine ⟨_, rfl, ?_⟩
              refine ⟨.p (.bool true), ⟨fun t ht => by rw [ht]; exact congrArg (fun b => FV.p (AV.bool b)) hiL⟩, ?_⟩
              refine ⟨_, rfl, ?_⟩
              refine ⟨_, rfl, ?_⟩
              refine ⟨_, rfl, ?_⟩
              refine ⟨_, rfl, ?_⟩
              refine ⟨.p (.bool true), ⟨fun t ht => by rw [ht]; exact congrArg (fun b => FV.p (AV.bool b)) hjL⟩, ?_⟩
              refine ⟨_, rfl, ?_⟩
              refine ⟨_, rfl, ?_⟩
              refine ⟨_, rfl, ?_⟩
              refine ⟨_, rfl, ?_⟩
              refine ⟨.p (.imp [.bool false, .sl (encOnes ox)]), ⟨by omega, _, hxi, rfl, rfl⟩, ?_⟩
              refine ⟨_, rfl, ?_⟩
              refine ⟨_, rfl, ?_⟩
              refine ⟨.p (.bool true), ⟨fun t ht => by rw [ht]; rfl⟩, ?_⟩
              refine ⟨_, rfl, ?_⟩
              refine ⟨_, rfl, ?_⟩
              refine ⟨_, rfl, ?_⟩
              refine ⟨_, rfl, ?_⟩
              refine ⟨.p (.imp [.bool true, .sl (encOnes oy)]), ⟨by omega, _, hyj, rfl, rfl⟩, ?_⟩
              refine ⟨_, rfl, ?_⟩
              refine ⟨_, rfl, ?_⟩
              refine ⟨.p (.bool false), ⟨fun t ht => by rw [ht]; rfl⟩, ?_⟩
              refine ⟨_, rfl, ?_⟩
              refine ⟨_, rfl, ?_⟩
              refine ⟨_, rfl, ?_⟩
              refine ⟨_, rfl, ?_⟩
              refine ⟨_, rfl, ?_⟩
              refine ⟨_, rfl, ?_⟩
              refine ⟨_, ⟨j, j * 1, rfl, rfl, by rw [cellsO_len (by omega)]; omega, rfl⟩, ?_⟩
              have hb : ovV x y i j = false := by
                rw [ovV_cc hx0 hy0, hv10, hv01]; simp
              refine ⟨_, _, _, cellsO_here x y i j, by simp, _, cellsO_put (by omega) hb, ?_⟩
              exact ⟨_, hwm, roundR j (by show j ≤ y.length + 1; omega) (by show j < j + 1; omega) rfl ⟨Weak.refl _, Weak.refl _, Weak.refl _, Weak.refl _, Weak.refl _, trivial⟩ ⟨hasO_one rfl, hasO_one rfl, trivial⟩⟩
            | true =>
              refine ⟨.p (.imp [.bool true]), ⟨by omega, _, rowA_at (by omega) hv10, rfl, rfl⟩, ?_⟩
              refine ⟨_, rfl, ?_⟩
              refine ⟨_, rfl, ?_⟩
              refine ⟨_, rfl, ?_⟩
              refine ⟨_, rfl, ?_⟩
              refine ⟨_, rfl, ?_⟩
              refine ⟨_, rfl, ?_⟩
              refine ⟨_, rfl, ?_⟩
              refine ⟨_, ⟨j, j * 1, rfl, rfl, by rw [cellsO_len (by omega)]; omega, rfl⟩, ?_⟩
              have hb : ovV x y i j = true := by
                rw [ovV_cc hx0 hy0, hv10, hv01]; simp
              refine ⟨_, _, _, cellsO_here x y i j, by simp, _, cellsO_put (by omega) hb, ?_⟩
              exact ⟨_, hwm, roundR j (by show j ≤ y.length + 1; omega) (by show j < j + 1; omega) rfl ⟨Weak.refl _, Weak.refl _, Weak.refl _, Weak.refl _, Weak.refl _, trivial⟩ ⟨hasO_one rfl, hasO_one rfl, trivial⟩⟩
          | true =>
            refine ⟨.p (.bool true), ⟨_, _, _, cellsO_next (by omega) hv01, by simp, rfl⟩, ?_⟩
            refine ⟨_, rfl, ?_⟩
            refine ⟨_, rfl, ?_⟩
            refine ⟨_, rfl, ?_⟩
            refine ⟨_, rfl, ?_⟩
            refine ⟨_, rfl, ?_⟩
            refine ⟨_, rfl, ?_⟩
            refine ⟨_, ⟨j, j * 1, rfl, rfl, by rw [cellsO_len (by omega)]; omega, rfl⟩, ?_⟩
            have hb : ovV x y i j = true := by
              rw [ovV_cc hx0 hy0, hv01]; simp
            refine ⟨_, _, _, cellsO_here x y i j, by simp, _, cellsO_put (by omega) hb, ?_⟩
            exact ⟨_, hwm, roundR j (by show j ≤ y.length + 1; omega) (by show j < j + 1; omega) rfl ⟨Weak.refl _, Weak.refl _, Weak.refl _, Weak.refl _, Weak.refl _, trivial⟩ ⟨hasO_one rfl, hasO_one rfl, trivial⟩⟩
      | true =>
        cases dy with
        | false =>
          refine ⟨_, rfl, ?_⟩
          refine ⟨_, rfl, ?_⟩
          refine ⟨_, ⟨i, i * 1, rfl, rfl, by rw [rowsO_len hi1]; omega, rfl⟩, ?_⟩
          refine ⟨.osl 43 4 1, ⟨_, _, _, rowsO_here x y i, by simp, rfl⟩, ?_⟩
          refine ⟨_, rfl, ?_⟩
          refine ⟨_, rfl, ?_⟩
          refine ⟨_, rfl, ?_⟩
          refine ⟨_, rfl, ?_⟩
          refine ⟨.p (.bool false), ⟨fun t ht => by rw [ht]; exact congrArg (fun b => FV.p (AV.bool b)) hiE⟩, ?_⟩
          refine ⟨_, rfl, ?_⟩
          refine ⟨_, rfl, ?_⟩
          refine ⟨_, rfl, ?_⟩
          refine ⟨_, rfl, ?_⟩
          refine ⟨_, rfl, ?_⟩
          refine ⟨_, rfl, ?_⟩
          refine ⟨.p (.bool true), ⟨fun t ht => by rw [ht]; exact congrArg (fun b => FV.p (AV.bool b)) hiL⟩, ?_⟩
          refine ⟨_, rfl, ?_⟩
          refine ⟨_, rfl, ?_⟩
          refine ⟨_, rfl, ?_⟩
          refine ⟨.p (.imp [.bool true, .sl (encOnes ox)]), ⟨by omega, _, hxi, rfl, rfl⟩, ?_⟩
          refine ⟨_, rfl, ?_⟩
          refine ⟨_, rfl, ?_⟩
          refine ⟨_, rfl, ?_⟩
          refine ⟨_, rfl, ?_⟩
          refine ⟨_, rfl, ?_⟩
          refine ⟨_, rfl, ?_⟩
          refine ⟨_, ⟨_, hwi, rfl⟩, ?_⟩
          refine ⟨_, ⟨(i + 1), (i + 1) * 1, rfl, rfl, by rw [rowsO_len hi1]; omega, rfl⟩, ?_⟩
          refine ⟨.p (.sl (rowA x y (i + 1))), ⟨_, _, _, rowsO_next (by omega), by simp, rfl⟩, ?_⟩
          refine ⟨_, rfl, ?_⟩
          cases hv10 : ovV x y (i + 1) j with
          | false =>
            refine ⟨.p (.imp [.bool false]), ⟨by omega, _, rowA_at (by omega) hv10, rfl, rfl⟩, ?_⟩
            refine ⟨_, rfl, ?_⟩
            refine ⟨_, rfl, ?_⟩
            refine ⟨_, rfl, ?_⟩
            refine ⟨_, rfl, ?_⟩
            refine ⟨_, rfl, ?_⟩
            refine ⟨.p (.bool true), ⟨fun t ht => by rw [ht]; exact congrArg (fun b => FV.p (AV.bool b)) hjL⟩, ?_⟩
            refine ⟨_, rfl, ?_⟩
            refine ⟨_, rfl, ?_⟩
            refine ⟨_, rfl, ?_⟩
            refine ⟨_, ⟨i, i * 1, rfl, rfl, by rw [rowsO_len hi1]; omega, rfl⟩, ?_⟩
            refine ⟨.osl 43 4 1, ⟨_, _, _, rowsO_here x y i, by simp, rfl⟩, ?_⟩
            refine ⟨_, rfl, ?_⟩
            refine ⟨_, ⟨_, hwj, rfl⟩, ?_⟩
            refine ⟨_, ⟨(j + 1), (j + 1) * 1, rfl, rfl, by rw [cellsO_len (by omega)]; omega, rfl⟩, ?_⟩
            cases hv01 : ovV x y i (j + 1) with
            | false =>
              refine ⟨.p (.bool false), ⟨_, _, _, cellsO_next (by omega) hv01, by simp, rfl⟩, ?_⟩
              refine ⟨_, rfl, ?_⟩
              refine ⟨_, rfl, ?_⟩
              refine ⟨_, rfl, ?_⟩
              refine ⟨_, rfl, ?_⟩
              refine ⟨_, rfl, ?_⟩
              refine ⟨_, rfl, ?_⟩
              refine ⟨_, rfl, ?_⟩
              refine ⟨_, rfl, ?_⟩
              refine ⟨.p (.bool true), ⟨fun t ht => by rw [ht]; exact congrArg (fun b => FV.p (AV.bool b)) hjL⟩, ?_⟩
              refine ⟨_, rfl, ?_⟩
              refine ⟨_, rfl, ?_⟩
              refine ⟨_, rfl, ?_⟩
              refine ⟨.p (.imp [.bool false, .sl (encOnes oy)]), ⟨by omega, _, hyj, rfl, rfl⟩, ?_⟩
              refine ⟨_, rfl, ?_⟩
              refine ⟨_, rfl, ?_⟩
              refine ⟨_, rfl, ?_⟩
              refine ⟨_, rfl, ?_⟩
              refine ⟨_, rfl, ?_⟩
              refine ⟨_, rfl, ?_⟩
              refine ⟨_, rfl, ?_⟩
              refine ⟨_, rfl, ?_⟩
              refine ⟨_, rfl, ?_⟩
              refine ⟨_, rfl, ?_⟩
              refine ⟨.p (.bool true), ⟨fun t ht => by rw [ht]; exact congrArg (fun b => FV.p (AV.bool b)) hiL⟩, ?_⟩
              refine ⟨_, rfl, ?_⟩
              refine ⟨_, rfl, ?_⟩
              refine ⟨_, rfl, ?_⟩
              refine ⟨_, rfl, ?_⟩
              refine ⟨.p (.bool true), ⟨fun t ht => by rw [ht]; exact congrArg (fun b => FV.p (AV.bool b)) hjL⟩, ?_⟩
              refine ⟨_, rfl, ?_⟩
              refine ⟨_, rfl, ?_⟩
              refine ⟨_, rfl, ?_⟩
              refine ⟨_, rfl, ?_⟩
              refine ⟨.p (.imp [.bool true, .sl (encOnes ox)]), ⟨by omega, _, hxi, rfl, rfl⟩, ?_⟩
              refine ⟨_, rfl, ?_⟩
              refine ⟨_, rfl, ?_⟩
              refine ⟨.p (.bool false), ⟨fun t ht => by rw [ht]; rfl⟩, ?_⟩
              refine ⟨_, rfl, ?_⟩
              refine ⟨_, rfl, ?_⟩
              refine ⟨_, rfl, ?_⟩
              refine ⟨_, rfl, ?_⟩
              refine ⟨_, rfl, ?_⟩
              refine ⟨_, rfl, ?_⟩
              refine ⟨_, rfl, ?_⟩
              refine ⟨_, rfl, ?_⟩
              refine ⟨_, ⟨j, j * 1, rfl, rfl, by rw [cellsO_len (by omega)]; omega, rfl⟩, ?_⟩
              have hb : ovV x y i j = false := by
                rw [ovV_cc hx0 hy0, hv10, hv01]; simp
              refine ⟨_, _, _, cellsO_here x y i j, by simp, _, cellsO_put (by omega) hb, ?_⟩
              exact ⟨_, hwm, roundR j (by show j ≤ y.length + 1; omega) (by show j < j + 1; omega) rfl ⟨Weak.refl _, Weak.refl _, Weak.refl _, Weak.refl _, Weak.refl _, trivial⟩ ⟨hasO_one rfl, hasO_one rfl, trivial⟩⟩
            | true =>
              refine ⟨.p (.bool true), ⟨_, _, _, cellsO_next (by omega) hv01, by simp, rfl⟩, ?_⟩
              refine ⟨_, rfl, ?_⟩
              refine ⟨_, rfl, ?_⟩
              refine ⟨_, rfl, ?_⟩
              refine ⟨_, rfl, ?_⟩
              refine ⟨_, rfl, ?_⟩
              refine ⟨_, rfl, ?_⟩
              refine ⟨_, rfl, ?_⟩
              refine ⟨_, rfl, ?_⟩
              refine ⟨_, ⟨j, j * 1, rfl, rfl, by rw [cellsO_len (by omega)]; omega, rfl⟩, ?_⟩
              have hb : ovV x y i j = true := by
                rw [ovV_cc hx0 hy0, hv10, hv01]; simp
              refine ⟨_, _, _, cellsO_here x y i j, by simp, _, cellsO_put (by omega) hb, ?_⟩
              exact ⟨_, hwm, roundR j (by show j ≤ y.length + 1; omega) (by show j < j + 1; omega) rfl ⟨Weak.refl _, Weak.refl _, Weak.refl _, Weak.refl _, Weak.refl _, trivial⟩ ⟨hasO_one rfl, hasO_one rfl, trivial⟩⟩
          | true =>
            refine ⟨.p (.imp [.bool true]), ⟨by omega, _, rowA_at (by omega) hv10, rfl, rfl⟩, ?_⟩
            refine ⟨_, rfl, ?_⟩
            refine ⟨_, rfl, ?_⟩
            refine ⟨_, rfl, ?_⟩
            refine ⟨_, rfl, ?_⟩
            refine ⟨_, rfl, ?_⟩
            refine ⟨_, rfl, ?_⟩
            refine ⟨_, rfl, ?_⟩
            refine ⟨_, rfl, ?_⟩
            refine ⟨_, rfl, ?_⟩
            refine ⟨_, ⟨j, j * 1, rfl, rfl, by rw [cellsO_len (by omega)]; omega, rfl⟩, ?_⟩
            have hb : ovV x y i j = true := by
              rw [ovV_cc hx0 hy0, hv10]; simp
            refine ⟨_, _, _, cellsO_here x y i j, by simp, _, cellsO_put (by omega) hb, ?_⟩
            exact ⟨_, hwm, roundR j (by show j ≤ y.length + 1; omega) (by show j < j + 1; omega) rfl ⟨Weak.refl _, Weak.refl _, Weak.refl _, Weak.refl _, Weak.refl _, trivial⟩ ⟨hasO_one rfl, hasO_one rfl, trivial⟩⟩
        | true =>
          refine ⟨_, rfl, ?_⟩
          refine ⟨_, rfl, ?_⟩
          refine ⟨_, ⟨i, i * 1, rfl, rfl, by rw [rowsO_len hi1]; omega, rfl⟩, ?_⟩
          refine ⟨.osl 43 4 1, ⟨_, _, _, rowsO_here x y i, by simp, rfl⟩, ?_⟩
          refine ⟨_, rfl, ?_⟩
          refine ⟨_, rfl, ?_⟩
          refine ⟨_, rfl, ?_⟩
          refine ⟨_, rfl, ?_⟩
          refine ⟨.p (.bool false), ⟨fun t ht => by rw [ht]; exact congrArg (fun b => FV.p (AV.bool b)) hiE⟩, ?_⟩
          refine ⟨_, rfl, ?_⟩
          refine ⟨_, rfl, ?_⟩
          refine ⟨_, rfl, ?_⟩
          refine ⟨_, rfl, ?_⟩
          refine ⟨_, rfl, ?_⟩
          refine ⟨_, rfl, ?_⟩
          refine ⟨.p (.bool true), ⟨fun t ht => by rw [ht]; exact congrArg (fun b => FV.p (AV.bool b)) hiL⟩, ?_⟩
          refine ⟨_, rfl, ?_⟩
          refine ⟨_, rfl, ?_⟩
          refine ⟨_, rfl, ?_⟩
          refine ⟨.p (.imp [.bool true, .sl (encOnes ox)]), ⟨by omega, _, hxi, rfl, rfl⟩, ?_⟩
          refine ⟨_, rfl, ?_⟩
          refine ⟨_, rfl, ?_⟩
          refine ⟨_, rfl, ?_⟩
          refine ⟨_, rfl, ?_⟩
          refine ⟨_, rfl, ?_⟩
          refine ⟨_, rfl, ?_⟩
          refine ⟨_, ⟨_, hwi, rfl⟩, ?_⟩
          refine ⟨_, ⟨(i + 1), (i + 1) * 1, rfl, rfl, by rw [rowsO_len hi1]; omega, rfl⟩, ?_⟩
          refine ⟨.p (.sl (rowA x y (i + 1))), ⟨_, _, _, rowsO_next (by omega), by simp, rfl⟩, ?_⟩
          refine ⟨_, rfl, ?_⟩
          cases hv10 : ovV x y (i + 1) j with
          | false =>
            refine ⟨.p (.imp [.bool false]), ⟨by omega, _, rowA_at (by omega) hv10, rfl, rfl⟩, ?_⟩
            refine ⟨_, rfl, ?_⟩
            refine ⟨_, rfl, ?_⟩
            refine ⟨_, rfl, ?_⟩
            refine ⟨_, rfl, ?_⟩
            refine ⟨_, rfl, ?_⟩
            refine ⟨.p (.bool true), ⟨fun t ht => by rw [ht]; exact congrArg (fun b => FV.p (AV.bool b)) hjL⟩, ?_⟩
            refine ⟨_, rfl, ?_⟩
            refine ⟨_, rfl, ?_⟩
            refine ⟨_, rfl, ?_⟩
            refine ⟨_, ⟨i, i * 1, rfl, rfl, by rw [rowsO_len hi1]; omega, rfl⟩, ?_⟩
            refine ⟨.osl 43 4 1, ⟨_, _, _, rowsO_here x y i, by simp, rfl⟩, ?_⟩
            refine ⟨_, rfl, ?_⟩
            refine ⟨_, ⟨_, hwj, rfl⟩, ?_⟩
            refine ⟨_, ⟨(j + 1), (j + 1) * 1, rfl, rfl, by rw [cellsO_len (by omega)]; omega, rfl⟩, ?_⟩
            cases hv01 : ovV x y i (j + 1) with
            | false =>
              refine ⟨.p (.bool false), ⟨_, _, _, cellsO_next (by omega) hv01, by simp, rfl⟩, ?_⟩
              refine ⟨_, rfl, ?_⟩
              refine ⟨_, rfl, ?_⟩
              refine ⟨_, rfl, ?_⟩
              refine ⟨_, rfl, ?_⟩
              refine ⟨_, rfl, ?_⟩
              refine ⟨_, rfl, ?_⟩
              refine ⟨_, rfl, ?_⟩
              refine ⟨_, rfl, ?_⟩
              refine ⟨.p (.bool true), ⟨fun t ht => by rw [ht]; exact congrArg (fun b => FV.p (AV.bool b)) hjL⟩, ?_⟩
              refine ⟨_, rfl, ?_⟩
              refine ⟨_, rfl, ?_⟩
              refine ⟨_, rfl, ?_⟩
              refine ⟨.p (.imp [.bool true, .sl (encOnes oy)]), ⟨by omega, _, hyj, rfl, rfl⟩, ?_⟩
              refine ⟨_, rfl, ?_⟩
              refine ⟨_, rfl, ?_⟩
              refine ⟨_, rfl, ?_⟩
              refine ⟨_, rfl, ?_⟩
              refine ⟨_, rfl, ?_⟩
              refine ⟨_, rfl, ?_⟩
              refine ⟨_, ⟨i, i * 1, rfl, rfl, by rw [rowsO_len hi1]; omega, rfl⟩, ?_⟩
              refine ⟨.osl 43 4 1, ⟨_, _, _, rowsO_here x y i, by simp, rfl⟩, ?_⟩
              refine ⟨_, rfl, ?_⟩
              refine ⟨_, ⟨_, hwj, rfl⟩, ?_⟩
              refine ⟨_, ⟨(j + 1), (j + 1) * 1, rfl, rfl, by rw [cellsO_len (by omega)]; omega, rfl⟩, ?_⟩
              refine ⟨.p (.bool false), ⟨_, _, _, cellsO_next (by omega) hv01, by simp, rfl⟩, ?_⟩
              refine ⟨_, rfl, ?_⟩
              refine ⟨_, rfl, ?_⟩
              refine ⟨_, rfl, ?_⟩
              refine ⟨_, rfl, ?_⟩
              refine ⟨.p (.bool true), ⟨fun t ht => by rw [ht]; exact congrArg (fun b => FV.p (AV.bool b)) hiL⟩, ?_⟩
              refine ⟨_, rfl, ?_⟩
              refine ⟨_, rfl, ?_⟩
              refine ⟨_, rfl, ?_⟩
              refine ⟨_, ⟨_, hwi, rfl⟩, ?_⟩
              refine ⟨_, ⟨(i + 1), (i + 1) * 1, rfl, rfl, by rw [rowsO_len hi1]; omega, rfl⟩, ?_⟩
              refine ⟨.p (.sl (rowA x y (i + 1))), ⟨_, _, _, rowsO_next (by omega), by simp, rfl⟩, ?_⟩
              refine ⟨_, rfl, ?_⟩
              refine ⟨.p (.imp [.bool false]), ⟨by omega, _, rowA_at (by omega) hv10, rfl, rfl⟩, ?_⟩
              refine ⟨_, rfl, ?_⟩
              refine ⟨_, rfl, ?_⟩
              refine ⟨_, rfl, ?_⟩
              refine ⟨_, rfl, ?_⟩
              refine ⟨_, rfl, ?_⟩
              refine ⟨_, rfl, ?_⟩
              refine ⟨_, rfl, ?_⟩
              refine ⟨_, rfl, ?_⟩
              refine ⟨_, rfl, ?_⟩
              refine ⟨.p (.bool true), ⟨fun t ht => by rw [ht]; exact congrArg (fun b => FV.p (AV.bool b)) hiL⟩, ?_⟩
              refine ⟨_, rfl, ?_⟩
              refine ⟨_, rfl, ?_⟩
              refine ⟨_, rfl, ?_⟩
              refine ⟨_, rfl, ?_⟩
              refine ⟨.p (.bool true), ⟨fun t ht => by rw [ht]; exact congrArg (fun b => FV.p (AV.bool b)) hjL⟩, ?_⟩
              refine ⟨_, rfl, ?_⟩
              refine ⟨_, rfl, ?_⟩
              refine ⟨_, rfl, ?_⟩
              refine ⟨_, rfl, ?_⟩
              refine ⟨.p (.imp [.bool true, .sl (encOnes ox)]), ⟨by omega, _, hxi, rfl, rfl⟩, ?_⟩
              refine ⟨_, rfl, ?_⟩
              refine ⟨_, rfl, ?_⟩
              refine ⟨.p (.bool false), ⟨fun t ht => by rw [ht]; rfl⟩, ?_⟩
              refine ⟨_, rfl, ?_⟩
              refine ⟨_, rfl, ?_⟩
              refine ⟨_, rfl, ?_⟩
              refine ⟨_, rfl, ?_⟩
              refine ⟨_, rfl, ?_⟩
              refine ⟨_, rfl, ?_⟩
              refine ⟨_, rfl, ?_⟩
              refine ⟨_, rfl, ?_⟩
              refine ⟨_, ⟨j, j * 1, rfl, rfl, by rw [cellsO_len (by omega)]; omega, rfl⟩, ?_⟩
              have hb : ovV x y i j = false := by
                rw [ovV_cc hx0 hy0, hv10, hv01]; simp
              refine ⟨_, _, _, cellsO_here x y i j, by simp, _, cellsO_put (by omega) hb, ?_⟩
              exact ⟨_, hwm, roundR j (by show j ≤ y.length + 1; omega) (by show j < j + 1; omega) rfl ⟨Weak.refl _, Weak.refl _, Weak.refl _, Weak.refl _, Weak.refl _, trivial⟩ ⟨hasO_one rfl, hasO_one rfl, trivial⟩⟩
            | true =>
              refine ⟨.p (.bool true), ⟨_, _, _, cellsO_next (by omega) hv01, by simp, rfl⟩, ?_⟩
              refine ⟨_, rfl, ?_⟩
              refine ⟨_, rfl, ?_⟩
              refine ⟨_, rfl, ?_⟩
              refine ⟨_, rfl, ?_⟩
              refine ⟨_, rfl, ?_⟩
              refine ⟨_, rfl, ?_⟩
              refine ⟨_, rfl, ?_⟩
              refine ⟨_, rfl, ?_⟩
              refine ⟨_, ⟨j, j * 1, rfl, rfl, by rw [cellsO_len (by omega)]; omega, rfl⟩, ?_⟩
              have hb : ovV x y i j = true := by
                rw [ovV_cc hx0 hy0, hv10, hv01]; simp
              refine ⟨_, _, _, cellsO_here x y i j, by simp, _, cellsO_put (by omega) hb, ?_⟩
              exact ⟨_, hwm, roundR j (by show j ≤ y.length + 1; omega) (by show j < j + 1; omega) rfl ⟨Weak.refl _, Weak.refl _, Weak.refl _, Weak.refl _, Weak.refl _, trivial⟩ ⟨hasO_one rfl, hasO_one rfl, trivial⟩⟩
          | true =>
            refine ⟨.p (.imp [.bool true]), ⟨by omega, _, rowA_at (by omega) hv10, rfl, rfl⟩, ?_⟩
            refine ⟨_, rfl, ?_⟩
            refine ⟨_, rfl, ?_⟩
            refine ⟨_, rfl, ?_⟩
            refine ⟨_, rfl, ?_⟩
            refine ⟨_, rfl, ?_⟩
            refine ⟨_, rfl, ?_⟩
            refine ⟨_, rfl, ?_⟩
            refine ⟨_, rfl, ?_⟩
            refine ⟨_, rfl, ?_⟩
            refine ⟨_, ⟨j, j * 1, rfl, rfl, by rw [cellsO_len (by omega)]; omega, rfl⟩, ?_⟩
            have hb : ovV x y i j = true := by
              rw [ovV_cc hx0 hy0, hv10]; simp
            refine ⟨_, _, _, cellsO_here x y i j, by simp, _, cellsO_put (by omega) hb, ?_⟩
            exact ⟨_, hwm, roundR j (by show j ≤ y.length + 1; omega) (by show j < j + 1; omega) rfl ⟨Weak.refl _, Weak.refl _, Weak.refl _, Weak.refl _, Weak.refl _, trivial⟩ ⟨hasO_one rfl, hasO_one rfl, trivial⟩⟩
    case neg =>
      have hje : j = y.length := by omega
      have hjE : ((j : Int) == ((encComps y).length : Int)) = true := by rw [beq_iff_eq]; omega
      have hjL : decide ((j : Int) < ((encComps y).length : Int)) = false := decide_eq_false (by omega)
      cases dx with
      | false =>
        refine ⟨_, rfl, ?_⟩
        refine ⟨_, rfl, ?_⟩
        refine ⟨_, ⟨i, i * 1, rfl, rfl, by rw [rowsO_len hi1]; omega, rfl⟩, ?_⟩
        refine ⟨.osl 43 4 1, ⟨_, _, _, rowsO_here x y i, by simp, rfl⟩, ?_⟩
        refine ⟨_, rfl, ?_⟩
        refine ⟨_, rfl, ?_⟩
        refine ⟨_, rfl, ?_⟩
        refine ⟨_, rfl, ?_⟩
        refine ⟨.p (.bool false), ⟨fun t ht => by rw [ht]; exact congrArg (fun b => FV.p (AV.bool b)) hiE⟩, ?_⟩
        refine ⟨_, rfl, ?_⟩
        refine ⟨_, rfl, ?_⟩
        refine ⟨_, rfl, ?_⟩
        refine ⟨_, rfl, ?_⟩
        refine ⟨_, rfl, ?_⟩
        refine ⟨_, rfl, ?_⟩
        refine ⟨.p (.bool true), ⟨fun t ht => by rw [ht]; exact congrArg (fun b => FV.p (AV.bool b)) hiL⟩, ?_⟩
        refine ⟨_, rfl, ?_⟩
        refine ⟨_, rfl, ?_⟩
        refine ⟨_, rfl, ?_⟩
        refine ⟨.p (.imp [.bool false, .sl (encOnes ox)]), ⟨by omega, _, hxi, rfl, rfl⟩, ?_⟩
        refine ⟨_, rfl, ?_⟩
        refine ⟨_, rfl, ?_⟩
        refine ⟨_, rfl, ?_⟩
        refine ⟨_, rfl, ?_⟩
        refine ⟨_, rfl, ?_⟩
        refine ⟨_, rfl, ?_⟩
        refine ⟨_, rfl, ?_⟩
        refine ⟨_, rfl, ?_⟩
        refine ⟨_, rfl, ?_⟩
        refine ⟨_, rfl, ?_⟩
        refine ⟨.p (.bool false), ⟨fun t ht => by rw [ht]; exact congrArg (fun b => FV.p (AV.bool b)) hjL⟩, ?_⟩
        refine ⟨_, rfl, ?_⟩
        refine ⟨_, rfl, ?_⟩
        refine ⟨_, rfl, ?_⟩
        refine ⟨_, rfl, ?_⟩
        refine ⟨_, rfl, ?_⟩
        refine ⟨_, rfl, ?_⟩
        refine ⟨_, rfl, ?_⟩
        refine ⟨_, rfl, ?_⟩
        refine ⟨_, rfl, ?_⟩
        refine ⟨.p (.bool true), ⟨fun t ht => by rw [ht]; exact congrArg (fun b => FV.p (AV.bool b)) hiL⟩, ?_⟩
        refine ⟨_, rfl, ?_⟩
        refine ⟨_, rfl, ?_⟩
        refine ⟨_, rfl, ?_⟩
        refine ⟨_, rfl, ?_⟩
        refine ⟨.p (.bool false), ⟨fun t ht => by rw [ht]; exact congrArg (fun b => FV.p (AV.bool b)) hjL⟩, ?_⟩
        refine ⟨_, rfl, ?_⟩
        refine ⟨_, rfl, ?_⟩
        refine ⟨_, rfl, ?_⟩
        refine ⟨_, rfl, ?_⟩
        refine ⟨_, rfl, ?_⟩
        refine ⟨_, rfl, ?_⟩
        refine ⟨_, rfl, ?_⟩
        refine ⟨_, rfl, ?_⟩
        refine ⟨_, rfl, ?_⟩
        refine ⟨_, rfl, ?_⟩
        refine ⟨_, ⟨j, j * 1, rfl, rfl, by rw [cellsO_len (by omega)]; omega, rfl⟩, ?_⟩
        have hb : ovV x y i j = false := by
          rw [ovV_cn' hje hx0]; simp
        refine ⟨_, _, _, cellsO_here x y i j, by simp, _, cellsO_put (by omega) hb, ?_⟩
        exact ⟨_, hwm, roundR j (by show j ≤ y.length + 1; omega) (by show j < j + 1; omega) rfl ⟨Weak.refl _, Weak.refl _, Weak.refl _, Weak.refl _, Weak.refl _, trivial⟩ ⟨hasO_one rfl, hasO_one rfl, trivial⟩⟩
      | true =>
        refine ⟨_, rfl, ?_⟩
        refine ⟨_, rfl, ?_⟩
        refine ⟨_, ⟨i, i * 1, rfl, rfl, by rw [rowsO_len hi1]; omega, rfl⟩, ?_⟩
        refine ⟨.osl 43 4 1, ⟨_, _, _, rowsO_here x y i, by simp, rfl⟩, ?_⟩
        refine ⟨_, rfl, ?_⟩
        refine ⟨_, rfl, ?_⟩
        refine ⟨_, rfl, ?_⟩
        refine ⟨_, rfl, ?_⟩
        refine ⟨.p (.bool false), ⟨fun t ht => by rw [ht]; exact congrArg (fun b => FV.p (AV.bool b)) hiE⟩, ?_⟩
        refine ⟨_, rfl, ?_⟩
        refine ⟨_, rfl, ?_⟩
        refine ⟨_, rfl, ?_⟩
        refine ⟨_, rfl, ?_⟩
        refine ⟨_, rfl, ?_⟩
        refine ⟨_, rfl, ?_⟩
        refine ⟨.p (.bool true), ⟨fun t ht => by rw [ht]; exact congrArg (fun b => FV.p (AV.bool b)) hiL⟩, ?_⟩
        refine ⟨_, rfl, ?_⟩
        refine ⟨_, rfl, ?_⟩
        refine ⟨_, rfl, ?_⟩
        refine ⟨.p (.imp [.bool true, .sl (encOnes ox)]), ⟨by omega, _, hxi, rfl, rfl⟩, ?_⟩
        refine ⟨_, rfl, ?_⟩
        refine ⟨_, rfl, ?_⟩
        refine ⟨_, rfl, ?_⟩
        refine ⟨_, rfl, ?_⟩
        refine ⟨_, rfl, ?_⟩
        refine ⟨_, rfl, ?_⟩
        refine ⟨_, ⟨_, hwi, rfl⟩, ?_⟩
        refine ⟨_, ⟨(i + 1), (i + 1) * 1, rfl, rfl, by rw [rowsO_len hi1]; omega, rfl⟩, ?_⟩
        refine ⟨.p (.sl (rowA x y (i + 1))), ⟨_, _, _, rowsO_next (by omega), by simp, rfl⟩, ?_⟩
        refine ⟨_, rfl, ?_⟩
        cases hv10 : ovV x y (i + 1) j with
        | false =>
          refine ⟨.p (.imp [.bool false]), ⟨by omega, _, rowA_at (by omega) hv10, rfl, rfl⟩, ?_⟩
          refine ⟨_, rfl, ?_⟩
          refine ⟨_, rfl, ?_⟩
          refine ⟨_, rfl, ?_⟩
          refine ⟨_, rfl, ?_⟩
          refine ⟨_, rfl, ?_⟩
          refine ⟨.p (.bool false), ⟨fun t ht => by rw [ht]; exact congrArg (fun b => FV.p (AV.bool b)) hjL⟩, ?_⟩
          refine ⟨_, rfl, ?_⟩
          refine ⟨_, rfl, ?_⟩
          refine ⟨_, rfl, ?_⟩
          refine ⟨_, rfl, ?_⟩
          refine ⟨_, rfl, ?_⟩
          refine ⟨_, rfl, ?_⟩
          refine ⟨_, rfl, ?_⟩
          refine ⟨_, rfl, ?_⟩
          refine ⟨_, rfl, ?_⟩
          refine ⟨.p (.bool false), ⟨fun t ht => by rw [ht]; exact congrArg (fun b => FV.p (AV.bool b)) hjL⟩, ?_⟩
          refine ⟨_, rfl, ?_⟩
          refine ⟨_, rfl, ?_⟩
          refine ⟨_, rfl, ?_⟩
          refine ⟨_, rfl, ?_⟩
          refine ⟨_, rfl, ?_⟩
          refine ⟨_, rfl, ?_⟩
          refine ⟨_, rfl, ?_⟩
          refine ⟨_, rfl, ?_⟩
          refine ⟨_, rfl, ?_⟩
          refine ⟨.p (.bool true), ⟨fun t ht => by rw [ht]; exact congrArg (fun b => FV.p (AV.bool b)) hiL⟩, ?_⟩
          refine ⟨_, rfl, ?_⟩
          refine ⟨_, rfl, ?_⟩
          refine ⟨_, rfl, ?_⟩
          refine ⟨_, rfl, ?_⟩
          refine ⟨.p (.bool false), ⟨fun t ht => by rw [ht]; exact congrArg (fun b => FV.p (AV.bool b)) hjL⟩, ?_⟩
          refine ⟨_, rfl, ?_⟩
          refine ⟨_, rfl, ?_⟩
          refine ⟨_, rfl, ?_⟩
          refine ⟨_, rfl, ?_⟩
          refine ⟨_, rfl, ?_⟩
          refine ⟨_, rfl, ?_⟩
          refine ⟨_, rfl, ?_⟩
          refine ⟨_, rfl, ?_⟩
          refine ⟨_, rfl, ?_⟩
          refine ⟨_, rfl, ?_⟩
          refine ⟨_, ⟨j, j * 1, rfl, rfl, by rw [cellsO_len (by omega)]; omega, rfl⟩, ?_⟩
          have hb : ovV x y i j = false := by
            rw [ovV_cn' hje hx0, hv10]; simp
          refine ⟨_, _, _, cellsO_here x y i j, by simp, _, cellsO_put (by omega) hb, ?_⟩
          exact ⟨_, hwm, roundR j (by show j ≤ y.length + 1; omega) (by show j < j + 1; omega) rfl ⟨Weak.refl _, Weak.refl _, Weak.refl _, Weak.refl _, Weak.refl _, trivial⟩ ⟨hasO_one rfl, hasO_one rfl, trivial⟩⟩
        | true =>
          refine ⟨.p (.imp [.bool true]), ⟨by omega, _, rowA_at (by omega) hv10, rfl, rfl⟩, ?_⟩
          refine ⟨_, rfl, ?_⟩
          refine ⟨_, rfl, ?_⟩
          refine ⟨_, rfl, ?_⟩
          refine ⟨_, rfl, ?_⟩
          refine ⟨_, rfl, ?_⟩
          refine ⟨_, rfl, ?_⟩
          refine ⟨_, rfl, ?_⟩
          refine ⟨_, rfl, ?_⟩
          refine ⟨_, rfl, ?_⟩
          refine ⟨_, ⟨j, j * 1, rfl, rfl, by rw [cellsO_len (by omega)]; omega, rfl⟩, ?_⟩
          have hb : ovV x y i j = true := by
            rw [ovV_cn' hje hx0, hv10]; simp
          refine ⟨_, _, _, cellsO_here x y i j, by simp, _, cellsO_put (by omega) hb, ?_⟩
          exact ⟨_, hwm, roundR j (by show j ≤ y.length + 1; omega) (by show j < j + 1; omega) rfl ⟨Weak.refl _, Weak.refl _, Weak.refl _, Weak.refl _, Weak.refl _, trivial⟩ ⟨hasO_one rfl, hasO_one rfl, trivial⟩⟩
  case neg =>
    have hie : i = x.length := by omega
    have hiE : ((i : Int) == ((encComps x).length : Int)) = true := by rw [beq_iff_eq]; omega
    have hiL : decide ((i : Int) < ((encComps x).length : Int)) = false := decide_eq_false (by omega)
    by_cases hjc : j < y.length
    case pos =>
      have hjE : ((j : Int) == ((encComps y).length : Int)) = false := by rw [beq_eq_false_iff_ne]; omega
      have hjL : decide ((j : Int) < ((encComps y).length : Int)) = true := decide_eq_true (by omega)
      obtain ⟨⟨dy, oy⟩, hy0⟩ : ∃ c, y[j]? = some c := ⟨_, List.getElem?_eq_getElem hjc⟩
      have hym := List.mem_of_getElem? hy0
      have hyj : (encComps y)[((j : Nat) : Int).toNat]? = some [.bool dy, .sl (encOnes oy)] := by simp [encComps, hy0, Comp.enc]
      cases dy with
      | false =>
        refine ⟨_, rfl, ?_⟩
        refine ⟨_, rfl, ?_⟩
        refine ⟨_, ⟨i, i * 1, rfl, rfl, by rw [rowsO_len hi1]; omega, rfl⟩, ?_⟩
        refine ⟨.osl 43 4 1, ⟨_, _, _, rowsO_here x y i, by simp, rfl⟩, ?_⟩
        refine ⟨_, rfl, ?_⟩
        refine ⟨_, rfl, ?_⟩
        refine ⟨_, rfl, ?_⟩
        refine ⟨_, rfl, ?_⟩
        refine ⟨.p (.bool true), ⟨fun t ht => by rw [ht]; exact congrArg (fun b => FV.p (AV.bool b)) hiE⟩, ?_⟩
        refine ⟨_, rfl, ?_⟩
        refine ⟨_, rfl, ?_⟩
        refine ⟨_, rfl, ?_⟩
        refine ⟨_, rfl, ?_⟩
        refine ⟨.p (.bool false), ⟨fun t ht => by rw [ht]; exact congrArg (fun b => FV.p (AV.bool b)) hjE⟩, ?_⟩
        refine ⟨_, rfl, ?_⟩
        refine ⟨_, rfl, ?_⟩
        refine ⟨_, rfl, ?_⟩
        refine ⟨_, rfl, ?_⟩
        refine ⟨_, rfl, ?_⟩
        refine ⟨.p (.bool false), ⟨fun t ht => by rw [ht]; exact congrArg (fun b => FV.p (AV.bool b)) hiL⟩, ?_⟩
        refine ⟨_, rfl, ?_⟩
        refine ⟨_, rfl, ?_⟩
        refine ⟨_, rfl, ?_⟩
        refine ⟨_, rfl, ?_⟩
        refine ⟨_, rfl, ?_⟩
        refine ⟨_, rfl, ?_⟩
        refine ⟨_, rfl, ?_⟩
        refine ⟨_, rfl, ?_⟩
        refine ⟨_, rfl, ?_⟩
        refine ⟨.p (.bool true), ⟨fun t ht => by rw [ht]; exact congrArg (fun b => FV.p (AV.bool b)) hjL⟩, ?_⟩
        refine ⟨_, rfl, ?_⟩
        refine ⟨_, rfl, ?_⟩
        refine ⟨_, rfl, ?_⟩
        refine ⟨.p (.imp [.bool false, .sl (encOnes oy)]), ⟨by omega, _, hyj, rfl, rfl⟩, ?_⟩
        refine ⟨_, rfl, ?_⟩
        refine ⟨_, rfl, ?_⟩
        refine ⟨_, rfl, ?_⟩
        refine ⟨_, rfl, ?_⟩
        refine ⟨_, rfl, ?_⟩
        refine ⟨_, rfl, ?_⟩
        refine ⟨_, rfl, ?_⟩
        refine ⟨_, rfl, ?_⟩
        refine ⟨_, rfl, ?_⟩
        refine ⟨_, rfl, ?_⟩
        refine ⟨.p (.bool false), ⟨fun t ht => by rw [ht]; exact congrArg (fun b => FV.p (AV.bool b)) hiL⟩, ?_⟩
        refine ⟨_, rfl, ?_⟩
        refine ⟨_, rfl, ?_⟩
        refine ⟨_, rfl, ?_⟩
        refine ⟨_, rfl, ?_⟩
        refine ⟨_, rfl, ?_⟩
        refine ⟨_, rfl, ?_⟩
        refine ⟨_, rfl, ?_⟩
        refine ⟨_, rfl, ?_⟩
        refine ⟨_, rfl, ?_⟩
        refine ⟨_, rfl, ?_⟩
        refine ⟨_, rfl, ?_⟩
        refine ⟨_, ⟨j, j * 1, rfl, rfl, by rw [cellsO_len (by omega)]; omega, rfl⟩, ?_⟩
        have hb : ovV x y i j = false := by
          rw [ovV_nc' hie hy0]; simp
        refine ⟨_, _, _, cellsO_here x y i j, by simp, _, cellsO_put (by omega) hb, ?_⟩
        exact ⟨_, hwm, roundR j (by show j ≤ y.length + 1; omega) (by show j < j + 1; omega) rfl ⟨Weak.refl _, Weak.refl _, Weak.refl _, Weak.refl _, Weak.refl _, trivial⟩ ⟨hasO_one rfl, hasO_one rfl, trivial⟩⟩
      | true =>
        refine ⟨_, rfl, ?_⟩
        refine ⟨_, rfl, ?_⟩
        refine ⟨_, ⟨i, i * 1, rfl, rfl, by rw [rowsO_len hi1]; omega, rfl⟩, ?_⟩
        refine ⟨.osl 43 4 1, ⟨_, _, _, rowsO_here x y i, by simp, rfl⟩, ?_⟩
        refine ⟨_, rfl, ?_⟩
        refine ⟨_, rfl, ?_⟩
        refine ⟨_, rfl, ?_⟩
        refine ⟨_, rfl, ?_⟩
        refine ⟨.p (.bool true), ⟨fun t ht => by rw [ht]; exact congrArg (fun b => FV.p (AV.bool b)) hiE⟩, ?_⟩
        refine ⟨_, rfl, ?_⟩
        refine ⟨_, rfl, ?_⟩
        refine ⟨_, rfl, ?_⟩
        refine ⟨_, rfl, ?_⟩
        refine ⟨.p (.bool false), ⟨fun t ht => by rw [ht]; exact congrArg (fun b => FV.p (AV.bool b)) hjE⟩, ?_⟩
        refine ⟨_, rfl, ?_⟩
        refine ⟨_, rfl, ?_⟩
        refine ⟨_, rfl, ?_⟩
        refine ⟨_, rfl, ?_⟩
        refine ⟨_, rfl, ?_⟩
        refine ⟨.p (.bool false), ⟨fun t ht => by rw [ht]; exact congrArg (fun b => FV.p (AV.bool b)) hiL⟩, ?_⟩
        refine ⟨_, rfl, ?_⟩
        refine ⟨_, rfl, ?_⟩
        refine ⟨_, rfl, ?_⟩
        refine ⟨_, rfl, ?_⟩
        refine ⟨_, rfl, ?_⟩
        refine ⟨_, rfl, ?_⟩
        refine ⟨_, rfl, ?_⟩
        refine ⟨_, rfl, ?_⟩
        refine ⟨_, rfl, ?_⟩
        refine ⟨.p (.bool true), ⟨fun t ht => by rw [ht]; exact congrArg (fun b => FV.p (AV.bool b)) hjL⟩, ?_⟩
        refine ⟨_, rfl, ?_⟩
        refine ⟨_, rfl, ?_⟩
        refine ⟨_, rfl, ?_⟩
        refine ⟨.p (.imp [.bool true, .sl (encOnes oy)]), ⟨by omega, _, hyj, rfl, rfl⟩, ?_⟩
        refine ⟨_, rfl, ?_⟩
        refine ⟨_, rfl, ?_⟩
        refine ⟨_, rfl, ?_⟩
        refine ⟨_, rfl, ?_⟩
        refine ⟨_, rfl, ?_⟩
        refine ⟨_, rfl, ?_⟩
        refine ⟨_, ⟨i, i * 1, rfl, rfl, by rw [rowsO_len hi1]; omega, rfl⟩, ?_⟩
        refine ⟨.osl 43 4 1, ⟨_, _, _, rowsO_here x y i, by simp, rfl⟩, ?_⟩
        refine ⟨_, rfl, ?_⟩
        refine ⟨_, ⟨_, hwj, rfl⟩, ?_⟩
        refine ⟨_, ⟨(j + 1), (j + 1) * 1, rfl, rfl, by rw [cellsO_len (by omega)]; omega, rfl⟩, ?_⟩
        cases hv01 : ovV x y i (j + 1) with
        | false =>
          refine ⟨.p (.bool false), ⟨_, _, _, cellsO_next (by omega) hv01, by simp, rfl⟩, ?_⟩
          refine ⟨_, rfl, ?_⟩
          refine ⟨_, rfl, ?_⟩
          refine ⟨_, rfl, ?_⟩
          refine ⟨_, rfl, ?_⟩
          refine ⟨.p (.bool false), ⟨fun t ht => by rw [ht]; exact congrArg (fun b => FV.p (AV.bool b)) hiL⟩, ?_⟩
          refine ⟨_, rfl, ?_⟩
          refine ⟨_, rfl, ?_⟩
          refine ⟨_, rfl, ?_⟩
          refine ⟨_, rfl, ?_⟩
          refine ⟨_, rfl, ?_⟩
          refine ⟨_, rfl, ?_⟩
          refine ⟨_, rfl, ?_⟩
          refine ⟨_, rfl, ?_⟩
          refine ⟨_, rfl, ?_⟩
          refine ⟨.p (.bool false), ⟨fun t ht => by rw [ht]; exact congrArg (fun b => FV.p (AV.bool b)) hiL⟩, ?_⟩
          refine ⟨_, rfl, ?_⟩
          refine ⟨_, rfl, ?_⟩
          refine ⟨_, rfl, ?_⟩
          refine ⟨_, rfl, ?_⟩
          refine ⟨_, rfl, ?_⟩
          refine ⟨_, rfl, ?_⟩
          refine ⟨_, rfl, ?_⟩
          refine ⟨_, rfl, ?_⟩
          refine ⟨_, rfl, ?_⟩
          refine ⟨_, rfl, ?_⟩
          refine ⟨_, rfl, ?_⟩
          refine ⟨_, ⟨j, j * 1, rfl, rfl, by rw [cellsO_len (by omega)]; omega, rfl⟩, ?_⟩
          have hb : ovV x y i j = false := by
            rw [ovV_nc' hie hy0, hv01]; simp
          refine ⟨_, _, _, cellsO_here x y i j, by simp, _, cellsO_put (by omega) hb, ?_⟩
          exact ⟨_, hwm, roundR j (by show j ≤ y.length + 1; omega) (by show j < j + 1; omega) rfl ⟨Weak.refl _, Weak.refl _, Weak.refl _, Weak.refl _, Weak.refl _, trivial⟩ ⟨hasO_one rfl, hasO_one rfl, trivial⟩⟩
        | true =>
          refine ⟨.p (.bool true), ⟨_, _, _, cellsO_next (by omega) hv01, by simp, rfl⟩, ?_⟩
          refine ⟨_, rfl, ?_⟩
          refine ⟨_, rfl, ?_⟩
          refine ⟨_, rfl, ?_⟩
          refine ⟨_, rfl, ?_⟩
          refine ⟨_, rfl, ?_⟩
          refine ⟨_, rfl, ?_⟩
          refine ⟨_, ⟨j, j * 1, rfl, rfl, by rw [cellsO_len (by omega)]; omega, rfl⟩, ?_⟩
          have hb : ovV x y i j = true := by
            rw [ovV_nc' hie hy0, hv01]; simp
          refine ⟨_, _, _, cellsO_here x y i j, by simp, _, cellsO_put (by omega) hb, ?_⟩
          exact ⟨_, hwm, roundR j (by show j ≤ y.length + 1; omega) (by show j < j + 1; omega) rfl ⟨Weak.refl _, Weak.refl _, Weak.refl _, Weak.refl _, Weak.refl _, trivial⟩ ⟨hasO_one rfl, hasO_one rfl, trivial⟩⟩
    case neg =>
      have hje : j = y.length := by omega
      have hjE : ((j : Int) == ((encComps y).length : Int)) = true := by rw [beq_iff_eq]; omega
      have hjL : decide ((j : Int) < ((encComps y).length : Int)) = false := decide_eq_false (by omega)
      refine ⟨_, rfl, ?_⟩
      refine ⟨_, rfl, ?_⟩
      refine ⟨_, ⟨i, i * 1, rfl, rfl, by rw [rowsO_len hi1]; omega, rfl⟩, ?_⟩
      refine ⟨.osl 43 4 1, ⟨_, _, _, rowsO_here x y i, by simp, rfl⟩, ?_⟩
      refine ⟨_, rfl, ?_⟩
      refine ⟨_, rfl, ?_⟩
      refine ⟨_, rfl, ?_⟩
      refine ⟨_, rfl, ?_⟩
      refine ⟨.p (.bool true), ⟨fun t ht => by rw [ht]; exact congrArg (fun b => FV.p (AV.bool b)) hiE⟩, ?_⟩
      refine ⟨_, rfl, ?_⟩
      refine ⟨_, rfl, ?_⟩
      refine ⟨_, rfl, ?_⟩
      refine ⟨_, rfl, ?_⟩
      refine ⟨.p (.bool true), ⟨fun t ht => by rw [ht]; exact congrArg (fun b => FV.p (AV.bool b)) hjE⟩, ?_⟩
      refine ⟨_, rfl, ?_⟩
      refine ⟨_, rfl, ?_⟩
      refine ⟨_, rfl, ?_⟩
      refine ⟨_, rfl, ?_⟩
      refine ⟨_, rfl, ?_⟩
      refine ⟨_, rfl, ?_⟩
      refine ⟨_, rfl, ?_⟩
      refine ⟨_, ⟨j, j * 1, rfl, rfl, by rw [cellsO_len (by omega)]; omega, rfl⟩, ?_⟩
      have hb : ovV x y i j = true := by
        exact ovV_nn' hie hje
      refine ⟨_, _, _, cellsO_here x y i j, by simp, _, cellsO_put (by omega) hb, ?_⟩
      exact ⟨_, hwm, roundR j (by show j ≤ y.length + 1; omega) (by show j < j + 1; omega) rfl ⟨Weak.refl _, Weak.refl _, Weak.refl _, Weak.refl _, Weak.refl _, trivial⟩ ⟨hasO_one rfl, hasO_one rfl, trivial⟩⟩
end Qv

end
