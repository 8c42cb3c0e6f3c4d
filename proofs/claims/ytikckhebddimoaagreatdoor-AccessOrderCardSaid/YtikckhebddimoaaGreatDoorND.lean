/- Several texts in one: Contracts: strings.Trim at the digits, strings.CutSuffix, strconv.Atoi, What the reader of a policy computes. No condition. -/
import Derived.Test.YtikckhebddimoaaGreatDoorNC

section
/- Contracts: strings.Trim at the digits, strings.CutSuffix, strconv.Atoi. No condition. -/
set_option linter.unusedVariables false
set_option linter.unusedSimpArgs false
open Go Go.Proofs Go.RowKit
namespace Qv
def asciiF (s : Bytes) : List Bool := s.foldl (fun set c => set.set c.toNat true) (List.replicate 256 false)
theorem asciiF_len (s : Bytes) : (asciiF s).length = 256 := by
  unfold asciiF
  have : ∀ (s : Bytes) (set : List Bool), (s.foldl (fun set c => set.set c.toNat true) set).length = set.length := fun s => by
    induction s with
    | nil => intro set; rfl
    | cons c s ih => intro set; rw [List.foldl_cons, ih, List.length_set]
  rw [this, List.length_replicate]
def i157 : TInfo := ⟨256, 256, .array 256 4, List.replicate 256 (.bool false)⟩
section
attribute [local irreducible] evReturn
set_option maxRecDepth 100000 in
set_option maxHeartbeats 2000000 in
theorem asciiSet_ok (s : Bytes) (hs : s.length ≤ 2 ^ 30) (ha : ∀ c, c ∈ s → c.toNat < 128) : CallsTo C 119 [.str s] (fun r => r = .val (.tup [.agg ((asciiF s).map AV.bool), .bool true])) := by
  refine callsTo_of_evO ⟨[], [], false, [], [], []⟩ [8] Tryz.func119 rfl rfl rfl ?_
  refine loopR 21 (fun k : Nat => [(0, .p (.str s)), (2, .ptr 2 0), (4, .p (.int .i64 k))]) (fun k => [(2, encSet (asciiF (s.take k)))]) (fun k => k ≤ s.length) (fun k => s.length - k) 0 (Nat.zero_le _) rfl ⟨Weak.refl _, Weak.refl _, Weak.refl _, trivial⟩ ⟨hasO_one (by kernel_rfl), trivial⟩ ?_
  intro k hk
  have hk : k ≤ s.length := hk
  have hw : IntKind.i64.wrap ((k : Int) + 1) = ((k + 1 : Nat) : Int) := by rw [wrap64 (by omega) (by omega)]; omega
  refine al_dec (fun hlt => ?_) (fun hge => ?_)
  · have hlt : k < s.length := by
      have : (k : Int) < (s.length : Int) := hlt
      omega
    obtain ⟨c, hc⟩ : ∃ c, s[k]? = some c := ⟨_, List.getElem?_eq_getElem hlt⟩
    have hac := ha c (List.mem_of_getElem? hc)
    refine ⟨by omega, c, idx_str rfl hc, ?_⟩
    refine al_dec (fun h => ?_) (fun h => ?_)
    · have h : (c.toNat : Int) ≥ 128 := h
      omega
    · have hcl : c.toNat < (asciiF (s.take k)).length := by rw [asciiF_len]; omega
      have ht : s.take (k + 1) = s.take k ++ [c] := by
        rw [List.take_add_one, hc]; rfl
      have hnx : asciiF (s.take (k + 1)) = (asciiF (s.take k)).set c.toNat true := by
        rw [ht]
        simp [asciiF]
      refine ⟨c.toNat, rfl, by omega, true, _, rfl, ?_⟩
      refine ⟨_, _, _, encSet_split hcl, by rw [encSet_length, List.length_take, Nat.min_eq_left (by omega)]; show c.toNat = 0 + c.toNat * 1; omega, _, encSet_set hcl, ?_⟩
      exact ⟨_, hw, roundR (k + 1) hlt (by show s.length - (k + 1) < s.length - k; omega) rfl ⟨Weak.refl _, Weak.refl _, Weak.refl _, trivial⟩ ⟨hasO_one (by rw [hnx]; rfl), trivial⟩⟩
  · have hge : k = s.length := by
      have : ¬ (k : Int) < (s.length : Int) := hge
      omega
    subst hge
    rw [List.take_length]
    have hl := asciiF_len s
    generalize asciiF s = set at hl ⊢
    have hml : (encSet set).length = i157.size := by rw [encSet_length, hl]; rfl
    refine cutR 21 [(2, .ptr 2 0)] [(2, encSet set)] rfl ⟨Weak.refl _, trivial⟩ ⟨hasO_one rfl, trivial⟩ ?_
    refine evRegion_load (i := i157) _ _ 157 (.tmp 2) 2 (encSet set) rfl rfl rfl rfl rfl rfl rfl rfl hml ?_
    refine evOps_store (i := i157) 157 (.tmp 2) (.tmp 20) 2 (encSet set) (encSet set) rfl rfl rfl rfl rfl rfl hml hml (allOne_bools set) ?_
    refine evReturn_cell (i := i157) 2 157 3 2 (encSet set) (set.map AV.bool) (.bool true) ?_ ?_ ?_ ?_ ?_ ?_ ?_ ?_ ?_ ?_
    · rfl
    · rfl
    · rfl
    · rfl
    · rfl
    · exact hml
    · exact toAVs_mapP _
    · exact encC_all set
    · rfl
    · rfl
end
theorem asciiHas_ok (set : List Bool) (c : UInt8) (hl : set.length = 256) : CallsTo C 148 [.imp (set.map AV.bool), .int .u8 c.toNat] (fun r => r = .val (.bool (set.getD c.toNat false))) := by
  have hc : c.toNat < 256 := c.toNat_lt
  obtain ⟨b, hb⟩ : ∃ b, set[c.toNat]? = some b := ⟨_, List.getElem?_eq_getElem (by omega)⟩
  have hg : set.getD c.toNat false = b := by simp [List.getD, hb]
  refine callsTo_of_ev' Tryz.func148 rfl rfl rfl ?_
  refine ⟨c.toNat, rfl, hc, _, drop_set hb, ?_⟩
  rw [hg]
  exact rfl
def inSet (set : List Bool) (c : UInt8) : Bool := set.getD c.toNat false
theorem trimL_ok (s : Bytes) (set : List Bool) (hl : set.length = 256) : CallsTo C 120 [.str s, .imp (set.map AV.bool)] (fun r => ∃ k, k ≤ s.length ∧ r = .val (.str (s.drop k)) ∧ (∀ i c, i < k → s[i]? = some c → inSet set c = true) ∧ ∀ c, s[k]? = some c → inSet set c = false) := by
  refine callsTo_of_ev' Tryz.func120 rfl rfl rfl ?_
  refine loopR 16 (fun k : Nat => [(0, .p (.str (s.drop k))), (1, .p (.imp (set.map AV.bool)))]) (fun _ => []) (fun k => k ≤ s.length ∧ ∀ i c, i < k → s[i]? = some c → inSet set c = true) (fun k => s.length - k) 0 ⟨Nat.zero_le _, fun i c h => absurd h (by omega)⟩ rfl ⟨Weak.refl _, Weak.refl _, trivial⟩ trivial ?_
  rintro k ⟨hk, hall⟩
  refine al_dec (fun hlt => ?_) (fun hge => ?_)
  · have hlt : k < s.length := by
      have : ((s.drop k).length : Int) > 0 := hlt
      rw [List.length_drop] at this
      omega
    obtain ⟨c, hc⟩ : ∃ c, s[k]? = some c := ⟨_, List.getElem?_eq_getElem hlt⟩
    refine ⟨by omega, c, by show (s.drop k)[0]? = some c; rw [List.getElem?_drop]; exact hc, ?_⟩
    refine ⟨_, asciiHas_ok set c hl, fun r hr => ?_⟩
    subst hr
    refine al_not ?_
    cases hq : set.getD c.toNat false with
    | false =>
      refine ⟨k, hk, rfl, hall, fun d hd => ?_⟩
      rw [hc] at hd
      obtain rfl := Option.some.inj hd
      exact hq
    | true =>
      refine ⟨1, rfl, by rw [List.length_drop]; omega, Nat.le_refl _, s.drop (k + 1), by rw [List.take_length, List.drop_drop], ?_⟩
      refine roundR (k + 1) ⟨hlt, fun i d hi hd => ?_⟩ (by omega) rfl ⟨Weak.refl _, Weak.refl _, trivial⟩ trivial
      by_cases hik : i = k
      · subst hik
        rw [hc] at hd
        obtain rfl := Option.some.inj hd
        exact hq
      · exact hall i d (by omega) hd
  · have hge : k = s.length := by
      have : ¬ ((s.drop k).length : Int) > 0 := hge
      rw [List.length_drop] at this
      omega
    exact ⟨k, hk, rfl, hall, fun c hc => by rw [List.getElem?_eq_none (by omega)] at hc; cases hc⟩
theorem trimR_ok (s : Bytes) (set : List Bool) (hl : set.length = 256) (hs : s.length ≤ 2 ^ 40) : CallsTo C 121 [.str s, .imp (set.map AV.bool)] (fun r => ∃ k, k ≤ s.length ∧ r = .val (.str (s.take k)) ∧ (∀ i c, k ≤ i → s[i]? = some c → inSet set c = true) ∧ ∀ c, 0 < k → s[k - 1]? = some c → inSet set c = false) := by
  refine callsTo_of_ev' Tryz.func121 rfl rfl rfl ?_
  refine loopR 22 (fun k : Nat => [(0, .p (.str (s.take k))), (1, .p (.imp (set.map AV.bool)))]) (fun _ => []) (fun k => k ≤ s.length ∧ ∀ i c, k ≤ i → s[i]? = some c → inSet set c = true) (fun k => k) s.length ⟨Nat.le_refl _, fun i c h h2 => by rw [List.getElem?_eq_none h] at h2; cases h2⟩ rfl ⟨Weak.eq (by rw [List.take_length]; rfl), Weak.refl _, trivial⟩ trivial ?_
  rintro k ⟨hk, hall⟩
  have htl : (s.take k).length = k := by rw [List.length_take, Nat.min_eq_left hk]
  refine al_dec (fun hlt => ?_) (fun hge => ?_)
  · have hlt : 0 < k := by
      have : ((s.take k).length : Int) > 0 := hlt
      rw [htl] at this
      omega
    obtain ⟨c, hc⟩ : ∃ c, s[k - 1]? = some c := ⟨_, List.getElem?_eq_getElem (by omega)⟩
    have hw : IntKind.i64.wrap (((s.take k).length : Int) - 1) = ((k - 1 : Nat) : Int) := by rw [htl, wrap64 (by omega) (by omega)]; omega
    refine ⟨_, hw, by omega, c, by show (s.take k)[k - 1]? = some c; rw [List.getElem?_take, if_pos (by omega)]; exact hc, ?_⟩
    refine ⟨_, asciiHas_ok set c hl, fun r hr => ?_⟩
    subst hr
    refine al_not ?_
    cases hq : set.getD c.toNat false with
    | false =>
      refine ⟨k, hk, rfl, hall, fun d _ hd => ?_⟩
      rw [hc] at hd
      obtain rfl := Option.some.inj hd
      exact hq
    | true =>
      refine ⟨_, hw, k - 1, rfl, Nat.zero_le _, by rw [htl]; omega, s.take (k - 1), by rw [List.drop_zero, List.take_take, Nat.min_eq_left (by omega)], ?_⟩
      refine roundR (k - 1) ⟨by omega, fun i d hi hd => ?_⟩ (by omega) rfl ⟨Weak.refl _, Weak.refl _, trivial⟩ trivial
      by_cases hik : i = k - 1
      · subst hik
        rw [hc] at hd
        obtain rfl := Option.some.inj hd
        exact hq
      · exact hall i d (by omega) hd
  · have hge : k = 0 := by
      have : ¬ ((s.take k).length : Int) > 0 := hge
      rw [htl] at this
      omega
    exact ⟨k, hk, rfl, hall, fun c h => absurd h (by omega)⟩
def dgBytes : Bytes := [48, 49, 50, 51, 52, 53, 54, 55, 56, 57]
theorem dg_set : asciiF dgBytes = (List.range 256).map fun i => decide (48 ≤ i) && decide (i ≤ 57) := by decide +kernel
theorem dg_in (c : UInt8) : inSet (asciiF dgBytes) c = isDg c := by
  have : c.toNat < 256 := c.toNat_lt
  rw [inSet, dg_set]
  simp [List.getD, this, isDg]
set_option maxRecDepth 100000 in
set_option maxHeartbeats 2000000 in
theorem trimDg_ok (s : Bytes) (hs : s.length ≤ 2 ^ 30) : CallsTo C 91 [.str s, .str dgBytes] (fun r => ∃ u, r = .val (.str u) ∧ (u = [] ↔ s.all isDg = true)) := by
  refine callsTo_of_ev' Tryz.func91 rfl rfl rfl ?_
  refine ⟨none, ?_⟩
  refine al_eq (fun h => ?_) (fun h => ?_)
  · have h : s = [] := h
    subst h
    exact ⟨[], rfl, by simp⟩
  refine al_eq (fun h2 => absurd h2 (by decide)) (fun _ => ?_)
  refine ⟨none, ?_⟩
  refine al_eq (fun h2 => absurd h2 (by decide)) (fun _ => ?_)
  refine ⟨_, asciiSet_ok dgBytes (by decide) (by decide), ?_⟩
  rintro r rfl
  have hl := asciiF_len dgBytes
  have hin := dg_in
  generalize asciiF dgBytes = set at hl hin ⊢
  have hml : (encSet set).length = 256 := by rw [encSet_length, hl]
  refine gotK_val ?_
  refine evOps_step (.p (.tup [.agg (set.map AV.bool), .bool true])) rfl (fun _ h => h) ?_
  refine evOps_step (.p (.agg (set.map AV.bool))) rfl (fun _ h => h) ?_
  refine evOps_step (.p (.bool true)) rfl (fun _ h => h) ?_
  refine evOps_alloc 157 5 5 (encSet (List.replicate 256 false)) rfl rfl rfl rfl rfl rfl rfl (by kernel_rfl) ?_
  refine evOps_storeP 157 (.tmp 5) (.tmp 32) 5 0 (encSet set) (encSet (List.replicate 256 false)) (encSet set) rfl rfl rfl rfl rfl rfl hml (allOne_bools set) (setRange_all _ _ (by rw [encSet_length, List.length_replicate, hml])) ?_
  refine .inr (.inr (.inr ⟨5, set.map AV.bool, toAVs_mapP _, allOne_set set, _, trimR_ok s set hl (by omega), ?_⟩))
  rintro r ⟨k, hk, rfl, hR1, hR2⟩
  refine ⟨_, trimL_ok (s.take k) set hl, ?_⟩
  rintro r ⟨j, hj, rfl, hL1, hL2⟩
  refine ⟨_, rfl, fun hu => ?_, fun hd => ?_⟩
  · rw [List.all_eq_true]
    intro c hc
    obtain ⟨i, hi⟩ := List.getElem?_of_mem hc
    have hlen := congrArg List.length hu
    simp only [List.length_drop, List.length_take, List.length_nil] at hlen
    by_cases hik : k ≤ i
    · rw [← hin]; exact hR1 i c hik hi
    · rw [← hin]
      have h2 : (s.take k)[i]? = some c := by rw [List.getElem?_take, if_pos (by omega)]; exact hi
      exact hL1 i c (by omega) h2
  · have hk0 : k = 0 := by
      apply Classical.byContradiction
      intro hne
      obtain ⟨c, hc⟩ : ∃ c, s[k - 1]? = some c := ⟨_, List.getElem?_eq_getElem (by omega)⟩
      have h2 := hR2 c (by omega) hc
      rw [hin] at h2
      have h3 := List.all_eq_true.1 hd c (List.mem_of_getElem? hc)
      rw [h2] at h3
      cases h3
    subst hk0
    simp
theorem cutS_ok (s p : Bytes) (hs : s.length ≤ 9223372036854775807) : CallsTo C 93 [.str s, .str p] (fun r => r = .val (.tup [.str (Lib.trimSuffix s p), .bool (Lib.hasSuffix s p)])) := by
  refine ⟨⟨_, Tryz.func93, rfl, rfl⟩, fun imm w vs hJ hn hi hl hr => ?_⟩
  match vs, hl with
  | [v0, v1], _ =>
  have h := hr 0 v0 _ rfl rfl
  have h' := hr 1 v1 _ rfl rfl
  obtain rfl : v0 = .string ⟨s.toArray⟩ := by cases h; rfl
  obtain rfl : v1 = .string ⟨p.toArray⟩ := by cases h'; rfl
  refine (Tryz.strings_CutSuffix ⟨s.toArray⟩ ⟨p.toArray⟩ w (by rw [Lib.size_eq]; exact hs)).mono ?_
  rintro e w' ⟨rfl, rfl⟩
  refine ⟨_, _, rfl, rfl, ?_, Below.refl _ _⟩
  refine .tup [_, _] [_, _] rfl fun i c x h1 h2 => ?_
  match i, h1, h2 with
  | 0, h1, h2 => cases h1; cases h2; exact .str _
  | 1, h1, h2 => cases h1; cases h2; exact .bool _
theorem below_bytes (w : World) (t : ByteArray) : Below w.heap.size w (Lib.bytesWorld w 5 t) :=
  ⟨by unfold Lib.bytesWorld World.freeze; split <;> rfl, by unfold Lib.bytesWorld World.freeze; split <;> rfl, by unfold Lib.bytesWorld World.freeze; split <;> rfl, by rw [Lib.bytesWorld_size]; omega, fun i hi => Lib.bytesWorld_at_old w 5 t i hi⟩
def atoiV (s : Bytes) : Option Int := match Lib.atoiAll s with
  | .ok v => some v
  | _ => none
theorem atoi_ok (s : Bytes) (hs : s.length ≤ 281474976710656) : CallsTo C 92 [.str s] (fun r => (∃ v, atoiV s = some v ∧ r = .val (.tup [.int .i64 v, .nili])) ∨ atoiV s = none ∧ ∃ n, r = .val (.tup [.int .i64 n, .iface 186 (.imp [])])) := by
  refine ⟨⟨_, Tryz.func92, rfl, rfl⟩, fun imm w vs hJ hn hi hl hr => ?_⟩
  match vs, hl with
  | [v0], _ =>
  have h := hr 0 v0 _ rfl rfl
  obtain rfl : v0 = .string ⟨s.toArray⟩ := by cases h; rfl
  obtain ⟨-, -, ⟨t1, p1, h1⟩, ⟨t2, p2, h2⟩⟩ := hJ
  have hsz : (⟨s.toArray⟩ : ByteArray).size ≤ 281474976710656 := by rw [Lib.size_eq]; exact hs
  have bad : ∀ (n : Int) (N : Nat) (w' : World), Below w.heap.size w w' → atoiV s = none →
      ∃ v r, Ending.returned (.tuple #[.int .i64 n, .iface 186 (.pointer (some ⟨N, 0, none⟩))]) = Ending.returned v ∧ ((∃ v, atoiV s = some v ∧ r = .val (.tup [.int .i64 v, .nili])) ∨ atoiV s = none ∧ ∃ n, r = .val (.tup [.int .i64 n, .iface 186 (.imp [])])) ∧ RetOK imm w.heap.size w' v r ∧ Below w.heap.size w w' := fun n N w' hb hn => by
    refine ⟨_, .val (.tup [.int .i64 n, .iface 186 (.imp [])]), rfl, .inr ⟨hn, n, rfl⟩, ?_, hb⟩
    refine .tup [_, _] [_, _] rfl fun i c x h1 h2 => ?_
    match i, h1, h2 with
    | 0, h1, h2 => cases h1; cases h2; exact .int _ _
    | 1, h1, h2 =>
      cases h1; cases h2
      exact .iface _ _ _ (.imp N 0 [] (fun _ => undef) (fun j y h => by simp at h) (fun j y h => by simp at h) (fun j y h => by simp at h) (fun j y h => by simp at h))
  cases hA : Lib.atoiAll s
  · rename_i v
    have hv : atoiV s = some v := by unfold atoiV; rw [hA]
    refine (Tryz.strconv_Atoi_ok ⟨s.toArray⟩ (by omega) v hA w).mono ?_
    rintro e w' ⟨rfl, hw⟩
    have hb : Below w.heap.size w w' := by
      rcases hw with rfl | ⟨t, rfl⟩
      · exact Below.refl _ _
      · exact below_bytes w t
    refine ⟨_, _, rfl, .inl ⟨v, hv, rfl⟩, ?_, hb⟩
    refine .tup [_, _] [_, _] rfl fun i c x h1 h2 => ?_
    match i, h1, h2 with
    | 0, h1, h2 => cases h1; cases h2; exact .int _ _
    | 1, h1, h2 => cases h1; cases h2; exact .nili
  · have hv : atoiV s = none := by unfold atoiV; rw [hA]
    refine (Any.strconv_Atoi_syntax_var Tryz.laysC172 ⟨s.toArray⟩ hsz hA t1 p1 w h1).mono ?_
    rintro e w' ⟨N, rfl, -, -, hb⟩
    exact bad _ N w' hb hv
  · have hv : atoiV s = none := by unfold atoiV; rw [hA]
    refine (Tryz.strconv_Atoi_range_var ⟨s.toArray⟩ hsz hA t2 p2 w h2).mono ?_
    rintro e w' ⟨N, rfl, -, -, hb⟩
    exact bad _ N w' hb hv
def numA (acc : Nat) (l : Bytes) : Nat := l.foldl (fun n c => 10 * n + (c.toNat - 48)) acc
theorem numA_ge : ∀ (l : Bytes) (acc : Nat), acc ≤ numA acc l
  | [], acc => Nat.le_refl _
  | c :: l, acc => by
    have := numA_ge l (10 * acc + (c.toNat - 48))
    show acc ≤ numA (10 * acc + (c.toNat - 48)) l
    omega
theorem parse_dg : ∀ (l : Bytes) (acc : Nat), l.all isDg = true → Lib.parseUint10 acc l = .ok (numA acc l) ∨ (Lib.parseUint10 acc l = .range ∧ 1844674407370955162 ≤ numA acc l)
  | [], acc, _ => .inl rfl
  | c :: l, acc, h => by
    simp only [List.all_cons, Bool.and_eq_true] at h
    have hc := h.1
    simp only [isDg, Bool.and_eq_true, decide_eq_true_eq] at hc
    have hge := numA_ge (c :: l) acc
    have hge2 := numA_ge l (10 * acc + (c.toNat - 48))
    have hst : numA acc (c :: l) = numA (10 * acc + (c.toNat - 48)) l := rfl
    unfold Lib.parseUint10
    rw [if_pos hc]
    split
    · exact .inr ⟨rfl, by omega⟩
    · split
      · exact .inr ⟨rfl, by omega⟩
      · have := parse_dg l (acc * 10 + (c.toNat - 48)) h.2
        rw [show acc * 10 + (c.toNat - 48) = 10 * acc + (c.toNat - 48) from by omega] at this ⊢
        rw [hst]
        exact this
theorem atoi_dg {s : Bytes} (hn : s ≠ []) (hd : s.all isDg = true) : atoiV s = some (numV s : Int) ∨ (atoiV s = none ∧ 100 < numV s) := by
  match s, hn, hd with
  | c :: r, _, hd =>
    have hc : isDg c = true := by
      simp only [List.all_cons, Bool.and_eq_true] at hd
      exact hd.1
    simp only [isDg, Bool.and_eq_true, decide_eq_true_eq] at hc
    have hp := parse_dg (c :: r) 0 hd
    have hnum : numV (c :: r) = numA 0 (c :: r) := rfl
    unfold atoiV Lib.atoiAll
    simp only
    rw [if_neg (by omega)]
    unfold Lib.parseMag
    rw [if_neg (by simp)]
    rcases hp with hp | ⟨hp, hb⟩
    · rw [hp]
      simp only
      by_cases hbig : 9223372036854775808 ≤ numA 0 (c :: r)
      · rw [if_pos ⟨by omega, hbig⟩]
        exact .inr ⟨rfl, by omega⟩
      · rw [if_neg (fun h => hbig h.2), if_neg (fun h => by omega), if_neg (by omega), hnum]
        exact .inl rfl
    · rw [hp]
      exact .inr ⟨rfl, by omega⟩
end Qv

end

section
/- What the reader of a policy computes. No condition. -/
set_option linter.unusedVariables false
set_option linter.unusedSimpArgs false
open Go Go.Proofs Go.RowKit
namespace Qv
structure PS where
  groups : List Group
  rules : List Rule
  votes : Int
  voted : Bool
  lines : List Nat
def PS.pol (st : PS) : Access := ⟨st.groups, st.rules, st.votes⟩
def ps0 : PS := ⟨[], [], 0, false, []⟩
def emptyA : Access := ⟨[], [], 0⟩
def wVotes : Bytes := [118, 111, 116, 101, 115]
def wGroup : Bytes := [103, 114, 111, 117, 112]
def wAllow : Bytes := [97, 108, 108, 111, 119]
def wDeny : Bytes := [100, 101, 110, 121]
def nth (w : List Bytes) (i : Nat) : Bytes := (w[i]?).getD []
theorem nth_eq {w : List Bytes} {i : Nat} (h : i < w.length) : nth w i = w[i] := by simp [nth, h]
def votesS (st : PS) (w : List Bytes) : Int × PS :=
  if w.length ≠ 2 then (3, st) else if numOK (nth w 1) = false then (3, st) else if st.voted = true then (6, st) else if 100 < numV (nth w 1) then (2, st) else (0, { st with votes := numV (nth w 1), voted := true })
def colonF (s : Bytes) : Bool := decide (s.getLast? = some 58)
def groupS (st : PS) (w : List Bytes) : Int × PS :=
  if w.length < 2 then (3, st) else if colonF (nth w 1) = false then (3, st) else if nameF (nth w 1).dropLast = false then (5, st) else if 0 ≤ findG st.groups (nth w 1).dropLast then (6, st)
  else if 100 ≤ st.groups.length then (4, st) else if membersF (w.drop 2) ≠ 0 then (membersF (w.drop 2), st) else (0, { st with groups := st.groups ++ [⟨(nth w 1).dropLast, w.drop 2⟩] })
def ruleOf (w : List Bytes) : Rule := ⟨nth w 0 == wAllow, nth w 1, kindF (nth w 2), nth w 3, nth w 4⟩
def ruleS (st : PS) (w : List Bytes) (n : Nat) : Int × PS :=
  if w.length ≠ 5 then (3, st) else if 100 ≤ st.rules.length then (4, st) else if isWhoF (nth w 1) = false then (5, st) else if kindF (nth w 2) = 0 then (8, st)
  else if checkGlobF (nth w 3) ≠ 0 then (checkGlobF (nth w 3), st) else if checkGlobF (nth w 4) ≠ 0 then (checkGlobF (nth w 4), st)
  else (0, { st with rules := st.rules ++ [ruleOf w], lines := st.lines ++ [n] })
def stepS (st : PS) (w : List Bytes) (n : Nat) : Int × PS :=
  if nth w 0 = wVotes then votesS st w else if nth w 0 = wGroup then groupS st w else if nth w 0 = wAllow ∨ nth w 0 = wDeny then ruleS st w n else (3, st)
def idleF (w : List Bytes) : Bool := decide (w = []) || decide ((nth w 0).head? = some 35)
def lineS (st : PS) (l : Bytes) (n : Nat) : Int × PS := if idleF (wordsF l) = true then (0, st) else stepS st (wordsF l) n
def linesF : List Bytes → Nat → PS → Sum (Nat × Int) PS
  | [], _, st => .inr st
  | l :: r, n, st => if (lineS st l (n + 1)).1 ≠ 0 then .inl (n + 1, (lineS st l (n + 1)).1) else linesF r (n + 1) (lineS st l (n + 1)).2
def lateE (gs : List Group) (r : Rule) : Bool := isGrp r.who && decide (findG gs (r.who.drop 1) < 0)
def endS (st : PS) : Access × Nat × Int := match st.rules.findIdx? (lateE st.groups) with
  | some i => (emptyA, (st.lines[i]?).getD 0, 7)
  | none => (st.pol, 0, 0)
def parseA (s : Bytes) : Access × Nat × Int := match linesF (parts 10 s) 0 ps0 with
  | .inl (n, e) => (emptyA, n, e)
  | .inr st => endS st
def encRes (x : Access × Nat × Int) : AV := .tup [.agg (encAccess x.1), .int .i64 x.2.1, .int .i64 x.2.2]
structure PSInv (B : Nat) (st : PS) : Prop where
  gl : st.groups.length ≤ 100
  rl : st.rules.length ≤ 100
  ll : st.lines.length = st.rules.length
  groups : ∀ i g, st.groups[i]? = some g → groupE st.groups i g = 0
  gsize : ∀ g, g ∈ st.groups → g.name.length ≤ B ∧ g.members.length ≤ B ∧ ∀ m, m ∈ g.members → m.length ≤ B
  rules : ∀ r, r ∈ st.rules → isWhoF r.who = true ∧ (1 ≤ r.right ∧ r.right ≤ 4) ∧ checkGlobF r.ref = 0 ∧ checkGlobF r.path = 0
  rsize : ∀ r, r ∈ st.rules → r.who.length ≤ B ∧ r.ref.length ≤ B ∧ r.path.length ≤ B
  votes : 0 ≤ st.votes ∧ st.votes ≤ 100
theorem PSInv.zero (B : Nat) : PSInv B ps0 :=
  ⟨by simp [ps0], by simp [ps0], rfl, fun i g h => by simp [ps0] at h, fun g h => by simp [ps0] at h, fun r h => by simp [ps0] at h, fun r h => by simp [ps0] at h, by simp [ps0]⟩
theorem groupE_app {gs : List Group} {i : Nat} {g h : Group} (hi : i ≤ gs.length) : groupE (gs ++ [h]) i g = groupE gs i g := by
  unfold groupE
  rw [List.take_append_of_le_length hi]
theorem kindF_le (w : Bytes) : kindF w ≤ 4 := by
  unfold kindF
  repeat' split
  all_goals omega
theorem stepS_inv {B : Nat} {st : PS} {w : List Bytes} {n : Nat} (h : PSInv B st) (hw : ∀ x, x ∈ w → x.length ≤ B) (hwl : w.length ≤ B) : PSInv B (stepS st w n).2 := by
  have hn : ∀ i, (nth w i).length ≤ B := fun i => by
    unfold nth
    cases hq : w[i]? with
    | none => simp
    | some x => exact hw x (List.mem_of_getElem? hq)
  unfold stepS
  split
  · unfold votesS
    repeat' split
    all_goals first
      | exact h
      | (rename_i h4; exact ⟨h.gl, h.rl, h.ll, h.groups, h.gsize, h.rules, h.rsize, by show (0 : Int) ≤ (numV (nth w 1) : Int) ∧ (numV (nth w 1) : Int) ≤ 100; omega⟩)
  split
  · unfold groupS
    by_cases h1 : w.length < 2
    · rw [if_pos h1]; exact h
    rw [if_neg h1]
    by_cases h2 : colonF (nth w 1) = false
    · rw [if_pos h2]; exact h
    rw [if_neg h2]
    by_cases h3 : nameF (nth w 1).dropLast = false
    · rw [if_pos h3]; exact h
    rw [if_neg h3]
    by_cases h4 : 0 ≤ findG st.groups (nth w 1).dropLast
    · rw [if_pos h4]; exact h
    rw [if_neg h4]
    by_cases h5 : 100 ≤ st.groups.length
    · rw [if_pos h5]; exact h
    rw [if_neg h5]
    by_cases h6 : membersF (w.drop 2) ≠ 0
    · rw [if_pos h6]; exact h
    rw [if_neg h6]
    refine ⟨by show (st.groups ++ [_]).length ≤ 100; simp; omega, h.rl, h.ll, fun i g hi => ?_, fun g hg => ?_, h.rules, h.rsize, h.votes⟩
    · have hi : (st.groups ++ [⟨(nth w 1).dropLast, w.drop 2⟩])[i]? = some g := hi
      show groupE (st.groups ++ [_]) i g = 0
      have hil : i < (st.groups ++ [(⟨(nth w 1).dropLast, w.drop 2⟩ : Group)]).length := (List.getElem?_eq_some_iff.1 hi).1
      rw [List.length_append] at hil
      have hil : i < st.groups.length + 1 := hil
      rw [groupE_app (by omega)]
      by_cases hlt : i < st.groups.length
      · rw [List.getElem?_append_left hlt] at hi
        exact h.groups i g hi
      · obtain rfl : i = st.groups.length := by omega
        rw [List.getElem?_append_right (Nat.le_refl _), Nat.sub_self] at hi
        obtain rfl := Option.some.inj hi
        unfold groupE
        rw [List.take_length]
        rw [if_neg h3, if_neg h4]
        exact Decidable.not_not.1 h6
    · have hg : g ∈ st.groups ++ [(⟨(nth w 1).dropLast, w.drop 2⟩ : Group)] := hg
      rcases List.mem_append.1 hg with hg | hg
      · exact h.gsize g hg
      · rw [List.mem_singleton.1 hg]
        refine ⟨?_, ?_, fun m hm => hw m (List.mem_of_mem_drop hm)⟩
        · have := hn 1
          show (nth w 1).dropLast.length ≤ B
          rw [List.length_dropLast]
          omega
        · show (w.drop 2).length ≤ B
          rw [List.length_drop]
          omega
  split
  · unfold ruleS
    by_cases h1 : w.length ≠ 5
    · rw [if_pos h1]; exact h
    rw [if_neg h1]
    by_cases h2 : 100 ≤ st.rules.length
    · rw [if_pos h2]; exact h
    rw [if_neg h2]
    by_cases h3 : isWhoF (nth w 1) = false
    · rw [if_pos h3]; exact h
    rw [if_neg h3]
    by_cases h4 : kindF (nth w 2) = 0
    · rw [if_pos h4]; exact h
    rw [if_neg h4]
    by_cases h5 : checkGlobF (nth w 3) ≠ 0
    · rw [if_pos h5]; exact h
    rw [if_neg h5]
    by_cases h6 : checkGlobF (nth w 4) ≠ 0
    · rw [if_pos h6]; exact h
    rw [if_neg h6]
    have hk := kindF_le (nth w 2)
    refine ⟨h.gl, by show (st.rules ++ [_]).length ≤ 100; simp; omega, ?_, h.groups, h.gsize, fun r hr => ?_, fun r hr => ?_, h.votes⟩
    · show (st.lines ++ [n]).length = (st.rules ++ [ruleOf w]).length
      rw [List.length_append, List.length_append, h.ll]
      rfl
    · have hr : r ∈ st.rules ++ [ruleOf w] := hr
      rcases List.mem_append.1 hr with hr | hr
      · exact h.rules r hr
      · rw [List.mem_singleton.1 hr]
        refine ⟨?_, ?_, Decidable.not_not.1 h5, Decidable.not_not.1 h6⟩
        · show isWhoF (nth w 1) = true
          cases hq : isWhoF (nth w 1) with
          | true => rfl
          | false => exact absurd hq h3
        · show (1 : Int) ≤ (kindF (nth w 2) : Int) ∧ (kindF (nth w 2) : Int) ≤ 4
          omega
    · have hr : r ∈ st.rules ++ [ruleOf w] := hr
      rcases List.mem_append.1 hr with hr | hr
      · exact h.rsize r hr
      · rw [List.mem_singleton.1 hr]
        exact ⟨hn 1, hn 3, hn 4⟩
  · exact h
theorem words_mem {l w : Bytes} (h : w ∈ wordsF l) : w ≠ [] ∧ w.length ≤ l.length := by
  unfold wordsF at h
  rw [List.mem_filter] at h
  exact ⟨by simpa using h.2, parts_mem 32 l w h.1⟩
theorem words_len (l : Bytes) : (wordsF l).length ≤ l.length + 1 := by
  unfold wordsF
  exact Nat.le_trans (List.length_filter_le _ _) (parts_length 32 l)
theorem lineS_inv {B : Nat} {st : PS} {l : Bytes} {n : Nat} (h : PSInv B st) (hl : l.length + 1 ≤ B) : PSInv B (lineS st l n).2 := by
  unfold lineS
  split
  · exact h
  · exact stepS_inv h (fun x hx => by have := (words_mem hx).2; omega) (by have := words_len l; omega)
end Qv

end
