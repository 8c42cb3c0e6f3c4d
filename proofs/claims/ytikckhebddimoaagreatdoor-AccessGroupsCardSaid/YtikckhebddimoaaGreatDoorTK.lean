/- The law AccessGroups as a contract. No condition. -/
import Derived.Test.YtikckhebddimoaaGreatDoorTI
set_option linter.unusedVariables false
set_option linter.unusedSimpArgs false
open Go Go.Proofs Go.RowKit
namespace Qv
theorem fineA_wr' {a : Access} {l : List Rule} (h : FineA a) (hl : l.length ≤ 2 ^ 40) (hr : ∀ r, r ∈ l → r.who.length ≤ 2 ^ 50 ∧ r.ref.length ≤ 2 ^ 29 ∧ r.path.length ≤ 2 ^ 29) : FineA (a.wr l) :=
  ⟨h.gl, hl, h.names, hr⟩
theorem membersOf_step {gs : List Group} {n : Bytes} {k : Nat} (h : k < gs.length) : membersOf (gs.take (k + 1)) n = membersOf (gs.take k) n ++ if gs[k].name = n then gs[k].members else [] := by
  unfold membersOf
  rw [List.take_add_one, List.getElem?_eq_getElem h, List.filter_append, List.flatMap_append]
  congr 1
  show (([gs[k]].filter fun g => g.name == n)).flatMap Group.members = _
  by_cases hn : gs[k].name = n
  · rw [if_pos hn, List.filter_cons_of_pos (by simpa using hn)]
    simp
  · rw [if_neg hn, List.filter_cons_of_neg (by simpa using hn)]
    rfl
theorem membersOf_len {n : Bytes} : ∀ {gs : List Group}, (∀ g, g ∈ gs → g.members.length ≤ 6) → (membersOf gs n).length ≤ 6 * gs.length
  | [], _ => by simp [membersOf]
  | g :: gs, h => by
    have h1 := h g List.mem_cons_self
    have h2 := membersOf_len (n := n) (gs := gs) fun x hx => h x (List.mem_cons_of_mem _ hx)
    unfold membersOf at h2 ⊢
    rw [List.length_cons]
    by_cases hn : (g.name == n) = true
    · rw [List.filter_cons_of_pos (p := fun g : Group => g.name == n) hn, List.flatMap_cons, List.length_append]
      omega
    · rw [List.filter_cons_of_neg (p := fun g : Group => g.name == n) hn]
      omega
theorem membersOf_mem {n m : Bytes} {gs : List Group} (h : m ∈ membersOf gs n) : ∃ g, g ∈ gs ∧ m ∈ g.members := by
  unfold membersOf at h
  obtain ⟨g, hg, hm⟩ := List.mem_flatMap.1 h
  exact ⟨g, (List.mem_filter.1 hg).1, hm⟩
theorem tmod_nat (n L : Nat) : ((n : Int)).tmod (L : Int) = ((n % L : Nat) : Int) := (Int.ofNat_tmod n L).symm
set_option maxRecDepth 100000 in
set_option maxHeartbeats 4000000 in
theorem groups_law_ok (a : Access) (q : Quest) (n : Nat) (hn : n < 256) (hs : SzA a) : CallsTo C 6 [.agg (encAccess a), .agg (encQ q), .int .u8 n] (fun r => r = .val (.bool true)) := by
  refine callsTo_of_ev' Tryz.func6 rfl rfl rfl ?_
  refine ⟨none, ?_⟩
  refine ⟨_, fine_ok a q hs, fun r hr => ?_⟩
  subst hr
  refine al_not ?_
  cases hfi : fineF a q with
  | false =>
    refine ⟨_, awake_ok, fun r hr => ?_⟩
    subst hr
    exact rfl
  | true =>
  obtain ⟨ht, hck, hb, hp⟩ := fineQ_of hfi
  have hf := fineA_of hs ht
  have hrl := ht.rl
  have hgl := ht.gl
  have hlen : ((a.rules.map encRule).length : Int) = (a.rules.length : Int) := by simp
  refine al_eq (fun h0 => ?_) (fun h0 => ?_)
  · refine ⟨_, awake_ok, fun r hr => ?_⟩
    subst hr
    exact rfl
  have h0 : 0 < a.rules.length := by
    have : ¬ ((a.rules.map encRule).length : Int) = 0 := h0
    omega
  have hi : n % a.rules.length < a.rules.length := Nat.mod_lt _ h0
  refine ⟨_, wrap64 (by omega) (by omega), ?_⟩
  refine ⟨by rw [hlen]; omega, ((n % a.rules.length : Nat) : Int), by rw [hlen]; exact tmod_nat _ _, ?_⟩
  generalize n % a.rules.length = i at hi ⊢
  have hxi : a.rules[i]? = some a.rules[i] := List.getElem?_eq_getElem hi
  have ix : (a.rules.map encRule)[((i : Nat) : Int).toNat]? = some (encRule a.rules[i]) := idx_map (f := encRule) rfl hi
  generalize a.rules[i] = x at hxi ix
  refine ⟨by omega, [.bool x.flag, .str x.who, .int .i64 x.right, .str x.ref, .str x.path], ix, rfl, ?_⟩
  refine ⟨none, ?_⟩
  refine al_eq (fun he => ?_) (fun he => ?_)
  · refine ⟨_, awake_ok, fun r hr => ?_⟩
    subst hr
    exact rfl
  have he : x.who ≠ [] := he
  obtain ⟨c, hc⟩ : ∃ c, x.who[0]? = some c := by
    cases hq : x.who with
    | nil => exact absurd hq he
    | cons c r => exact ⟨c, rfl⟩
  refine ⟨by omega, c, hc, ?_⟩
  refine al_ne (fun h64 => ?_) (fun h64 => ?_)
  · refine ⟨_, awake_ok, fun r hr => ?_⟩
    subst hr
    exact rfl
  have h64 : c = 64 := u8_eq h64
  have hat : atF x.who = true := by
    cases hq : x.who with
    | nil => exact absurd hq he
    | cons d r =>
      rw [hq] at hc
      have : d = c := Option.some.inj hc
      rw [this, h64]
      rfl
  have hwl : 1 ≤ x.who.length := by
    cases hq : x.who with
    | nil => exact absurd hq he
    | cons d r => simp
  have hmo := membersOf_len (n := x.who.drop 1) ht.members
  obtain ⟨law1, law2⟩ := groups_law hck hxi hat (by omega)
  have hall : ∀ l : List Rule, ∀ zs, zs ∈ l.map encRule → zs.length = 5 := fun l => all_enc (f := encRule) (n := 5) (fun _ => rfl) l
  have hrx := hf.rules x (List.mem_of_getElem? hxi)
  refine ⟨i, rfl, Nat.zero_le _, by rw [List.length_map]; omega, hall _, (a.rules.take i).map encRule, by rw [List.drop_zero, List.map_take], ?_⟩
  refine ⟨(fun zs hz => by cases hz), hall _, ?_, (a.rules.take i).map encRule, rfl, ?_⟩
  · show (0 + ((a.rules.take i).map encRule).length) * 64 ≤ 140737488355328
    rw [List.length_map, List.length_take]
    omega
  refine loopR 107 (fun y : Nat × List Rule => [(3, .ptr 3 0), (4, .ptr 4 0), (7, .p (.int .i64 i)), (8, .ptr 8 0), (9, .tip 48 33 5 (y.2.map encRule)), (55, .p (encGroups a.groups)), (56, .p (.int .i64 (a.groups.map encGroup).length)), (57, .p (.int .i64 y.1))]) (fun _ => [(3, mapP (encAccess a)), (4, mapP (encQ q)), (8, mapP (encRule x))])
    (fun y => y.1 ≤ a.groups.length ∧ y.2 = a.rules.take i ++ forAll x (membersOf (a.groups.take y.1) (x.who.drop 1))) (fun y => a.groups.length - y.1) (0, a.rules.take i)
    ⟨Nat.zero_le _, by simp [membersOf, forAll]⟩ rfl ⟨Weak.refl _, Weak.refl _, Weak.refl _, Weak.refl _, Weak.refl _, Weak.refl _, Weak.refl _, Weak.refl _, trivial⟩ ⟨hasO_one rfl, hasO_one rfl, hasO_one rfl, trivial⟩ ?_
  rintro ⟨k, out⟩ ⟨hk, hout⟩
  have hk : k ≤ a.groups.length := hk
  have hout : out = a.rules.take i ++ forAll x (membersOf (a.groups.take k) (x.who.drop 1)) := hout
  have houtl : out.length ≤ 50 := by
    have := membersOf_len (n := x.who.drop 1) (gs := a.groups.take k) fun g hg => ht.members g (List.mem_of_mem_take hg)
    rw [List.length_take] at this
    rw [hout, List.length_append, List.length_take, forAll, List.length_map]
    omega
  have hw : IntKind.i64.wrap ((k : Int) + 1) = ((k + 1 : Nat) : Int) := by rw [wrap64 (by omega) (by omega)]; omega
  refine al_lt (fun hlt => ?_) (fun hge => ?_)
  · have hlt : k < a.groups.length := hlt
    have hstep := membersOf_step (n := x.who.drop 1) hlt
    have hmk := ht.members _ (List.getElem_mem hlt)
    have ig : (a.groups.map encGroup)[((k : Nat) : Int).toNat]? = some (encGroup a.groups[k]) := idx_map (f := encGroup) rfl hlt
    generalize a.groups[k] = g at hstep hmk ig
    refine ⟨by omega, [.str g.name, encS g.members], ig, rfl, ?_⟩
    by_cases hnm : g.name = x.who.drop 1
    case neg =>
      rw [if_neg hnm, List.append_nil] at hstep
      refine ⟨.lex 6, by kernel_rfl, ?_⟩
      refine ⟨_, rfl, ?_⟩
      refine ⟨_, rfl, ?_⟩
      refine ⟨_, rfl, ?_⟩
      refine ⟨_, rfl, ?_⟩
      refine ⟨.p (.str (x.who.drop 1)), ⟨1, rfl, hwl, Nat.le_refl _, _, take_all x.who 1, rfl⟩, ?_⟩
      refine ⟨.p (.bool true), ⟨fun t ht => by rw [ht, beq_eq_false_iff_ne.2 hnm]; rfl⟩, ?_⟩
      exact ⟨_, hw, roundR (k + 1, out) ⟨hlt, by rw [hout]; show _ = a.rules.take i ++ forAll x (membersOf (a.groups.take (k + 1)) (x.who.drop 1)); rw [hstep]⟩ (by show a.groups.length - (k + 1) < a.groups.length - k; omega) rfl ⟨Weak.refl _, Weak.refl _, Weak.refl _, Weak.refl _, Weak.refl _, Weak.refl _, Weak.refl _, Weak.refl _, trivial⟩ ⟨hasO_one rfl, hasO_one rfl, hasO_one rfl, trivial⟩⟩
    case pos =>
    rw [if_pos hnm] at hstep
    refine ⟨.lex 6, by kernel_rfl, ?_⟩
    refine ⟨_, rfl, ?_⟩
    refine ⟨_, rfl, ?_⟩
    refine ⟨_, rfl, ?_⟩
    refine ⟨_, rfl, ?_⟩
    refine ⟨.p (.str (x.who.drop 1)), ⟨1, rfl, hwl, Nat.le_refl _, _, take_all x.who 1, rfl⟩, ?_⟩
    refine ⟨.p (.bool false), ⟨fun t ht => by rw [ht, beq_iff_eq.2 hnm]; rfl⟩, ?_⟩
    refine loopR 107 (fun y : Nat × List Rule => [(3, .ptr 3 0), (4, .ptr 4 0), (7, .p (.int .i64 i)), (8, .ptr 8 0), (9, .tip 48 33 5 (y.2.map encRule)), (55, .p (encGroups a.groups)), (56, .p (.int .i64 (a.groups.map encGroup).length)), (57, .p (.int .i64 k)), (68, .p (encS g.members)), (69, .p (.int .i64 (g.members.map enc1).length)), (70, .p (.int .i64 y.1))]) (fun _ => [(3, mapP (encAccess a)), (4, mapP (encQ q)), (8, mapP (encRule x))])
      (fun y => y.1 ≤ g.members.length ∧ y.2 = out ++ forAll x (g.members.take y.1)) (fun y => g.members.length - y.1) (0, out)
      ⟨Nat.zero_le _, by simp [forAll]⟩ rfl ⟨Weak.refl _, Weak.refl _, Weak.refl _, Weak.refl _, Weak.refl _, Weak.refl _, Weak.refl _, Weak.refl _, Weak.refl _, Weak.refl _, Weak.refl _, trivial⟩ ⟨hasO_one rfl, hasO_one rfl, hasO_one rfl, trivial⟩ ?_
    rintro ⟨j, o2⟩ ⟨hj, ho2⟩
    have hj : j ≤ g.members.length := hj
    have ho2 : o2 = out ++ forAll x (g.members.take j) := ho2
    have ho2l : o2.length ≤ 60 := by
      rw [ho2, List.length_append, forAll, List.length_map, List.length_take]
      omega
    refine al_lt (fun hjlt => ?_) (fun hjge => ?_)
    · have hjlt : j < g.members.length := hjlt
      have hwj : IntKind.i64.wrap ((j : Int) + 1) = ((j + 1 : Nat) : Int) := by rw [wrap64 (by omega) (by omega)]; omega
      refine ⟨by omega, _, idx_map rfl hjlt, rfl, ?_⟩
      refine ⟨hall _, all_one rfl, ?_, (o2 ++ [(⟨x.flag, g.members[j], x.right, x.ref, x.path⟩ : Rule)]).map encRule, by rw [List.map_append]; rfl, ?_⟩
      · show ((o2.map encRule).length + 1) * 64 ≤ 140737488355328
        rw [List.length_map]
        omega
      refine ⟨_, hwj, roundR (j + 1, o2 ++ [(⟨x.flag, g.members[j], x.right, x.ref, x.path⟩ : Rule)]) ⟨hjlt, ?_⟩ (by show g.members.length - (j + 1) < g.members.length - j; omega) rfl ⟨Weak.refl _, Weak.refl _, Weak.refl _, Weak.refl _, Weak.refl _, Weak.refl _, Weak.refl _, Weak.refl _, Weak.refl _, Weak.refl _, Weak.refl _, trivial⟩ ⟨hasO_one rfl, hasO_one rfl, hasO_one rfl, trivial⟩⟩
      show o2 ++ _ = out ++ forAll x (g.members.take (j + 1))
      have hsn : g.members.take (j + 1) = g.members.take j ++ [g.members[j]] := by rw [List.take_add_one, List.getElem?_eq_getElem hjlt]; rfl
      rw [ho2, hsn, forAll, forAll, List.map_append, List.append_assoc]
      rfl
    · have hjge : ¬ j < g.members.length := hjge
      rw [List.take_of_length_le (by omega)] at ho2
      refine ⟨_, hw, roundR (k + 1, o2) ⟨hlt, ?_⟩ (by show a.groups.length - (k + 1) < a.groups.length - k; omega) rfl ⟨Weak.refl _, Weak.refl _, Weak.refl _, Weak.refl _, Weak.refl _, Weak.refl _, Weak.refl _, Weak.refl _, trivial⟩ ⟨hasO_one rfl, hasO_one rfl, hasO_one rfl, trivial⟩⟩
      show o2 = a.rules.take i ++ forAll x (membersOf (a.groups.take (k + 1)) (x.who.drop 1))
      rw [ho2, hout, hstep]
      simp [forAll]
  · have hge : ¬ k < a.groups.length := hge
    have hgt : a.groups.take k = a.groups := List.take_of_length_le (by omega)
    rw [hgt] at hout
    have hwi : IntKind.i64.wrap ((i : Int) + 1) = ((i + 1 : Nat) : Int) := by rw [wrap64 (by omega) (by omega)]; omega
    refine ⟨_, hwi, ?_⟩
    refine ⟨i + 1, rfl, by rw [List.length_map]; omega, Nat.le_refl _, hall _, (a.rules.drop (i + 1)).map encRule, by rw [List.take_length, List.map_drop], ?_⟩
    refine ⟨hall _, hall _, ?_, (a.rules.take i ++ (forAll x (membersOf a.groups (x.who.drop 1)) ++ a.rules.drop (i + 1))).map encRule, by rw [← List.append_assoc, ← hout]; exact (List.map_append).symm, ?_⟩
    · show ((out.map encRule).length + ((a.rules.drop (i + 1)).map encRule).length) * 64 ≤ 140737488355328
      rw [List.length_map, List.length_map, List.length_drop]
      omega
    have hfw : FineA (a.wr (a.rules.take i ++ (forAll x (membersOf a.groups (x.who.drop 1)) ++ a.rules.drop (i + 1)))) := by
      refine fineA_wr' hf ?_ fun r hr => ?_
      · rw [← List.append_assoc, ← hout, List.length_append, List.length_drop]
        omega
      · rcases List.mem_append.1 hr with hr | hr
        · exact hf.rules r (List.mem_of_mem_take hr)
        rcases List.mem_append.1 hr with hr | hr
        · obtain ⟨m, hm, rfl⟩ := List.mem_map.1 hr
          obtain ⟨g, hg, hm⟩ := membersOf_mem hm
          exact ⟨(hf.names g hg).2.2 m hm, hrx.2⟩
        · exact hf.rules r (List.mem_of_mem_drop hr)
    have hmay : mayF (a.wr (a.rules.take i ++ (forAll x (membersOf a.groups (x.who.drop 1)) ++ a.rules.drop (i + 1)))) q = mayF a q := by
      rw [mayF_grant law1, mayF_grant hck]
      exact law2 _ _ _ _
    have c1 := check_ok _ hfw
    rw [law1] at c1
    have c2 := may_ok _ q hfw hb hp
    rw [hmay] at c2
    clear law1 law2 hmay
    refine ⟨.lex 16, by kernel_rfl, ?_⟩
    refine ⟨_, rfl, ?_⟩
    refine ⟨.p (.int .i64 0), ⟨_, c1, fun r hr => by subst hr; rfl⟩, ?_⟩
    refine ⟨.p (.bool true), ⟨fun t ht => by rw [ht]; rfl⟩, ?_⟩
    refine ⟨_, rfl, ?_⟩
    refine ⟨_, rfl, ?_⟩
    refine ⟨_, rfl, ?_⟩
    refine ⟨.p (.bool (mayF a q)), ⟨_, c2, fun r hr => by subst hr; rfl⟩, ?_⟩
    refine ⟨_, rfl, ?_⟩
    refine ⟨_, rfl, ?_⟩
    refine ⟨.p (.bool (mayF a q)), ⟨_, may_ok a q hf hb hp, fun r hr => by subst hr; rfl⟩, ?_⟩
    refine ⟨.p (.bool true), ⟨fun t ht => by rw [ht]; simp⟩, ?_⟩
    refine ⟨_, rfl, ?_⟩
    refine ⟨_, rfl, ?_⟩
    refine ⟨.p (.bool true), ⟨_, awake_ok, fun r hr => by subst hr; rfl⟩, ?_⟩
    refine ⟨_, rfl, ?_⟩
    refine ⟨_, rfl, ?_⟩
    exact rfl
end Qv
