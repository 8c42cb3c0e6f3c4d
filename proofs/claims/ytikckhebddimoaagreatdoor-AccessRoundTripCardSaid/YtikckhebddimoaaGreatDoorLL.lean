/- Several texts in one: Contracts: the text of a policy, the program's and the reference's, Contracts: Print and the reference's Print; the laws AccessCheck and AccessRoundTrip, The laws AccessCheck and AccessRoundTrip as contracts. No condition. -/
import Derived.Test.YtikckhebddimoaaGreatDoorLI
import Derived.Test.YtikckhebddimoaaGreatDoorTv4
import Derived.Lib.Join
import Derived.Lib.ItoaLen

section
/- Contracts: the text of a policy, the program's and the reference's. No condition. -/
set_option linter.unusedVariables false
set_option linter.unusedSimpArgs false
open Go Go.Proofs Go.RowKit Go.Sort
namespace Qv
theorem below_grownA (w : World) (k : Nat) (os : Array Obj) : Below w.heap.size w (grow (w.drewN k) os) :=
  ⟨rfl, rfl, rfl, by simp [grow], fun i hi => by
    show (w.heap ++ os)[i]? = w.heap[i]?
    rw [Array.getElem?_append_left hi]⟩
theorem itoa_ok (n : Int) (h0 : -9223372036854775808 ≤ n) (h1 : n ≤ 9223372036854775807) : CallsTo C 51 [.int .i64 n] (fun r => r = .val (.str (Lib.itoa n))) := by
  refine ⟨⟨_, Tryz.func51, rfl, rfl⟩, fun imm w vs hJ hn hi hl hr => ?_⟩
  match vs, hl with
  | [v0], _ =>
  have h := hr 0 v0 _ rfl rfl
  obtain rfl : v0 = .int .i64 n := by cases h; rfl
  refine (Tryz.strconv_Itoa n h0 h1 w hJ.1).mono ?_
  rintro e w' ⟨rfl, k, os, rfl⟩
  exact ⟨_, _, rfl, rfl, .str _, below_grownA w k os⟩
theorem rep_str_inv {imm : Nat → Nat → Prop} {w : World} {v : Value} {s : List UInt8} (h : Rep imm w v (.str s)) : v = .string ⟨s.toArray⟩ := by
  cases h
  rfl
theorem join_ok (l : List Bytes) (sep : Bytes) (hl : l.length ≤ 140737488355328) (hj : (Lib.join l sep).length ≤ 140737488355328) : CallsTo C 52 [encS l, .str sep] (fun r => r = .val (.str (Lib.join l sep))) := by
  refine ⟨⟨_, Tryz.func52, rfl, rfl⟩, fun imm w vs hJ hn hi hlv hr => ?_⟩
  match vs, hlv with
  | [v0, v1], _ =>
  have h := hr 0 v0 _ rfl rfl
  have h' := hr 1 v1 _ rfl rfl
  obtain rfl : v1 = .string ⟨sep.toArray⟩ := by cases h'; rfl
  unfold encS at h
  generalize hxs : l.map enc1 = xs at h
  have hlen : l.length = xs.length := by rw [← hxs, List.length_map]
  have hnone : ∀ (a : Option Addr) (c : Nat), l = [] → Calls C.P 52 #[.slice a 0 c, .string ⟨sep.toArray⟩] w fun e w' => ∃ v r, e = .returned v ∧ (r = .val (.str (Lib.join l sep))) ∧ RetOK imm w.heap.size w' v r ∧ Below w.heap.size w w' := fun a c he => by
    subst he
    refine (Tryz.strings_Join_none a c ⟨sep.toArray⟩ w).mono ?_
    rintro e w' ⟨rfl, rfl⟩
    exact ⟨_, _, rfl, rfl, .str _, Below.refl _ _⟩
  cases h with
  | sl0 a c =>
    exact hnone a c (List.length_eq_zero_iff.1 hlen)
  | sl b off c esz _ cell h1 h2 h3 h4 h5 h6 =>
    by_cases he : l = []
    · have : xs.length = 0 := by rw [← hlen, he]; rfl
      rw [this]
      exact hnone _ _ he
    · have hpos : 0 < l.length := by
        cases l with
        | nil => exact absurd rfl he
        | cons _ _ => simp
      have hget : ∀ (j : Nat) (hj : j < l.length), xs[j]? = some (enc1 l[j]) := fun j hj => by rw [← hxs, List.getElem?_map, List.getElem?_eq_getElem hj]; rfl
      have hesz : esz = 1 := (h1 0 _ (hget 0 hpos)).symm
      subst hesz
      have hcell : ∀ (j : Nat) (hj : j < l.length), w.cell? ⟨b, off + j, none⟩ = some (.string ⟨(l[j]).toArray⟩) := fun j hj => by
        have e1 := h3 j _ 0 _ (hget j hj) rfl
        have e2 := h5 j _ 0 _ (hget j hj) rfl
        rw [Nat.mul_one, Nat.add_zero] at e1
        rw [e1]
        rw [rep_str_inv e2]
      have hmap : (l.map fun s => (⟨s.toArray⟩ : ByteArray)).map (·.data.toList) = l := by
        rw [List.map_map]
        exact List.map_id'' (fun s => rfl) l
      have hlm : (l.map fun s => (⟨s.toArray⟩ : ByteArray)).length = xs.length := by rw [List.length_map, hlen]
      have key := Tryz.strings_Join b off c (l.map fun s => (⟨s.toArray⟩ : ByteArray)) ⟨sep.toArray⟩ w (fun j x hx => by
        rw [List.getElem?_map] at hx
        cases hq : l[j]? with
        | none => rw [hq] at hx; cases hx
        | some s =>
          rw [hq] at hx
          obtain rfl := Option.some.inj hx
          have hj := (List.getElem?_eq_some_iff.1 hq).1
          have := hcell j hj
          rw [(List.getElem?_eq_some_iff.1 hq).2] at this
          exact this) (cell_lt (hcell 0 hpos)).1 (by rw [List.length_map]; exact hl) (by rw [hlm]; exact h6) (by rw [hmap]; exact hj)
      rw [hmap, hlm] at key
      refine key.mono ?_
      rintro e w' ⟨rfl, hb⟩
      exact ⟨_, _, rfl, rfl, .str _, hb⟩
theorem join_sp : ∀ ws : List Bytes, Lib.join ws [32] = joinSp ws
  | [] => rfl
  | [w] => Lib.join_one w [32]
  | w :: v :: r => by
    have ih := join_sp (v :: r)
    rw [Lib.join_cons] at ih ⊢
    show w ++ Lib.joinTail [32] (v :: r) = w ++ 32 :: joinSp (v :: r)
    rw [← ih]
    simp [Lib.joinTail]
theorem join_lf : ∀ (ls : List Bytes), ls ≠ [] → Lib.join ls [10] ++ [10] = unlines ls
  | [], h => absurd rfl h
  | [l], _ => by rw [Lib.join_one]; simp [unlines]
  | l :: m :: r, _ => by
    have ih := join_lf (m :: r) (by simp)
    rw [Lib.join_cons] at ih ⊢
    have : unlines (l :: m :: r) = l ++ [10] ++ unlines (m :: r) := by simp [unlines]
    rw [this, ← ih]
    simp [Lib.joinTail]
end Qv

end

section
/- Contracts: Print and the reference's Print; the laws AccessCheck and AccessRoundTrip. No condition. -/
set_option linter.unusedVariables false
set_option linter.unusedSimpArgs false
open Go Go.Proofs Go.RowKit
namespace Qv
def printF (a : Access) : AV := .tup [.str (if checkF a = 0 then textF a else []), .int .i64 (checkF a)]
theorem joinSp_flat (w : Bytes) : ∀ r : List Bytes, joinSp (w :: r) = w ++ r.flatMap fun m => 32 :: m
  | [] => by simp [joinSp]
  | v :: r => by
    show w ++ 32 :: joinSp (v :: r) = _
    rw [joinSp_flat v r]
    simp
def headG (g : Group) : Bytes := [103, 114, 111, 117, 112, 32] ++ g.name ++ [58]
theorem wsG_head (g : Group) : joinSp (headG g :: g.members) = joinSp (wsG g) := by
  unfold wsG
  rw [joinSp_flat, joinSp_flat, List.flatMap_cons]
  simp [headG, wGroup]
def gLines (a : Access) (k : Nat) : List Bytes := joinSp (wsV a.votes) :: (a.groups.take k).map fun g => joinSp (wsG g)
def rLines (a : Access) (k : Nat) : List Bytes := (joinSp (wsV a.votes) :: a.groups.map fun g => joinSp (wsG g)) ++ (a.rules.take k).map fun r => joinSp (wsR r)
theorem gLines_step {a : Access} {k : Nat} (h : k < a.groups.length) : gLines a (k + 1) = gLines a k ++ [joinSp (wsG a.groups[k])] := by
  unfold gLines
  rw [List.take_add_one, List.getElem?_eq_getElem h, List.map_append]
  rfl
theorem rLines_step {a : Access} {k : Nat} (h : k < a.rules.length) : rLines a (k + 1) = rLines a k ++ [joinSp (wsR a.rules[k])] := by
  unfold rLines
  rw [List.take_add_one, List.getElem?_eq_getElem h, List.map_append, List.append_assoc]
  rfl
theorem gLines_all (a : Access) {k : Nat} (h : ¬ k < a.groups.length) : gLines a k = rLines a 0 := by
  unfold gLines rLines
  rw [List.take_of_length_le (by omega)]
  simp
theorem rLines_all (a : Access) {k : Nat} (h : ¬ k < a.rules.length) : rLines a k = linesA a := by
  unfold rLines linesA
  rw [List.take_of_length_le (by omega)]
  rfl
theorem gLines_mem {a : Access} {k : Nat} {l : Bytes} (h : l ∈ gLines a k) : l ∈ linesA a := by
  unfold gLines at h
  unfold linesA
  rcases List.mem_cons.1 h with rfl | h
  · exact List.mem_cons_self
  · obtain ⟨g, hg, rfl⟩ := List.mem_map.1 h
    exact List.mem_cons_of_mem _ (List.mem_append_left _ (List.mem_map_of_mem (f := fun g => joinSp (wsG g)) (List.mem_of_mem_take hg)))
theorem rLines_mem {a : Access} {k : Nat} {l : Bytes} (h : l ∈ rLines a k) : l ∈ linesA a := by
  unfold rLines at h
  unfold linesA
  rcases List.mem_append.1 h with h | h
  · rcases List.mem_cons.1 h with rfl | h
    · exact List.mem_cons_self
    · exact List.mem_cons_of_mem _ (List.mem_append_left _ h)
  · obtain ⟨r, hr, rfl⟩ := List.mem_map.1 h
    exact List.mem_cons_of_mem _ (List.mem_append_right _ (List.mem_map_of_mem (f := fun r => joinSp (wsR r)) (List.mem_of_mem_take hr)))
theorem gLines_len (a : Access) (k : Nat) : (gLines a k).length ≤ 1 + k := by
  unfold gLines
  rw [List.length_cons, List.length_map, List.length_take]
  omega
theorem rLines_len (a : Access) (k : Nat) : (rLines a k).length ≤ 1 + a.groups.length + k := by
  unfold rLines
  rw [List.length_append, List.length_cons, List.length_map, List.length_map, List.length_take]
  omega
structure PrintA (a : Access) : Prop where
  gl : a.groups.length ≤ 6
  rl : a.rules.length ≤ 8
  v0 : 0 ≤ a.votes
  v1 : a.votes ≤ 100
  line : ∀ l, l ∈ linesA a → l.length ≤ 400
  text : (textF a).length ≤ 8000
  group : ∀ g, g ∈ a.groups → g.name.length ≤ 40 ∧ g.members.length ≤ 6 ∧ ∀ m, m ∈ g.members → m.length ≤ 40
  rule : ∀ r, r ∈ a.rules → r.who.length ≤ 41 ∧ (1 ≤ r.right ∧ r.right ≤ 4) ∧ r.ref.length ≤ 40 ∧ r.path.length ≤ 40
theorem printA_of {a : Access} (h : checkF a = 0) (ht : TinyA a) : PrintA a := by
  have hv := checkF_zero.1 h
  obtain ⟨t1, t2⟩ := text_len h ht
  refine ⟨ht.gl, ht.rl, hv.votes.1, hv.votes.2, t1, t2, fun g hg => ?_, fun r hr => ?_⟩
  · obtain ⟨i, hi⟩ := List.getElem?_of_mem hg
    obtain ⟨h1, h2, h3⟩ := groupE_zero (hv.groups i g hi)
    exact ⟨(name_word h1).2.1, ht.members g hg, fun m hm => (name_word (members_names h3 m hm)).2.1⟩
  · obtain ⟨h1, h2, h3, h4, h5⟩ := checkRule_zero.1 (hv.rules r hr)
    obtain ⟨g1, g2⟩ := ht.globs r hr
    exact ⟨(wordP_who h1).2, h3, g1, g2⟩
theorem find_word {k : Int} (h1 : 1 ≤ k) (h2 : k ≤ 4) : findM (.int .i64 k) (zipA rKeys (mapP rWords)) = some (.p (.str (rightW k.toNat))) := by
  have : k = 1 ∨ k = 2 ∨ k = 3 ∨ k = 4 := by omega
  rcases this with rfl | rfl | rfl | rfl <;> rfl
theorem fits_words : ∀ p, p ∈ zipA rKeys (mapP rWords) → fitsK false [.int .i64] p.1 = true := fitsAll (by kernel_rfl)
set_option maxHeartbeats 2000000 in
theorem print_ok (a : Access) (hf : FineA a) (ht : TinyA a) : CallsTo C 25 [.agg (encAccess a)] (fun r => r = .val (printF a)) := by
  refine callsTo_of_ev' Tryz.func25 rfl rfl rfl ?_
  refine ⟨_, check_ok a hf, fun r hr => ?_⟩
  subst hr
  unfold printF
  refine al_ne (fun he => ?_) (fun he => ?_)
  · have he : checkF a ≠ 0 := he
    rw [if_neg he]
    exact rfl
  have he : checkF a = 0 := he
  obtain ⟨hgl, hrl, hv0, hv1, hline, htext, hgroup, hrule⟩ := printA_of he ht
  have hvl := (votes_text hv0 hv1).2.2
  rw [if_pos he, he]
  refine ⟨_, itoa_ok a.votes (by omega) (by omega), fun r hr => ?_⟩
  subst hr
  refine ⟨by show 6 + (Lib.itoa a.votes).length < 2 ^ 62; omega, ?_⟩
  refine loopR 70 (fun k : Nat => [(1, .ptr 1 0), (5, .tip 20 9 1 ((gLines a k).map enc1)), (22, .p (encGroups a.groups)), (23, .p (.int .i64 (a.groups.map encGroup).length)), (24, .p (.int .i64 k))]) (fun _ => [(1, mapP (encAccess a))]) (fun k => k ≤ a.groups.length) (fun k => a.groups.length - k) 0 (Nat.zero_le _) rfl ⟨Weak.refl _, Weak.refl _, Weak.refl _, Weak.refl _, Weak.refl _, trivial⟩ ⟨hasO_one rfl, trivial⟩ ?_
  intro k hk
  have hgln := gLines_len a k
  refine al_lt (fun hlt => ?_) (fun hge => ?_)
  · have hlt : k < a.groups.length := hlt
    have hw : IntKind.i64.wrap ((k : Int) + 1) = ((k + 1 : Nat) : Int) := by rw [wrap64 (by omega) (by omega)]; omega
    have hstep := gLines_step hlt
    obtain ⟨p1, p2, p3⟩ := hgroup _ (List.getElem_mem hlt)
    have hln : (joinSp (wsG a.groups[k])).length ≤ 400 := hline _ (gLines_mem (k := k + 1) (by rw [hstep]; simp))
    have ig : (a.groups.map encGroup)[((k : Nat) : Int).toNat]? = some (encGroup a.groups[k]) := idx_map (f := encGroup) rfl hlt
    generalize a.groups[k] = g at hstep p1 p2 p3 hln ig
    refine ⟨by omega, [.str g.name, encS g.members], ig, rfl, ?_⟩
    refine ⟨by show 6 + g.name.length < 2 ^ 62; omega, ?_⟩
    refine ⟨by show (([103, 114, 111, 117, 112, 32] : Bytes) ++ g.name).length + 1 < 2 ^ 62; rw [List.length_append]; show 6 + g.name.length + 1 < 2 ^ 62; omega, ?_⟩
    refine ⟨all_one rfl, all_enc1 _, ?_, (headG g :: g.members).map enc1, rfl, ?_⟩
    · show (1 + (g.members.map enc1).length) * 16 ≤ 140737488355328
      rw [List.length_map]
      omega
    have hjs : Lib.join (headG g :: g.members) [32] = joinSp (wsG g) := by rw [join_sp, wsG_head]
    refine ⟨_, join_ok (headG g :: g.members) [32] (by rw [List.length_cons]; omega) (by rw [hjs]; omega), fun r hr => ?_⟩
    subst hr
    rw [hjs]
    refine ⟨all_enc1 _, all_one rfl, ?_, (gLines a (k + 1)).map enc1, by rw [hstep, List.map_append]; rfl, ?_⟩
    · show (((gLines a k).map enc1).length + 1) * 16 ≤ 140737488355328
      rw [List.length_map]
      omega
    exact ⟨_, hw, roundR (k + 1) hlt (by omega) rfl ⟨Weak.refl _, Weak.refl _, Weak.refl _, Weak.refl _, Weak.refl _, trivial⟩ ⟨hasO_one rfl, trivial⟩⟩
  · have hge : ¬ k < a.groups.length := hge
    refine loopR 70 (fun k : Nat => [(1, .ptr 1 0), (5, .tip 20 9 1 ((rLines a k).map enc1)), (42, .p (.sl (a.rules.map encRule))), (43, .p (.int .i64 (a.rules.map encRule).length)), (44, .p (.int .i64 k))]) (fun _ => [(1, mapP (encAccess a))]) (fun k => k ≤ a.rules.length) (fun k => a.rules.length - k) 0 (Nat.zero_le _) rfl ⟨Weak.refl _, by rw [← gLines_all a hge]; exact Weak.refl _, Weak.refl _, Weak.refl _, Weak.refl _, trivial⟩ ⟨hasO_one rfl, trivial⟩ ?_
    intro k hk
    have hrln := rLines_len a k
    refine al_lt (fun hlt => ?_) (fun hge => ?_)
    · have hlt : k < a.rules.length := hlt
      have hw : IntKind.i64.wrap ((k : Int) + 1) = ((k + 1 : Nat) : Int) := by rw [wrap64 (by omega) (by omega)]; omega
      have hstep := rLines_step hlt
      obtain ⟨p1, p2, p3, p4⟩ := hrule _ (List.getElem_mem hlt)
      have hln : (joinSp (wsR a.rules[k])).length ≤ 400 := hline _ (rLines_mem (k := k + 1) (by rw [hstep]; simp))
      have ir : (a.rules.map encRule)[((k : Nat) : Int).toNat]? = some (encRule a.rules[k]) := idx_map (f := encRule) rfl hlt
      generalize a.rules[k] = r at hstep p1 p2 p3 p4 hln ir
      refine ⟨by omega, [.bool r.flag, .str r.who, .int .i64 r.right, .str r.ref, .str r.path], ir, rfl, ?_⟩
      cases hfl : r.flag with
      | true =>
        have hwr : Lib.join [wAllow, r.who, rightW r.right.toNat, r.ref, r.path] [32] = joinSp (wsR r) := by
          rw [join_sp]
          unfold wsR wordR
          rw [hfl]
          rfl
        refine ⟨.lex 15, by kernel_rfl, ?_⟩
        refine ⟨_, rfl, ?_⟩
        refine ⟨_, rfl, ?_⟩
        refine ⟨_, rfl, ?_⟩
        refine ⟨_, rfl, ?_⟩
        refine ⟨.p (.mp rKeys rWords), ⟨_, rights_ok, fun r hr => by subst hr; rfl⟩, ?_⟩
        refine ⟨_, rfl, ?_⟩
        refine ⟨_, rfl, ?_⟩
        refine ⟨.p (.str (rightW r.right.toNat)), ⟨[.int .i64], by kernel_rfl, rfl, fits_words, _, find_word p2.1 p2.2, rfl⟩, ?_⟩
        refine ⟨_, rfl, ?_⟩
        refine ⟨_, rfl, ?_⟩
        refine ⟨_, rfl, ?_⟩
        refine ⟨_, rfl, ?_⟩
        refine ⟨_, rfl, ?_⟩
        refine ⟨.p (.str (joinSp (wsR r))), ⟨_, join_ok [wAllow, r.who, rightW r.right.toNat, r.ref, r.path] [32] (by simp) (by rw [hwr]; omega), fun r hr => by subst hr; rw [hwr]; rfl⟩, ?_⟩
        refine ⟨_, rfl, ?_⟩
        refine ⟨all_enc1 _, all_one rfl, ?_, (rLines a (k + 1)).map enc1, by rw [hstep, List.map_append]; rfl, ?_⟩
        · show (((rLines a k).map enc1).length + 1) * 16 ≤ 140737488355328
          rw [List.length_map]
          omega
        exact ⟨_, hw, roundR (k + 1) hlt (by omega) rfl ⟨Weak.refl _, Weak.refl _, Weak.refl _, Weak.refl _, Weak.refl _, trivial⟩ ⟨hasO_one rfl, trivial⟩⟩
      | false =>
        have hwr : Lib.join [wDeny, r.who, rightW r.right.toNat, r.ref, r.path] [32] = joinSp (wsR r) := by
          rw [join_sp]
          unfold wsR wordR
          rw [hfl]
          rfl
        refine ⟨.lex 15, by kernel_rfl, ?_⟩
        refine ⟨_, rfl, ?_⟩
        refine ⟨_, rfl, ?_⟩
        refine ⟨_, rfl, ?_⟩
        refine ⟨_, rfl, ?_⟩
        refine ⟨.p (.mp rKeys rWords), ⟨_, rights_ok, fun r hr => by subst hr; rfl⟩, ?_⟩
        refine ⟨_, rfl, ?_⟩
        refine ⟨_, rfl, ?_⟩
        refine ⟨.p (.str (rightW r.right.toNat)), ⟨[.int .i64], by kernel_rfl, rfl, fits_words, _, find_word p2.1 p2.2, rfl⟩, ?_⟩
        refine ⟨_, rfl, ?_⟩
        refine ⟨_, rfl, ?_⟩
        refine ⟨_, rfl, ?_⟩
        refine ⟨_, rfl, ?_⟩
        refine ⟨_, rfl, ?_⟩
        refine ⟨.p (.str (joinSp (wsR r))), ⟨_, join_ok [wDeny, r.who, rightW r.right.toNat, r.ref, r.path] [32] (by simp) (by rw [hwr]; omega), fun r hr => by subst hr; rw [hwr]; rfl⟩, ?_⟩
        refine ⟨_, rfl, ?_⟩
        refine ⟨all_enc1 _, all_one rfl, ?_, (rLines a (k + 1)).map enc1, by rw [hstep, List.map_append]; rfl, ?_⟩
        · show (((rLines a k).map enc1).length + 1) * 16 ≤ 140737488355328
          rw [List.length_map]
          omega
        exact ⟨_, hw, roundR (k + 1) hlt (by omega) rfl ⟨Weak.refl _, Weak.refl _, Weak.refl _, Weak.refl _, Weak.refl _, trivial⟩ ⟨hasO_one rfl, trivial⟩⟩
    · have hge : ¬ k < a.rules.length := hge
      rw [rLines_all a hge]
      have hjl : Lib.join (linesA a) [10] ++ [10] = textF a := join_lf (linesA a) (by unfold linesA; simp)
      have hjn : (Lib.join (linesA a) [10]).length ≤ 8000 := by
        have := congrArg List.length hjl
        rw [List.length_append] at this
        omega
      have hln : (linesA a).length ≤ 15 := by
        rw [← rLines_all a hge]
        have : (rLines a k).length ≤ 1 + a.groups.length + k := hrln
        omega
      refine ⟨_, join_ok (linesA a) [10] (by omega) (by omega), fun r hr => ?_⟩
      subst hr
      refine ⟨by show (Lib.join (linesA a) [10]).length + 1 < 2 ^ 62; omega, ?_⟩
      show Ret.val (.tup [.str (Lib.join (linesA a) [10] ++ [10]), .int .i64 0]) = _
      rw [hjl]
end Qv

end

section
/- The laws AccessCheck and AccessRoundTrip as contracts. No condition. -/
set_option linter.unusedVariables false
set_option linter.unusedSimpArgs false
open Go Go.Proofs Go.RowKit
namespace Qv
theorem glob_len {g : Bytes} (h : checkGlobF g = 0) : g.length ≤ 200 := by
  unfold checkGlobF at h
  split at h
  · rename_i h1; exact absurd h h1
  rename_i h1
  have h1 := Decidable.not_not.1 h1
  unfold parseF at h1
  split at h1
  · cases h1
  · omega
theorem fine_valid {a : Access} (h : checkF a = 0) : FineA a := by
  have hv := checkF_zero.1 h
  have h1 := hv.gl
  have h2 := hv.rl
  refine ⟨by omega, by omega, fun g hg => ?_, fun r hr => ?_⟩
  · obtain ⟨i, hi⟩ := List.getElem?_of_mem hg
    obtain ⟨n1, n2, n3⟩ := groupE_zero (hv.groups i g hi)
    have := (name_word n1).2.1
    have hm := (valid_small h).2.2 g hg
    exact ⟨by omega, by omega, fun s hs => by have := (name_word (members_names n3 s hs)).2.1; omega⟩
  · obtain ⟨w1, w2, w3, w4, w5⟩ := checkRule_zero.1 (hv.rules r hr)
    have := (wordP_who w1).2
    have := glob_len w4
    have := glob_len w5
    exact ⟨by omega, by omega, by omega⟩
set_option maxHeartbeats 1000000 in
theorem round_law_ok (a : Access) (s : Bytes) (hs : SzA a) : CallsTo C 10 [.agg (encAccess a), .str s] (fun r => r = .val (.bool true)) := by
  refine callsTo_of_ev' Tryz.func10 rfl rfl rfl ?_
  refine ⟨none, ?_⟩
  refine ⟨_, great_ok a hs, fun r hr => ?_⟩
  subst hr
  cases hg : greatA a with
  | true =>
    refine ⟨_, awake_ok, fun r hr => ?_⟩
    subst hr
    exact rfl
  | false =>
  refine al_dec (fun h => ?_) (fun h => ?_)
  · refine ⟨_, awake_ok, fun r hr => ?_⟩
    subst hr
    exact rfl
  have hsl : s.length ≤ 1000 := by
    have : ¬ (s.length : Int) > 1000 := h
    omega
  have ht := tiny_of hg
  have hf := fineA_of hs ht
  refine ⟨_, print_ok a hf ht, fun r hr => ?_⟩
  subst hr
  unfold printF
  by_cases hck : checkF a = 0
  case pos =>
    obtain ⟨g1, g2, g3⟩ := valid_small hck
    have htl := (text_len hck ht).2
    rw [if_pos hck, hck]
    refine ⟨_, aparse_ok (textF a) (by omega), fun r hr => ?_⟩
    subst hr
    rw [parse_text hck]
    refine ⟨none, ?_⟩
    refine al_eq (fun _ => ?_) (fun h => absurd rfl h)
    refine al_ne (fun h => absurd rfl h) (fun _ => ?_)
    refine al_ne (fun h => absurd rfl h) (fun _ => ?_)
    refine ⟨_, same_ok a (by omega) (by omega) (fun g hg => by have := g3 g hg; omega), fun r hr => ?_⟩
    subst hr
    refine al_not ?_
    have hps := parse_small s
    have hpe := parse_end s
    refine ⟨_, aparse_ok s (by omega), fun r hr => ?_⟩
    subst hr
    generalize parseA s = P at hps hpe ⊢
    obtain ⟨p, n, e⟩ := P
    rcases hpe with ⟨k1, k2⟩ | ⟨k1, k2, k3⟩
    · have k1 : checkF p = 0 := k1
      have k3 : n = 0 := congrArg Prod.fst k2
      have k4 : e = 0 := congrArg Prod.snd k2
      subst k3
      subst k4
      refine al_ne (fun h => absurd rfl h) (fun _ => ?_)
      refine ⟨none, ?_⟩
      refine al_eq (fun _ => ?_) (fun h => absurd rfl h)
      refine ⟨_, check_ok p (fine_valid k1), fun r hr => ?_⟩
      subst hr
      rw [k1]
      refine al_eq (fun _ => ?_) (fun h => absurd rfl h)
      refine ⟨_, awake_ok, fun r hr => ?_⟩
      subst hr
      exact rfl
    · have k1 : p = emptyA := k1
      have k2 : 0 < n := k2
      have k3 : e ≠ 0 := k3
      subst k1
      refine al_ne (fun _ => ?_) (fun h => absurd h k3)
      refine ⟨none, ?_⟩
      refine al_dec (fun _ => ?_) (fun h => absurd (show (n : Int) > 0 by omega) h)
      refine ⟨_, same_ok emptyA (by decide) (by decide) (fun g hg => by cases hg), fun r hr => ?_⟩
      subst hr
      refine ⟨_, awake_ok, fun r hr => ?_⟩
      subst hr
      exact rfl
  case neg =>
    rw [if_neg hck]
    refine ⟨_, aparse_ok [] (by simp), fun r hr => ?_⟩
    subst hr
    refine ⟨none, ?_⟩
    refine al_eq (fun h => absurd h hck) (fun _ => ?_)
    have hps := parse_small s
    have hpe := parse_end s
    refine ⟨_, aparse_ok s (by omega), fun r hr => ?_⟩
    subst hr
    generalize parseA s = P at hps hpe ⊢
    obtain ⟨p, n, e⟩ := P
    rcases hpe with ⟨k1, k2⟩ | ⟨k1, k2, k3⟩
    · have k1 : checkF p = 0 := k1
      have k3 : n = 0 := congrArg Prod.fst k2
      have k4 : e = 0 := congrArg Prod.snd k2
      subst k3
      subst k4
      refine al_ne (fun h => absurd rfl h) (fun _ => ?_)
      refine ⟨none, ?_⟩
      refine al_eq (fun _ => ?_) (fun h => absurd rfl h)
      refine ⟨_, check_ok p (fine_valid k1), fun r hr => ?_⟩
      subst hr
      rw [k1]
      refine al_eq (fun _ => ?_) (fun h => absurd rfl h)
      refine ⟨_, awake_ok, fun r hr => ?_⟩
      subst hr
      exact rfl
    · have k1 : p = emptyA := k1
      have k2 : 0 < n := k2
      have k3 : e ≠ 0 := k3
      subst k1
      refine al_ne (fun _ => ?_) (fun h => absurd h k3)
      refine ⟨none, ?_⟩
      refine al_dec (fun _ => ?_) (fun h => absurd (show (n : Int) > 0 by omega) h)
      refine ⟨_, same_ok emptyA (by decide) (by decide) (fun g hg => by cases hg), fun r hr => ?_⟩
      subst hr
      refine ⟨_, awake_ok, fun r hr => ?_⟩
      subst hr
      exact rfl
end Qv

end
