/- Several texts in one: Contracts: the text of a policy, the program's and the reference's, Contracts: Print and the reference's Print; the laws AccessCheck and AccessRoundTrip, The laws AccessCheck and AccessRoundTrip as contracts. No condition. -/
import Derived.Test.YtikckhebddimoaaGreatDoorKI
import Derived.Test.YtikckhebddimoaaGreatDoorTv4
import Derived.Lib.Join
import Derived.Lib.ItoaLen

section
/- Contracts: the text of a policy, the program's and the reference's. No condition. -/
set_option linter.unusedVariables false
set_option linter.unusedSimpArgs false
open Go Go.Proofs Go.RowKit Go.Sort
namespace Qv
theorem below_grownA (w : World) (k : Nat) (os : Array Obj) : Below w.heap.size w (grow (w.drewN k) os) :=
  ⟨rfl, rfl, rfl, by simp [grow], fun i hi => by
    show (w.heap ++ os)[i]? = w.heap[i]?
    rw [Array.getElem?_append_left hi]⟩
theorem itoa_ok (n : Int) (h0 : -9223372036854775808 ≤ n) (h1 : n ≤ 9223372036854775807) : CallsTo C 51 [.int .i64 n] (fun r => r = .val (.str (Lib.itoa n))) := by
  refine ⟨⟨_, Tryz.func51, rfl, rfl⟩, fun imm w vs hJ hn hi hl hr => ?_⟩
  match vs, hl with
  | [v0], _ =>
  have h := hr 0 v0 _ rfl rfl
  obtain rfl : v0 = .int .i64 n := by cases h; rfl
  refine (Tryz.strconv_Itoa n h0 h1 w hJ.1).mono ?_
  rintro e w' ⟨rfl, k, os, rfl⟩
  exact ⟨_, _, rfl, rfl, .str _, below_grownA w k os⟩
theorem itoa_small (u : Nat) (h : u < 10) : Lib.itoa (u : Int) = [UInt8.ofNat (48 + u)] := by
  unfold Lib.itoa
  rw [if_neg (by omega), Int.toNat_natCast, Lib.decDigits_one h]
theorem itoa_big (u : Nat) (h : ¬ u < 10) : Lib.itoa (u : Int) = Lib.itoa ((u / 10 : Nat) : Int) ++ Lib.itoa ((u % 10 : Nat) : Int) := by
  unfold Lib.itoa
  rw [if_neg (by omega), if_neg (by omega), if_neg (by omega), Int.toNat_natCast, Int.toNat_natCast, Int.toNat_natCast, Lib.decDigits_one (by omega : u % 10 < 10)]
  rw [Lib.decDigits, dif_neg h]
theorem itoa_len (n : Int) (h0 : -2 ^ 62 ≤ n) (h1 : n ≤ 2 ^ 62) : (Lib.itoa n).length ≤ 21 := Lib.itoa_length_le n (by omega) (by omega)
theorem digits_ok (u : Nat) (hu : u ≤ 2 ^ 60) : CallsTo C 54 [.int .i64 (u : Int)] (fun r => r = .val (.str (Lib.itoa u))) := by
  induction u using Nat.strongRecOn with
  | _ u ih =>
  refine callsTo_of_ev' Tryz.func54 rfl rfl rfl ?_
  refine al_dec (fun h => ?_) (fun h => ?_)
  · have hu : u < 10 := by omega
    refine ⟨((u + 1 : Nat) : Int), (show IntKind.i64.wrap ((u : Int) + 1) = _ from by rw [wrap64 (by omega) (by omega)]; omega), u + 1, rfl, u, rfl, by omega, (show u + 1 ≤ 10 by omega), [UInt8.ofNat (48 + u)], ?_, ?_⟩
    · have : ∀ p : Fin 10, List.drop p.val (List.take (p.val + 1) [48, 49, 50, 51, 52, 53, 54, 55, 56, 57]) = [UInt8.ofNat (48 + p.val)] := by decide +kernel
      exact this ⟨u, hu⟩
    · show Ret.val _ = _
      rw [itoa_small u hu]
  · have hu' : ¬ u < 10 := by omega
    refine ⟨by decide, ((u / 10 : Nat) : Int), ?_, _, ih (u / 10) (by omega) (by omega), ?_⟩
    · rw [show ((u : Int).tdiv 10) = ((u / 10 : Nat) : Int) from rfl]
      exact wrap64 (by omega) (by omega)
    rintro r rfl
    refine ⟨by decide, ((u % 10 : Nat) : Int), rfl, _, ih (u % 10) (by omega) (by omega), ?_⟩
    rintro r rfl
    have l1 := itoa_len ((u / 10 : Nat) : Int) (by omega) (by omega)
    have l2 := itoa_len ((u % 10 : Nat) : Int) (by omega) (by omega)
    refine ⟨by omega, ?_⟩
    show Ret.val _ = _
    rw [itoa_big u hu']
theorem digits_ok' (n : Int) (h0 : 0 ≤ n) (h1 : n ≤ 2 ^ 60) : CallsTo C 54 [.int .i64 n] (fun r => r = .val (.str (Lib.itoa n))) := by
  obtain ⟨u, rfl⟩ := Int.eq_ofNat_of_zero_le h0
  exact digits_ok u (by omega)
theorem rep_str_inv {imm : Nat → Nat → Prop} {w : World} {v : Value} {s : List UInt8} (h : Rep imm w v (.str s)) : v = .string ⟨s.toArray⟩ := by
  cases h
  rfl
theorem join_ok (l : List Bytes) (sep : Bytes) (hl : l.length ≤ 140737488355328) (hj : (Lib.join l sep).length ≤ 140737488355328) : CallsTo C 52 [encS l, .str sep] (fun r => r = .val (.str (Lib.join l sep))) := by
  refine ⟨⟨_, Tryz.func52, rfl, rfl⟩, fun imm w vs hJ hn hi hlv hr => ?_⟩
  match vs, hlv with
  | [v0, v1], _ =>
  have h := hr 0 v0 _ rfl rfl
  have h' := hr 1 v1 _ rfl rfl
  obtain rfl : v1 = .string ⟨sep.toArray⟩ := by cases h'; rfl
  unfold encS at h
  generalize hxs : l.map enc1 = xs at h
  have hlen : l.length = xs.length := by rw [← hxs, List.length_map]
  have hnone : ∀ (a : Option Addr) (c : Nat), l = [] → Calls C.P 52 #[.slice a 0 c, .string ⟨sep.toArray⟩] w fun e w' => ∃ v r, e = .returned v ∧ (r = .val (.str (Lib.join l sep))) ∧ RetOK imm w.heap.size w' v r ∧ Below w.heap.size w w' := fun a c he => by
    subst he
    refine (Tryz.strings_Join_none a c ⟨sep.toArray⟩ w).mono ?_
    rintro e w' ⟨rfl, rfl⟩
    exact ⟨_, _, rfl, rfl, .str _, Below.refl _ _⟩
  cases h with
  | sl0 a c =>
    exact hnone a c (List.length_eq_zero_iff.1 hlen)
  | sl b off c esz _ cell h1 h2 h3 h4 h5 h6 =>
    by_cases he : l = []
    · have : xs.length = 0 := by rw [← hlen, he]; rfl
      rw [this]
      exact hnone _ _ he
    · have hpos : 0 < l.length := by
        cases l with
        | nil => exact absurd rfl he
        | cons _ _ => simp
      have hget : ∀ (j : Nat) (hj : j < l.length), xs[j]? = some (enc1 l[j]) := fun j hj => by rw [← hxs, List.getElem?_map, List.getElem?_eq_getElem hj]; rfl
      have hesz : esz = 1 := (h1 0 _ (hget 0 hpos)).symm
      subst hesz
      have hcell : ∀ (j : Nat) (hj : j < l.length), w.cell? ⟨b, off + j, none⟩ = some (.string ⟨(l[j]).toArray⟩) := fun j hj => by
        have e1 := h3 j _ 0 _ (hget j hj) rfl
        have e2 := h5 j _ 0 _ (hget j hj) rfl
        rw [Nat.mul_one, Nat.add_zero] at e1
        rw [e1]
        rw [rep_str_inv e2]
      have hmap : (l.map fun s => (⟨s.toArray⟩ : ByteArray)).map (·.data.toList) = l := by
        rw [List.map_map]
        exact List.map_id'' (fun s => rfl) l
      have hlm : (l.map fun s => (⟨s.toArray⟩ : ByteArray)).length = xs.length := by rw [List.length_map, hlen]
      have key := Tryz.strings_Join b off c (l.map fun s => (⟨s.toArray⟩ : ByteArray)) ⟨sep.toArray⟩ w (fun j x hx => by
        rw [List.getElem?_map] at hx
        cases hq : l[j]? with
        | none => rw [hq] at hx; cases hx
        | some s =>
          rw [hq] at hx
          obtain rfl := Option.some.inj hx
          have hj := (List.getElem?_eq_some_iff.1 hq).1
          have := hcell j hj
          rw [(List.getElem?_eq_some_iff.1 hq).2] at this
          exact this) (cell_lt (hcell 0 hpos)).1 (by rw [List.length_map]; exact hl) (by rw [hlm]; exact h6) (by rw [hmap]; exact hj)
      rw [hmap, hlm] at key
      refine key.mono ?_
      rintro e w' ⟨rfl, hb⟩
      exact ⟨_, _, rfl, rfl, .str _, hb⟩
theorem join_sp : ∀ ws : List Bytes, Lib.join ws [32] = joinSp ws
  | [] => rfl
  | [w] => Lib.join_one w [32]
  | w :: v :: r => by
    have ih := join_sp (v :: r)
    rw [Lib.join_cons] at ih ⊢
    show w ++ Lib.joinTail [32] (v :: r) = w ++ 32 :: joinSp (v :: r)
    rw [← ih]
    simp [Lib.joinTail]
theorem join_lf : ∀ (ls : List Bytes), ls ≠ [] → Lib.join ls [10] ++ [10] = unlines ls
  | [], h => absurd rfl h
  | [l], _ => by rw [Lib.join_one]; simp [unlines]
  | l :: m :: r, _ => by
    have ih := join_lf (m :: r) (by simp)
    rw [Lib.join_cons] at ih ⊢
    have : unlines (l :: m :: r) = l ++ [10] ++ unlines (m :: r) := by simp [unlines]
    rw [this, ← ih]
    simp [Lib.joinTail]
end Qv

end

section
/- Contracts: Print and the reference's Print; the laws AccessCheck and AccessRoundTrip. No condition. -/
set_option linter.unusedVariables false
set_option linter.unusedSimpArgs false
open Go Go.Proofs Go.RowKit
namespace Qv
def printF (a : Access) : AV := .tup [.str (if checkF a = 0 then textF a else []), .int .i64 (checkF a)]
theorem joinSp_flat (w : Bytes) : ∀ r : List Bytes, joinSp (w :: r) = w ++ r.flatMap fun m => 32 :: m
  | [] => by simp [joinSp]
  | v :: r => by
    show w ++ 32 :: joinSp (v :: r) = _
    rw [joinSp_flat v r]
    simp
def headG (g : Group) : Bytes := [103, 114, 111, 117, 112, 32] ++ g.name ++ [58]
theorem wsG_head (g : Group) : joinSp (headG g :: g.members) = joinSp (wsG g) := by
  unfold wsG
  rw [joinSp_flat, joinSp_flat, List.flatMap_cons]
  simp [headG, wGroup]
theorem unlines_snoc (ls : List Bytes) (l : Bytes) : unlines (ls ++ [l]) = unlines ls ++ (l ++ [10]) := by simp [unlines]
theorem flat_len {M : Nat} : ∀ {ms : List Bytes}, (∀ m, m ∈ ms → m.length ≤ M) → (ms.flatMap fun m => 32 :: m).length ≤ ms.length * (M + 1)
  | [], _ => by simp
  | m :: ms, h => by
    have h1 := h m List.mem_cons_self
    have h2 := flat_len (ms := ms) fun x hx => h x (List.mem_cons_of_mem _ hx)
    rw [List.flatMap_cons, List.length_append, List.length_cons, List.length_cons, Nat.succ_mul]
    omega
def gLines (a : Access) (k : Nat) : List Bytes := joinSp (wsV a.votes) :: (a.groups.take k).map fun g => joinSp (wsG g)
def rLines (a : Access) (k : Nat) : List Bytes := (joinSp (wsV a.votes) :: a.groups.map fun g => joinSp (wsG g)) ++ (a.rules.take k).map fun r => joinSp (wsR r)
theorem gLines_step {a : Access} {k : Nat} (h : k < a.groups.length) : gLines a (k + 1) = gLines a k ++ [joinSp (wsG a.groups[k])] := by
  unfold gLines
  rw [List.take_add_one, List.getElem?_eq_getElem h, List.map_append]
  rfl
theorem rLines_step {a : Access} {k : Nat} (h : k < a.rules.length) : rLines a (k + 1) = rLines a k ++ [joinSp (wsR a.rules[k])] := by
  unfold rLines
  rw [List.take_add_one, List.getElem?_eq_getElem h, List.map_append, List.append_assoc]
  rfl
theorem gLines_all (a : Access) {k : Nat} (h : ¬ k < a.groups.length) : gLines a k = rLines a 0 := by
  unfold gLines rLines
  rw [List.take_of_length_le (by omega)]
  simp
theorem rLines_all (a : Access) {k : Nat} (h : ¬ k < a.rules.length) : rLines a k = linesA a := by
  unfold rLines linesA
  rw [List.take_of_length_le (by omega)]
  rfl
theorem gLines_mem {a : Access} {k : Nat} {l : Bytes} (h : l ∈ gLines a k) : l ∈ linesA a := by
  unfold gLines at h
  unfold linesA
  rcases List.mem_cons.1 h with rfl | h
  · exact List.mem_cons_self
  · obtain ⟨g, hg, rfl⟩ := List.mem_map.1 h
    exact List.mem_cons_of_mem _ (List.mem_append_left _ (List.mem_map_of_mem (f := fun g => joinSp (wsG g)) (List.mem_of_mem_take hg)))
theorem rLines_mem {a : Access} {k : Nat} {l : Bytes} (h : l ∈ rLines a k) : l ∈ linesA a := by
  unfold rLines at h
  unfold linesA
  rcases List.mem_append.1 h with h | h
  · rcases List.mem_cons.1 h with rfl | h
    · exact List.mem_cons_self
    · exact List.mem_cons_of_mem _ (List.mem_append_left _ h)
  · obtain ⟨r, hr, rfl⟩ := List.mem_map.1 h
    exact List.mem_cons_of_mem _ (List.mem_append_right _ (List.mem_map_of_mem (f := fun r => joinSp (wsR r)) (List.mem_of_mem_take hr)))
theorem gLines_len (a : Access) (k : Nat) : (gLines a k).length ≤ 1 + k := by
  unfold gLines
  rw [List.length_cons, List.length_map, List.length_take]
  omega
theorem rLines_len (a : Access) (k : Nat) : (rLines a k).length ≤ 1 + a.groups.length + k := by
  unfold rLines
  rw [List.length_append, List.length_cons, List.length_map, List.length_map, List.length_take]
  omega
structure PrintA (a : Access) : Prop where
  gl : a.groups.length ≤ 6
  rl : a.rules.length ≤ 8
  v0 : 0 ≤ a.votes
  v1 : a.votes ≤ 100
  line : ∀ l, l ∈ linesA a → l.length ≤ 400
  text : (textF a).length ≤ 8000
  group : ∀ g, g ∈ a.groups → g.name.length ≤ 40 ∧ g.members.length ≤ 6 ∧ ∀ m, m ∈ g.members → m.length ≤ 40
  rule : ∀ r, r ∈ a.rules → r.who.length ≤ 41 ∧ (1 ≤ r.right ∧ r.right ≤ 4) ∧ r.ref.length ≤ 40 ∧ r.path.length ≤ 40
theorem printA_of {a : Access} (h : checkF a = 0) (ht : TinyA a) : PrintA a := by
  have hv := checkF_zero.1 h
  obtain ⟨t1, t2⟩ := text_len h ht
  refine ⟨ht.gl, ht.rl, hv.votes.1, hv.votes.2, t1, t2, fun g hg => ?_, fun r hr => ?_⟩
  · obtain ⟨i, hi⟩ := List.getElem?_of_mem hg
    obtain ⟨h1, h2, h3⟩ := groupE_zero (hv.groups i g hi)
    exact ⟨(name_word h1).2.1, ht.members g hg, fun m hm => (name_word (members_names h3 m hm)).2.1⟩
  · obtain ⟨h1, h2, h3, h4, h5⟩ := checkRule_zero.1 (hv.rules r hr)
    obtain ⟨g1, g2⟩ := ht.globs r hr
    exact ⟨(wordP_who h1).2, h3, g1, g2⟩
theorem find_word {k : Int} (h1 : 1 ≤ k) (h2 : k ≤ 4) : findM (.int .i64 k) (zipA rKeys (mapP rWords)) = some (.p (.str (rightW k.toNat))) := by
  have : k = 1 ∨ k = 2 ∨ k = 3 ∨ k = 4 := by omega
  rcases this with rfl | rfl | rfl | rfl <;> rfl
theorem fits_words : ∀ p, p ∈ zipA rKeys (mapP rWords) → fitsK false [.int .i64] p.1 = true := fitsAll (by kernel_rfl)
set_option maxHeartbeats 2000000 in
theorem print_ok (a : Access) (hf : FineA a) (ht : TinyA a) : CallsTo C 25 [.agg (encAccess a)] (fun r => r = .val (printF a)) := by
  refine callsTo_of_ev' Tryz.func25 rfl rfl rfl ?_
  refine ⟨_, check_ok a hf, fun r hr => ?_⟩
  subst hr
  unfold printF
  refine al_ne (fun he => ?_) (fun he => ?_)
  · have he : checkF a ≠ 0 := he
    rw [if_neg he]
    exact rfl
  have he : checkF a = 0 := he
  obtain ⟨hgl, hrl, hv0, hv1, hline, htext, hgroup, hrule⟩ := printA_of he ht
  have hvl := (votes_text hv0 hv1).2.2
  rw [if_pos he, he]
  refine ⟨_, itoa_ok a.votes (by omega) (by omega), fun r hr => ?_⟩
  subst hr
  refine ⟨by show 6 + (Lib.itoa a.votes).length < 2 ^ 62; omega, ?_⟩
  refine loopR 70 (fun k : Nat => [(1, .ptr 1 0), (5, .tip 20 9 1 ((gLines a k).map enc1)), (22, .p (encGroups a.groups)), (23, .p (.int .i64 (a.groups.map encGroup).length)), (24, .p (.int .i64 k))]) (fun _ => [(1, mapP (encAccess a))]) (fun k => k ≤ a.groups.length) (fun k => a.groups.length - k) 0 (Nat.zero_le _) rfl ⟨Weak.refl _, Weak.refl _, Weak.refl _, Weak.refl _, Weak.refl _, trivial⟩ ⟨hasO_one rfl, trivial⟩ ?_
  intro k hk
  have hgln := gLines_len a k
  refine al_lt (fun hlt => ?_) (fun hge => ?_)
  · have hlt : k < a.groups.length := hlt
    have hw : IntKind.i64.wrap ((k : Int) + 1) = ((k + 1 : Nat) : Int) := by rw [wrap64 (by omega) (by omega)]; omega
    have hstep := gLines_step hlt
    obtain ⟨p1, p2, p3⟩ := hgroup _ (List.getElem_mem hlt)
    have hln : (joinSp (wsG a.groups[k])).length ≤ 400 := hline _ (gLines_mem (k := k + 1) (by rw [hstep]; simp))
    have ig : (a.groups.map encGroup)[((k : Nat) : Int).toNat]? = some (encGroup a.groups[k]) := idx_map (f := encGroup) rfl hlt
    generalize a.groups[k] = g at hstep p1 p2 p3 hln ig
    refine ⟨by omega, [.str g.name, encS g.members], ig, rfl, ?_⟩
    refine ⟨by show 6 + g.name.length < 2 ^ 62; omega, ?_⟩
    refine ⟨by show (([103, 114, 111, 117, 112, 32] : Bytes) ++ g.name).length + 1 < 2 ^ 62; rw [List.length_append]; show 6 + g.name.length + 1 < 2 ^ 62; omega, ?_⟩
    refine ⟨all_one rfl, all_enc1 _, ?_, (headG g :: g.members).map enc1, rfl, ?_⟩
    · show (1 + (g.members.map enc1).length) * 16 ≤ 140737488355328
      rw [List.length_map]
      omega
    have hjs : Lib.join (headG g :: g.members) [32] = joinSp (wsG g) := by rw [join_sp, wsG_head]
    refine ⟨_, join_ok (headG g :: g.members) [32] (by rw [List.length_cons]; omega) (by rw [hjs]; omega), fun r hr => ?_⟩
    subst hr
    rw [hjs]
    refine ⟨all_enc1 _, all_one rfl, ?_, (gLines a (k + 1)).map enc1, by rw [hstep, List.map_append]; rfl, ?_⟩
    · show (((gLines a k).map enc1).length + 1) * 16 ≤ 140737488355328
      rw [List.length_map]
      omega
    exact ⟨_, hw, roundR (k + 1) hlt (by omega) rfl ⟨Weak.refl _, Weak.refl _, Weak.refl _, Weak.refl _, Weak.refl _, trivial⟩ ⟨hasO_one rfl, trivial⟩⟩
  · have hge : ¬ k < a.groups.length := hge
    refine loopR 70 (fun k : Nat => [(1, .ptr 1 0), (5, .tip 20 9 1 ((rLines a k).map enc1)), (42, .p (.sl (a.rules.map encRule))), (43, .p (.int .i64 (a.rules.map encRule).length)), (44, .p (.int .i64 k))]) (fun _ => [(1, mapP (encAccess a))]) (fun k => k ≤ a.rules.length) (fun k => a.rules.length - k) 0 (Nat.zero_le _) rfl ⟨Weak.refl _, by rw [← gLines_all a hge]; exact Weak.refl _, Weak.refl _, Weak.refl _, Weak.refl _, trivial⟩ ⟨hasO_one rfl, trivial⟩ ?_
    intro k hk
    have hrln := rLines_len a k
    refine al_lt (fun hlt => ?_) (fun hge => ?_)
    · have hlt : k < a.rules.length := hlt
      have hw : IntKind.i64.wrap ((k : Int) + 1) = ((k + 1 : Nat) : Int) := by rw [wrap64 (by omega) (by omega)]; omega
      have hstep := rLines_step hlt
      obtain ⟨p1, p2, p3, p4⟩ := hrule _ (List.getElem_mem hlt)
      have hln : (joinSp (wsR a.rules[k])).length ≤ 400 := hline _ (rLines_mem (k := k + 1) (by rw [hstep]; simp))
      have ir : (a.rules.map encRule)[((k : Nat) : Int).toNat]? = some (encRule a.rules[k]) := idx_map (f := encRule) rfl hlt
      generalize a.rules[k] = r at hstep p1 p2 p3 p4 hln ir
      refine ⟨by omega, [.bool r.flag, .str r.who, .int .i64 r.right, .str r.ref, .str r.path], ir, rfl, ?_⟩
      cases hfl : r.flag with
      | true =>
        have hwr : Lib.join [wAllow, r.who, rightW r.right.toNat, r.ref, r.path] [32] = joinSp (wsR r) := by
          rw [join_sp]
          unfold wsR wordR
          rw [hfl]
          rfl
        refine ⟨.lex 15, by kernel_rfl, ?_⟩
        refine ⟨_, rfl, ?_⟩
        refine ⟨_, rfl, ?_⟩
        refine ⟨_, rfl, ?_⟩
        refine ⟨_, rfl, ?_⟩
        refine ⟨.p (.mp rKeys rWords), ⟨_, rights_ok, fun r hr => by subst hr; rfl⟩, ?_⟩
        refine ⟨_, rfl, ?_⟩
        refine ⟨_, rfl, ?_⟩
        refine ⟨.p (.str (rightW r.right.toNat)), ⟨[.int .i64], by kernel_rfl, rfl, fits_words, _, find_word p2.1 p2.2, rfl⟩, ?_⟩
        refine ⟨_, rfl, ?_⟩
        refine ⟨_, rfl, ?_⟩
        refine ⟨_, rfl, ?_⟩
        refine ⟨_, rfl, ?_⟩
        refine ⟨_, rfl, ?_⟩
        refine ⟨.p (.str (joinSp (wsR r))), ⟨_, join_ok [wAllow, r.who, rightW r.right.toNat, r.ref, r.path] [32] (by simp) (by rw [hwr]; omega), fun r hr => by subst hr; rw [hwr]; rfl⟩, ?_⟩
        refine ⟨_, rfl, ?_⟩
        refine ⟨all_enc1 _, all_one rfl, ?_, (rLines a (k + 1)).map enc1, by rw [hstep, List.map_append]; rfl, ?_⟩
        · show (((rLines a k).map enc1).length + 1) * 16 ≤ 140737488355328
          rw [List.length_map]
          omega
        exact ⟨_, hw, roundR (k + 1) hlt (by omega) rfl ⟨Weak.refl _, Weak.refl _, Weak.refl _, Weak.refl _, Weak.refl _, trivial⟩ ⟨hasO_one rfl, trivial⟩⟩
      | false =>
        have hwr : Lib.join [wDeny, r.who, rightW r.right.toNat, r.ref, r.path] [32] = joinSp (wsR r) := by
          rw [join_sp]
          unfold wsR wordR
          rw [hfl]
          rfl
        refine ⟨.lex 15, by kernel_rfl, ?_⟩
        refine ⟨_, rfl, ?_⟩
        refine ⟨_, rfl, ?_⟩
        refine ⟨_, rfl, ?_⟩
        refine ⟨_, rfl, ?_⟩
        refine ⟨.p (.mp rKeys rWords), ⟨_, rights_ok, fun r hr => by subst hr; rfl⟩, ?_⟩
        refine ⟨_, rfl, ?_⟩
        refine ⟨_, rfl, ?_⟩
        refine ⟨.p (.str (rightW r.right.toNat)), ⟨[.int .i64], by kernel_rfl, rfl, fits_words, _, find_word p2.1 p2.2, rfl⟩, ?_⟩
        refine ⟨_, rfl, ?_⟩
        refine ⟨_, rfl, ?_⟩
        refine ⟨_, rfl, ?_⟩
        refine ⟨_, rfl, ?_⟩
        refine ⟨_, rfl, ?_⟩
        refine ⟨.p (.str (joinSp (wsR r))), ⟨_, join_ok [wDeny, r.who, rightW r.right.toNat, r.ref, r.path] [32] (by simp) (by rw [hwr]; omega), fun r hr => by subst hr; rw [hwr]; rfl⟩, ?_⟩
        refine ⟨_, rfl, ?_⟩
        refine ⟨all_enc1 _, all_one rfl, ?_, (rLines a (k + 1)).map enc1, by rw [hstep, List.map_append]; rfl, ?_⟩
        · show (((rLines a k).map enc1).length + 1) * 16 ≤ 140737488355328
          rw [List.length_map]
          omega
        exact ⟨_, hw, roundR (k + 1) hlt (by omega) rfl ⟨Weak.refl _, Weak.refl _, Weak.refl _, Weak.refl _, Weak.refl _, trivial⟩ ⟨hasO_one rfl, trivial⟩⟩
    · have hge : ¬ k < a.rules.length := hge
      rw [rLines_all a hge]
      have hjl : Lib.join (linesA a) [10] ++ [10] = textF a := join_lf (linesA a) (by unfold linesA; simp)
      have hjn : (Lib.join (linesA a) [10]).length ≤ 8000 := by
        have := congrArg List.length hjl
        rw [List.length_append] at this
        omega
      have hln : (linesA a).length ≤ 15 := by
        rw [← rLines_all a hge]
        have : (rLines a k).length ≤ 1 + a.groups.length + k := hrln
        omega
      refine ⟨_, join_ok (linesA a) [10] (by omega) (by omega), fun r hr => ?_⟩
      subst hr
      refine ⟨by show (Lib.join (linesA a) [10]).length + 1 < 2 ^ 62; omega, ?_⟩
      show Ret.val (.tup [.str (Lib.join (linesA a) [10] ++ [10]), .int .i64 0]) = _
      rw [hjl]
def gText (a : Access) (k : Nat) : Bytes := unlines (gLines a k)
def rText (a : Access) (k : Nat) : Bytes := unlines (rLines a k)
set_option maxRecDepth 100000 in
set_option maxHeartbeats 4000000 in
theorem refPrint_ok (a : Access) (hf : FineA a) (ht : TinyA a) : CallsTo C 26 [.agg (encAccess a)] (fun r => r = .val (printF a)) := by
  refine callsTo_of_ev' Tryz.func26 rfl rfl rfl ?_
  refine ⟨_, refCheckP_ok a hf, fun r hr => ?_⟩
  subst hr
  unfold printF
  refine al_ne (fun he => ?_) (fun he => ?_)
  · have he : checkF a ≠ 0 := he
    rw [if_neg he]
    exact rfl
  have he : checkF a = 0 := he
  obtain ⟨hgl, hrl, hv0, hv1, hline, htext, hgroup, hrule⟩ := printA_of he ht
  have hvl := (votes_text hv0 hv1).2.2
  rw [if_pos he, he]
  refine ⟨_, digits_ok' a.votes hv0 (by omega), fun r hr => ?_⟩
  subst hr
  refine ⟨by show 6 + (Lib.itoa a.votes).length < 2 ^ 62; omega, ?_⟩
  refine ⟨by rw [List.length_append]; show 6 + (Lib.itoa a.votes).length + 1 < 2 ^ 62; omega, ?_⟩
  have h0 : ([118, 111, 116, 101, 115, 32] : Bytes) ++ Lib.itoa a.votes ++ [10] = gText a 0 := by
    simp [gText, gLines, unlines, wsV, joinSp, wVotes]
  refine loopR 99 (fun k : Nat => [(1, .ptr 1 0), (5, .p (.str (gText a k))), (6, .p (.int .i64 k))]) (fun _ => [(1, mapP (encAccess a))]) (fun k => k ≤ a.groups.length) (fun k => a.groups.length - k) 0 (Nat.zero_le _) rfl ⟨Weak.refl _, by rw [← h0]; exact Weak.refl _, Weak.refl _, trivial⟩ ⟨hasO_one rfl, trivial⟩ ?_
  clear h0
  intro k hk
  have hgtl : (gText a k).length ≤ 15 * 401 := by
    have h1 := unlines_len (M := 400) (ls := gLines a k) fun l hl => hline l (gLines_mem hl)
    have h2 := gLines_len a k
    have : (gLines a k).length * (400 + 1) ≤ 15 * 401 := Nat.mul_le_mul_right _ (by omega)
    show (unlines (gLines a k)).length ≤ _
    omega
  refine al_lt (fun hlt => ?_) (fun hge => ?_)
  · have hlt : k < a.groups.length := hlt
    have hw : IntKind.i64.wrap ((k : Int) + 1) = ((k + 1 : Nat) : Int) := by rw [wrap64 (by omega) (by omega)]; omega
    obtain ⟨p1, p2, p3⟩ := hgroup _ (List.getElem_mem hlt)
    have ig : (a.groups.map encGroup)[((k : Nat) : Int).toNat]? = some [.str a.groups[k].name, encS a.groups[k].members] := idx_map (f := encGroup) rfl hlt
    have hend : gText a k ++ (headG a.groups[k] ++ a.groups[k].members.flatMap fun m => 32 :: m) ++ [10] = gText a (k + 1) := by
      unfold gText
      rw [gLines_step hlt, unlines_snoc, ← wsG_head, joinSp_flat]
      simp
    refine ⟨by show (gText a k).length + 6 < 2 ^ 62; omega, ?_⟩
    refine ⟨by omega, _, ig, rfl, ?_⟩
    refine ⟨by rw [List.length_append]; show (gText a k).length + 6 + a.groups[k].name.length < 2 ^ 62; omega, ?_⟩
    refine ⟨by rw [List.length_append, List.length_append]; show (gText a k).length + 6 + a.groups[k].name.length + 1 < 2 ^ 62; omega, ?_⟩
    have h0 : gText a k ++ [103, 114, 111, 117, 112, 32] ++ a.groups[k].name ++ [58] = gText a k ++ (headG a.groups[k] ++ (a.groups[k].members.take 0).flatMap fun m => 32 :: m) := by simp [headG]
    refine loopR 99 (fun j : Nat => [(1, .ptr 1 0), (5, .p (.str (gText a k ++ (headG a.groups[k] ++ (a.groups[k].members.take j).flatMap fun m => 32 :: m)))), (6, .p (.int .i64 k)), (7, .p (.int .i64 j))]) (fun _ => [(1, mapP (encAccess a))]) (fun j => j ≤ a.groups[k].members.length) (fun j => a.groups[k].members.length - j) 0 (Nat.zero_le _) rfl ⟨Weak.refl _, by rw [← h0]; exact Weak.refl _, Weak.refl _, Weak.refl _, trivial⟩ ⟨hasO_one rfl, trivial⟩ ?_
    clear h0
    intro j hj
    have hjt : (gText a k ++ (headG a.groups[k] ++ (a.groups[k].members.take j).flatMap fun m => 32 :: m)).length ≤ 7000 := by
      have h1 := flat_len (M := 40) (ms := a.groups[k].members.take j) fun m hm => p3 m (List.mem_of_mem_take hm)
      have h2 : (a.groups[k].members.take j).length * (40 + 1) ≤ 6 * 41 := Nat.mul_le_mul_right _ (by rw [List.length_take]; omega)
      rw [List.length_append, List.length_append]
      have h3 : (headG a.groups[k]).length = 6 + a.groups[k].name.length + 1 := by unfold headG; rw [List.length_append, List.length_append]; rfl
      omega
    refine ⟨by omega, _, ig, rfl, ?_⟩
    refine al_lt (fun hjlt => ?_) (fun hjge => ?_)
    · have hjlt : j < a.groups[k].members.length := hjlt
      have hwj : IntKind.i64.wrap ((j : Int) + 1) = ((j + 1 : Nat) : Int) := by rw [wrap64 (by omega) (by omega)]; omega
      have hmj := p3 _ (List.getElem_mem hjlt)
      refine ⟨by show (gText a k ++ (headG a.groups[k] ++ (a.groups[k].members.take j).flatMap fun m => 32 :: m)).length + 1 < 2 ^ 62; omega, ?_⟩
      refine ⟨by omega, _, ig, rfl, ?_⟩
      refine ⟨by omega, _, idx_map rfl hjlt, rfl, ?_⟩
      refine ⟨by rw [List.length_append]; show (gText a k ++ (headG a.groups[k] ++ (a.groups[k].members.take j).flatMap fun m => 32 :: m)).length + 1 + a.groups[k].members[j].length < 2 ^ 62; omega, ?_⟩
      have hs : gText a k ++ (headG a.groups[k] ++ (a.groups[k].members.take j).flatMap fun m => 32 :: m) ++ [32] ++ a.groups[k].members[j] = gText a k ++ (headG a.groups[k] ++ (a.groups[k].members.take (j + 1)).flatMap fun m => 32 :: m) := by
        have hsn : a.groups[k].members.take (j + 1) = a.groups[k].members.take j ++ [a.groups[k].members[j]] := by rw [List.take_add_one, List.getElem?_eq_getElem hjlt]; rfl
        rw [hsn, List.flatMap_append]
        simp
      exact ⟨_, hwj, roundR (j + 1) hjlt (by omega) rfl ⟨Weak.refl _, by rw [← hs]; exact Weak.refl _, Weak.refl _, Weak.refl _, trivial⟩ ⟨hasO_one rfl, trivial⟩⟩
    · have hjge : ¬ j < a.groups[k].members.length := hjge
      have hta : a.groups[k].members.take j = a.groups[k].members := List.take_of_length_le (by omega)
      rw [hta] at hjt ⊢
      refine ⟨by show (gText a k ++ (headG a.groups[k] ++ a.groups[k].members.flatMap fun m => 32 :: m)).length + 1 < 2 ^ 62; omega, ?_⟩
      exact ⟨_, hw, roundR (k + 1) hlt (by omega) rfl ⟨Weak.refl _, by rw [← hend]; exact Weak.refl _, Weak.refl _, trivial⟩ ⟨hasO_one rfl, trivial⟩⟩
  · have hge : ¬ k < a.groups.length := hge
    refine loopR 99 (fun k : Nat => [(1, .ptr 1 0), (5, .p (.str (rText a k))), (8, .p (.int .i64 k))]) (fun _ => [(1, mapP (encAccess a))]) (fun k => k ≤ a.rules.length) (fun k => a.rules.length - k) 0 (Nat.zero_le _) rfl ⟨Weak.refl _, by unfold rText; rw [← gLines_all a hge]; exact Weak.refl _, Weak.refl _, trivial⟩ ⟨hasO_one rfl, trivial⟩ ?_
    intro k hk
    have hrtl : (rText a k).length ≤ 15 * 401 := by
      have h1 := unlines_len (M := 400) (ls := rLines a k) fun l hl => hline l (rLines_mem hl)
      have h2 := rLines_len a k
      have : (rLines a k).length * (400 + 1) ≤ 15 * 401 := Nat.mul_le_mul_right _ (by omega)
      show (unlines (rLines a k)).length ≤ _
      omega
    refine al_lt (fun hlt => ?_) (fun hge => ?_)
    · have hlt : k < a.rules.length := hlt
      have hw : IntKind.i64.wrap ((k : Int) + 1) = ((k + 1 : Nat) : Int) := by rw [wrap64 (by omega) (by omega)]; omega
      have hstep : rText a (k + 1) = rText a k ++ (joinSp (wsR a.rules[k]) ++ [10]) := by
        unfold rText
        rw [rLines_step hlt, unlines_snoc]
      obtain ⟨p1, p2, p3, p4⟩ := hrule _ (List.getElem_mem hlt)
      have p5 := (wordP_right p2.1 p2.2).2.1
      have ir : (a.rules.map encRule)[((k : Nat) : Int).toNat]? = some (encRule a.rules[k]) := idx_map (f := encRule) rfl hlt
      generalize a.rules[k] = r at hstep p1 p2 p3 p4 p5 ir
      refine ⟨by omega, [.bool r.flag, .str r.who, .int .i64 r.right, .str r.ref, .str r.path], ir, rfl, ?_⟩
      generalize rText a k = T at hstep hrtl ⊢
      have hright : CallsTo C 55 [.int .i64 r.right] (fun x => x = .val (.str (rightW r.right.toNat))) := by
        have := refRight_ok r.right.toNat (by omega)
        rw [Int.toNat_of_nonneg (by omega)] at this
        exact this
      cases hfl : r.flag with
      | true =>
        have hfin : T ++ [97, 108, 108, 111, 119, 32] ++ r.who ++ [32] ++ rightW r.right.toNat ++ [32] ++ r.ref ++ [32] ++ r.path ++ [10] = rText a (k + 1) := by
          rw [hstep]
          simp [wsR, joinSp, wordR, hfl, wAllow, wDeny]
        have hT0 : (T ++ [97, 108, 108, 111, 119, 32]).length = T.length + 6 := by rw [List.length_append]; rfl
        refine ⟨by show T.length + 6 < 2 ^ 62; omega, ?_⟩
        generalize T ++ [97, 108, 108, 111, 119, 32] = T0 at hfin hT0 ⊢
        have hT1 : (T0 ++ r.who).length = T0.length + r.who.length := List.length_append
        have hT2 : (T0 ++ r.who ++ [32]).length = T0.length + r.who.length + 1 := by rw [List.length_append, hT1]; rfl
        refine ⟨.lex 19, by kernel_rfl, ?_⟩
        refine ⟨_, rfl, ?_⟩
        refine ⟨_, rfl, ?_⟩
        refine ⟨_, rfl, ?_⟩
        refine ⟨.p (.str (T0 ++ r.who)), ⟨by show T0.length + r.who.length < 2 ^ 62; omega, rfl⟩, ?_⟩
        refine ⟨.p (.str (T0 ++ r.who ++ [32])), ⟨by rw [hT1]; show T0.length + r.who.length + 1 < 2 ^ 62; omega, rfl⟩, ?_⟩
        refine ⟨_, rfl, ?_⟩
        refine ⟨_, rfl, ?_⟩
        refine ⟨.p (.str (rightW r.right.toNat)), ⟨_, hright, fun r hr => by subst hr; rfl⟩, ?_⟩
        generalize T0 ++ r.who ++ [32] = T1 at hfin hT2 ⊢
        have hT3 : (T1 ++ rightW r.right.toNat).length = T1.length + (rightW r.right.toNat).length := List.length_append
        have hT4 : (T1 ++ rightW r.right.toNat ++ [32]).length = T1.length + (rightW r.right.toNat).length + 1 := by rw [List.length_append, hT3]; rfl
        refine ⟨.p (.str (T1 ++ rightW r.right.toNat)), ⟨by omega, rfl⟩, ?_⟩
        refine ⟨.p (.str (T1 ++ rightW r.right.toNat ++ [32])), ⟨by rw [hT3]; show T1.length + (rightW r.right.toNat).length + 1 < 2 ^ 62; omega, rfl⟩, ?_⟩
        generalize T1 ++ rightW r.right.toNat ++ [32] = T2 at hfin hT4 ⊢
        refine ⟨_, rfl, ?_⟩
        refine ⟨_, rfl, ?_⟩
        have hT5 : (T2 ++ r.ref).length = T2.length + r.ref.length := List.length_append
        have hT6 : (T2 ++ r.ref ++ [32]).length = T2.length + r.ref.length + 1 := by rw [List.length_append, hT5]; rfl
        refine ⟨.p (.str (T2 ++ r.ref)), ⟨by show T2.length + r.ref.length < 2 ^ 62; omega, rfl⟩, ?_⟩
        refine ⟨.p (.str (T2 ++ r.ref ++ [32])), ⟨by rw [hT5]; show T2.length + r.ref.length + 1 < 2 ^ 62; omega, rfl⟩, ?_⟩
        generalize T2 ++ r.ref ++ [32] = T3 at hfin hT6 ⊢
        refine ⟨_, rfl, ?_⟩
        refine ⟨_, rfl, ?_⟩
        have hT7 : (T3 ++ r.path).length = T3.length + r.path.length := List.length_append
        refine ⟨.p (.str (T3 ++ r.path)), ⟨by show T3.length + r.path.length < 2 ^ 62; omega, rfl⟩, ?_⟩
        refine ⟨.p (.str (T3 ++ r.path ++ [10])), ⟨by rw [hT7]; show T3.length + r.path.length + 1 < 2 ^ 62; omega, rfl⟩, ?_⟩
        rw [hfin]
        refine ⟨_, rfl, ?_⟩
        exact ⟨_, hw, roundR (k + 1) hlt (by omega) rfl ⟨Weak.refl _, Weak.refl _, Weak.refl _, trivial⟩ ⟨hasO_one rfl, trivial⟩⟩
      | false =>
        have hfin : T ++ [100, 101, 110, 121, 32] ++ r.who ++ [32] ++ rightW r.right.toNat ++ [32] ++ r.ref ++ [32] ++ r.path ++ [10] = rText a (k + 1) := by
          rw [hstep]
          simp [wsR, joinSp, wordR, hfl, wAllow, wDeny]
        have hT0 : (T ++ [100, 101, 110, 121, 32]).length = T.length + 5 := by rw [List.length_append]; rfl
        refine ⟨by show T.length + 5 < 2 ^ 62; omega, ?_⟩
        generalize T ++ [100, 101, 110, 121, 32] = T0 at hfin hT0 ⊢
        have hT1 : (T0 ++ r.who).length = T0.length + r.who.length := List.length_append
        have hT2 : (T0 ++ r.who ++ [32]).length = T0.length + r.who.length + 1 := by rw [List.length_append, hT1]; rfl
        refine ⟨.lex 19, by kernel_rfl, ?_⟩
        refine ⟨_, rfl, ?_⟩
        refine ⟨_, rfl, ?_⟩
        refine ⟨_, rfl, ?_⟩
        refine ⟨.p (.str (T0 ++ r.who)), ⟨by show T0.length + r.who.length < 2 ^ 62; omega, rfl⟩, ?_⟩
        refine ⟨.p (.str (T0 ++ r.who ++ [32])), ⟨by rw [hT1]; show T0.length + r.who.length + 1 < 2 ^ 62; omega, rfl⟩, ?_⟩
        refine ⟨_, rfl, ?_⟩
        refine ⟨_, rfl, ?_⟩
        refine ⟨.p (.str (rightW r.right.toNat)), ⟨_, hright, fun r hr => by subst hr; rfl⟩, ?_⟩
        generalize T0 ++ r.who ++ [32] = T1 at hfin hT2 ⊢
        have hT3 : (T1 ++ rightW r.right.toNat).length = T1.length + (rightW r.right.toNat).length := List.length_append
        have hT4 : (T1 ++ rightW r.right.toNat ++ [32]).length = T1.length + (rightW r.right.toNat).length + 1 := by rw [List.length_append, hT3]; rfl
        refine ⟨.p (.str (T1 ++ rightW r.right.toNat)), ⟨by omega, rfl⟩, ?_⟩
        refine ⟨.p (.str (T1 ++ rightW r.right.toNat ++ [32])), ⟨by rw [hT3]; show T1.length + (rightW r.right.toNat).length + 1 < 2 ^ 62; omega, rfl⟩, ?_⟩
        generalize T1 ++ rightW r.right.toNat ++ [32] = T2 at hfin hT4 ⊢
        refine ⟨_, rfl, ?_⟩
        refine ⟨_, rfl, ?_⟩
        have hT5 : (T2 ++ r.ref).length = T2.length + r.ref.length := List.length_append
        have hT6 : (T2 ++ r.ref ++ [32]).length = T2.length + r.ref.length + 1 := by rw [List.length_append, hT5]; rfl
        refine ⟨.p (.str (T2 ++ r.ref)), ⟨by show T2.length + r.ref.length < 2 ^ 62; omega, rfl⟩, ?_⟩
        refine ⟨.p (.str (T2 ++ r.ref ++ [32])), ⟨by rw [hT5]; show T2.length + r.ref.length + 1 < 2 ^ 62; omega, rfl⟩, ?_⟩
        generalize T2 ++ r.ref ++ [32] = T3 at hfin hT6 ⊢
        refine ⟨_, rfl, ?_⟩
        refine ⟨_, rfl, ?_⟩
        have hT7 : (T3 ++ r.path).length = T3.length + r.path.length := List.length_append
        refine ⟨.p (.str (T3 ++ r.path)), ⟨by show T3.length + r.path.length < 2 ^ 62; omega, rfl⟩, ?_⟩
        refine ⟨.p (.str (T3 ++ r.path ++ [10])), ⟨by rw [hT7]; show T3.length + r.path.length + 1 < 2 ^ 62; omega, rfl⟩, ?_⟩
        rw [hfin]
        refine ⟨_, rfl, ?_⟩
        exact ⟨_, hw, roundR (k + 1) hlt (by omega) rfl ⟨Weak.refl _, Weak.refl _, Weak.refl _, trivial⟩ ⟨hasO_one rfl, trivial⟩⟩
    · have hge : ¬ k < a.rules.length := hge
      show Ret.val (.tup [.str (rText a k), .int .i64 0]) = _
      unfold rText
      rw [rLines_all a hge]
      rfl
end Qv

end

section
/- The laws AccessCheck and AccessRoundTrip as contracts. No condition. -/
set_option linter.unusedVariables false
set_option linter.unusedSimpArgs false
open Go Go.Proofs Go.RowKit
namespace Qv
set_option maxHeartbeats 1000000 in
theorem check_law_ok (a : Access) (hs : SzA a) : CallsTo C 9 [.agg (encAccess a)] (fun r => r = .val (.bool true)) := by
  refine callsTo_of_ev' Tryz.func9 rfl rfl rfl ?_
  refine ⟨_, great_ok a hs, fun r hr => ?_⟩
  subst hr
  cases hg : greatA a with
  | true =>
    refine ⟨_, awake_ok, fun r hr => ?_⟩
    subst hr
    exact rfl
  | false =>
  have ht := tiny_of hg
  have hf := fineA_of hs ht
  refine ⟨_, print_ok a hf ht, fun r hr => ?_⟩
  subst hr
  refine ⟨_, refPrint_ok a hf ht, fun r hr => ?_⟩
  subst hr
  refine ⟨.lex 19, by kernel_rfl, ?_⟩
  refine ⟨_, rfl, ?_⟩
  refine ⟨.p (.int .i64 (checkF a)), ⟨_, check_ok a hf, fun r hr => by subst hr; rfl⟩, ?_⟩
  refine ⟨_, rfl, ?_⟩
  refine ⟨.p (.int .i64 (checkF a)), ⟨_, refCheckP_ok a hf, fun r hr => by subst hr; rfl⟩, ?_⟩
  refine ⟨.p (.bool true), ⟨fun t ht => by rw [ht]; simp⟩, ?_⟩
  refine ⟨_, rfl, ?_⟩
  refine ⟨_, rfl, ?_⟩
  refine ⟨_, rfl, ?_⟩
  refine ⟨.p (.bool true), ⟨fun t ht => by rw [ht]; simp⟩, ?_⟩
  refine ⟨_, rfl, ?_⟩
  refine ⟨_, rfl, ?_⟩
  refine ⟨_, rfl, ?_⟩
  refine ⟨_, rfl, ?_⟩
  refine ⟨.p (.bool true), ⟨fun t ht => by rw [ht]; simp⟩, ?_⟩
  refine ⟨_, rfl, ?_⟩
  refine ⟨_, rfl, ?_⟩
  refine ⟨.p (.bool true), ⟨_, awake_ok, fun r hr => by subst hr; rfl⟩, ?_⟩
  refine ⟨_, rfl, ?_⟩
  refine ⟨_, rfl, ?_⟩
  exact rfl
end Qv

end
