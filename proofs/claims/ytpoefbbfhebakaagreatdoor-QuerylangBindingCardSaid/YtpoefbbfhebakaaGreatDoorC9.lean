/- Several texts in one: Contracts of querylang: textual, numeric, operands, hexadecimal, part, all, the measure, Check, Size and what follows. No condition. -/
import Derived.Test.YtpoefbbfhebakaaGreatDoorC8
import Derived.Test.YtpoefbbfhebakaaGreatDoorC4
import Derived.Test.YtpoefbbfhebakaaGreatDoorC2
set_option linter.unusedVariables false
set_option linter.unusedSimpArgs false

section
open Go Go.Proofs Go.RowKit
namespace Qv
theorem textual_ok (k : Int) : CallsTo C 105 [.int .i64 k] (fun r => r = .val (.bool (wordedF k))) := by
 refine cTo' Tryz.func105 rfl rfl rfl ?_
 have e : ∀ b,wordedF k = b → (fun r => r = Ret.val (.bool (wordedF k))) (.val (.bool b)) := fun b h => by rw [h]
 refine ⟨none,?_⟩
 refine al_eq (fun h1 => ?_) (fun h1 => ?_)
 ·exact e true (by simp [wordedF]; omega)
 refine al_eq (fun h2 => ?_) (fun h2 => ?_)
 ·exact e true (by simp [wordedF]; omega)
 refine al_eq (fun h3 => ?_) (fun h3 => ?_)
 ·exact e true (by simp [wordedF]; omega)
 refine al_eq (fun h4 => ?_) (fun h4 => ?_)
 ·exact e true (by simp [wordedF]; omega)
 ·exact e false (by simp [wordedF]; omega)
theorem numeric_ok (k : Int) : CallsTo C 107 [.int .i64 k] (fun r => r = .val (.bool (numberedF k))) := by
 refine cTo' Tryz.func107 rfl rfl rfl ?_
 have e : ∀ b,numberedF k = b → (fun r => r = Ret.val (.bool (numberedF k))) (.val (.bool b)) := fun b h => by rw [h]
 refine ⟨none,?_⟩
 refine al_eq (fun h1 => ?_) (fun h1 => ?_)
 ·exact e true (by simp [numberedF]; omega)
 refine al_eq (fun h2 => ?_) (fun h2 => ?_)
 ·exact e true (by simp [numberedF]; omega)
 ·exact e false (by simp [numberedF]; omega)
theorem operands_ok (k : Int) : CallsTo C 109 [.int .i64 k] (fun r => r = .val (.int .i64 (opsN k))) := by
 refine cTo' Tryz.func109 rfl rfl rfl ?_
 have e1 : (k = 9 ∨ k = 12 ∨ k = 13) → (fun r => r = Ret.val (.int .i64 (opsN k))) (.val (.int .i64 1)) := fun h => by rw [opsN_one h]; rfl
 refine al_eq (fun h => ?_) (fun h1 => ?_)
 ·exact e1 (.inl h)
 refine al_eq (fun h => ?_) (fun h2 => ?_)
 ·exact e1 (.inr (.inl h))
 refine al_eq (fun h => ?_) (fun h3 => ?_)
 ·exact e1 (.inr (.inr h))
 have e2 : (k = 10 ∨ k = 11) → (fun r => r = Ret.val (.int .i64 (opsN k))) (.val (.int .i64 2)) := fun h => by rw [opsN_two h]; rfl
 refine al_eq (fun h => ?_) (fun h4 => ?_)
 ·exact e2 (.inl h)
 refine al_eq (fun h => ?_) (fun h5 => ?_)
 ·exact e2 (.inr h)
 have e3 : opsN k = 0 := by
  unfold opsN
  rw [if_neg (by omega),if_neg (by omega)]
 rw [e3]
 exact rfl
def hxBytes : Bytes := [48,49,50,51,52,53,54,55,56,57,97,98,99,100,101,102]
theorem hx_set : asciiF hxBytes = (List.range 256).map fun i => (decide (48 ≤ i) && decide (i ≤ 57)) || (decide (97 ≤ i) && decide (i ≤ 102)) := by decide +kernel
theorem hx_in (c : UInt8) : inSet (asciiF hxBytes) c = hexB c := by
 have hc : c.toNat < 256 := c.toNat_lt
 unfold inSet
 rw [hx_set]
 simp [List.getD,hc,hexB]
set_option maxRecDepth 100000 in
set_option maxHeartbeats 2000000 in
theorem trimHx_ok (s : Bytes) (hs : s.length ≤ 2 ^ 30) : CallsTo C 38 [.str s,.str hxBytes] (fun r => ∃ u,r = .val (.str u) ∧ (u = [] ↔ s.all hexB = true)) := by
 refine cTo' Tryz.func38 rfl rfl rfl ?_
 refine ⟨none,?_⟩
 refine al_eq (fun h => ?_) (fun h => ?_)
 ·have h : s = [] := h
  subst h
  exact ⟨[],rfl,by simp⟩
 refine al_eq (fun h2 => absurd h2 (by decide)) (fun _ => ?_)
 refine ⟨none,?_⟩
 refine al_eq (fun h2 => absurd h2 (by decide)) (fun _ => ?_)
 refine ⟨_,asciiSet_ok hxBytes (by decide) (by decide),?_⟩
 rintro r rfl
 have hl := asciiF_len hxBytes
 have hin := hx_in
 generalize asciiF hxBytes = set at hl hin ⊢
 have hml : (encSet set).length = 256 := by rw [encSet_length,hl]
 refine gotK_val ?_
 refine evOps_step (.p (.tup [.agg (set.map AV.bool),.bool true])) rfl (fun _ h => h) ?_
 refine evOps_step (.p (.agg (set.map AV.bool))) rfl (fun _ h => h) ?_
 refine evOps_step (.p (.bool true)) rfl (fun _ h => h) ?_
 refine evOps_alloc 75 5 5 (encSet (List.replicate 256 false)) rfl rfl rfl rfl rfl rfl rfl (by kernel_rfl) ?_
 refine evOps_storeP 75 (.tmp 5) (.tmp 32) 5 0 (encSet set) (encSet (List.replicate 256 false)) (encSet set) rfl rfl rfl rfl rfl rfl hml (allOne_bools set) (setRange_all _ _ (by rw [encSet_length,List.length_replicate,hml])) ?_
 refine .inr (.inr (.inr ⟨5,set.map AV.bool,toAVs_mapP _,allOne_set set,_,trimR_ok s set hl (by omega),?_⟩))
 rintro r ⟨k,hk,rfl,hR1,hR2⟩
 refine ⟨_,trimL_ok (s.take k) set hl,?_⟩
 rintro r ⟨j,hj,rfl,hL1,hL2⟩
 refine ⟨_,rfl,fun hu => ?_,fun hd => ?_⟩
 ·rw [List.all_eq_true]
  intro c hc
  obtain ⟨i,hi⟩ := List.getElem?_of_mem hc
  have hlen := congrArg List.length hu
  simp only [List.length_drop,List.length_take,List.length_nil] at hlen
  by_cases hik : k ≤ i
  ·rw [← hin]; exact hR1 i c hik hi
  ·rw [← hin]
   have h2 : (s.take k)[i]? = some c := by rw [List.getElem?_take,if_pos (by omega)]; exact hi
   exact hL1 i c (by omega) h2
 ·have hk0 : k = 0 := by
   apply Classical.byContradiction
   intro hne
   obtain ⟨c,hc⟩ : ∃ c,s[k - 1]? = some c := ⟨_,List.getElem?_eq_getElem (by omega)⟩
   have h2 := hR2 c (by omega) hc
   rw [hin] at h2
   have h3 := List.all_eq_true.1 hd c (List.mem_of_getElem? hc)
   rw [h2] at h3
   cases h3
  subst hk0
  simp
theorem hexadecimal_ok (s : Bytes) (hs : s.length ≤ 2 ^ 30) : CallsTo C 132 [.str s] (fun r => r = .val (.bool (hexF s))) := by
 have hF : hexF s = (decide (1 ≤ s.length) && (decide (s.length ≤ 64) && s.all hexB)) := rfl
 rw [hF]
 refine cTo' Tryz.func132 rfl rfl rfl ?_
 refine ⟨none,?_⟩
 refine al_dec (fun h1 => ?_) (fun h1 => ?_)
 ·have h1 : (s.length : Int) ≥ 1 := h1
  rw [decide_eq_true (show 1 ≤ s.length by omega)]
  refine al_dec (fun h2 => ?_) (fun h2 => ?_)
  ·have h2 : (s.length : Int) ≤ 64 := h2
   rw [decide_eq_true (show s.length ≤ 64 by omega)]
   refine ⟨_,trimHx_ok s hs,?_⟩
   rintro r ⟨u,rfl,hu⟩
   refine al_eq (fun h3 => ?_) (fun h3 => ?_)
   ·rw [hu.1 h3]; exact rfl
   ·have : s.all hexB = false := by
     cases hb : s.all hexB with
     | false => rfl
     | true => exact absurd (hu.2 hb) h3
    rw [this]; exact rfl
  ·have h2 : ¬ (s.length : Int) ≤ 64 := h2
   rw [decide_eq_false (show ¬ s.length ≤ 64 by omega)]
   exact rfl
 ·have h1 : ¬ (s.length : Int) ≥ 1 := h1
  rw [decide_eq_false (show ¬ 1 ≤ s.length by omega)]
  exact rfl
theorem partC_ok (k : Int) (t : Bytes) (n : Int) (l : List Qy) (ht : t.length ≤ 2 ^ 47) (hl : l.length ≤ 2 ^ 47) : CallsTo C 79 [.agg (encQy (.mk k t n l))] (fun r => r = .val (.int .i64 (partF globB k t n l.length))) := by
 have out : ∀ x,partF globB k t n l.length = x → (fun r => r = Ret.val (.int .i64 (partF globB k t n l.length))) (.val (.int .i64 x)) := fun x h => by rw [h]
 refine cTo' Tryz.func79 rfl rfl rfl ?_
 refine ⟨none,?_⟩
 refine al_dec (fun h => ?_) (fun h1 => ?_)
 ·have h : k < 1 := h
  exact out 8 (by unfold partF; rw [if_pos (.inl h)])
 have h1 : ¬ k < 1 := h1
 refine al_dec (fun h => ?_) (fun h2 => ?_)
 ·have h : k > 13 := h
  exact out 8 (by unfold partF; rw [if_pos (.inr h)])
 have h2 : ¬ k > 13 := h2
 have hk : ¬ (k < 1 ∨ 13 < k) := by omega
 refine keepV (.p (.bool (decide ((t ≠ [] ∧ wordedF k = false) ∨ (n ≠ 0 ∧ numberedF k = false) ∨ l.length ≠ opsN k)))) 13 (by kernel_rfl) (by rfl) ?_ ?_
 ·have el := operands_ok k
  have tail : ∀ {K : Bool → Prop},(t = [] ∨ wordedF k = true) → (n = 0 ∨ numberedF k = true) → (l.length ≠ opsN k → K true) → (l.length = opsN k → K false) → (Al fun b : Bool => b = (((encQyL l).length : Int) != (opsN k : Int)) → K b) := fun _ _ a b => al_ne (fun h => a fun e => h (by rw [encQyL_len,e])) (fun h => b (by rw [encQyL_len] at h; omega))
  have W := textual_ok k
  have N := numeric_ok k
  refine al_nes (fun h => ?_) (fun h => ?_)
  ·have h : t ≠ [] := h
   cases hw : wordedF k with
   | false =>
     rw [hw] at W
     refine ⟨_,W,?_⟩
     refine al_not ?_
     exact fin_b true (decide_eq_true (.inl ⟨h,rfl⟩))
   | true =>
     rw [hw] at W
     refine ⟨_,W,?_⟩
     refine al_not ?_
     refine al_ne (fun h3 => ?_) (fun h3 => ?_)
     ·cases hn : numberedF k with
      | false =>
        rw [hn] at N
        refine ⟨_,N,?_⟩
        refine al_not ?_
        exact fin_b true (decide_eq_true (.inr (.inl ⟨h3,rfl⟩)))
      | true =>
        rw [hn] at N
        refine ⟨_,N,?_⟩
        refine al_not ?_
        refine ⟨_,el,?_⟩
        refine tail (.inr hw) (.inr hn) (fun h4 => ?_) (fun h4 => ?_)
        ·exact fin_b true (decide_eq_true (.inr (.inr h4)))
        ·exact fin_b false (decide_eq_false (by rintro (e | e | e); exact Bool.noConfusion e.2; exact Bool.noConfusion e.2; exact e h4))
     ·refine ⟨_,el,?_⟩
      refine tail (.inr hw) (.inl h3) (fun h4 => ?_) (fun h4 => ?_)
      ·exact fin_b true (decide_eq_true (.inr (.inr h4)))
      ·exact fin_b false (decide_eq_false (by rintro (e | e | e); exact Bool.noConfusion e.2; exact e.1 h3; exact e h4))
  ·have h : t = [] := h
   refine al_ne (fun h3 => ?_) (fun h3 => ?_)
   ·cases hn : numberedF k with
    | false =>
      rw [hn] at N
      refine ⟨_,N,?_⟩
      refine al_not ?_
      exact fin_b true (decide_eq_true (.inr (.inl ⟨h3,rfl⟩)))
    | true =>
      rw [hn] at N
      refine ⟨_,N,?_⟩
      refine al_not ?_
      refine ⟨_,el,?_⟩
      refine tail (.inl h) (.inr hn) (fun h4 => ?_) (fun h4 => ?_)
      ·exact fin_b true (decide_eq_true (.inr (.inr h4)))
      ·exact fin_b false (decide_eq_false (by rintro (e | e | e); exact e.1 h; exact Bool.noConfusion e.2; exact e h4))
   ·refine ⟨_,el,?_⟩
    refine tail (.inl h) (.inl h3) (fun h4 => ?_) (fun h4 => ?_)
    ·exact fin_b true (decide_eq_true (.inr (.inr h4)))
    ·exact fin_b false (decide_eq_false (by rintro (e | e | e); exact e.1 h; exact e.1 h3; exact e h4))
 generalize hb : decide ((t ≠ [] ∧ wordedF k = false) ∨ (n ≠ 0 ∧ numberedF k = false) ∨ l.length ≠ opsN k) = b
 cases b with
 | true => exact out 1 (by unfold partF; rw [if_neg hk,if_pos (of_decide_eq_true hb)])
 | false =>
 have hc := of_decide_eq_false hb
 refine al_dec (fun h => ?_) (fun h3 => ?_)
 ·have h : (t.length : Int) > 200 := h
  exact out 4 (by unfold partF; rw [if_neg hk,if_neg hc,if_pos (by omega)])
 have h3 : ¬ (t.length : Int) > 200 := h3
 have h3' : ¬ 200 < t.length := by omega
 have ck := gcheck_ok t (by omega)
 have hx := hexadecimal_ok t (by omega)
 have g : ∀ {K : Bool → Prop},(globB t = false → K true) → (globB t = true → K false) → (Al fun b : Bool => b = ((parseF t).2 != 0) → K b) := fun a b => al_ne (fun h => a (decide_eq_false h)) (fun h => b (decide_eq_true h))
 refine ⟨some (fun vs => vs = [(.p (.bool (decide ((k = 4 ∨ k = 5) ∧ globB t = false))))]),keepA (.p (.bool (decide ((k = 4 ∨ k = 5) ∧ globB t = false)))) 45 rfl ?_ ?_⟩
 ·refine al_eq (fun h4 => ?_) (fun h4 => ?_)
  ·refine ⟨_,ck,?_⟩
   refine g (fun h => ?_) (fun h => ?_)
   ·exact fin_b true (decide_eq_true ⟨.inl h4,h⟩)
   ·exact fin_b false (decide_eq_false (by rintro e; rw [h] at e; exact Bool.noConfusion e.2))
  ·refine al_eq (fun h5 => ?_) (fun h5 => ?_)
   ·refine ⟨_,ck,?_⟩
    refine g (fun h => ?_) (fun h => ?_)
    ·exact fin_b true (decide_eq_true ⟨.inr h5,h⟩)
    ·exact fin_b false (decide_eq_false (by rintro e; rw [h] at e; exact Bool.noConfusion e.2))
   ·exact fin_b false (decide_eq_false (by rintro e; rcases e.1 with e | e; exact h4 e; exact h5 e))
 generalize hb2 : decide ((k = 4 ∨ k = 5) ∧ globB t = false) = b2
 cases b2 with
 | true => exact out 3 (by unfold partF; rw [if_neg hk,if_neg hc,if_neg h3',if_pos (of_decide_eq_true hb2)])
 | false =>
 have hd := of_decide_eq_false hb2
 refine ⟨some (fun vs => vs = [(.p (.bool (decide (k = 8 ∧ hexF t = false))))]),keepA (.p (.bool (decide (k = 8 ∧ hexF t = false)))) 58 rfl ?_ ?_⟩
 ·refine al_eq (fun h8 => ?_) (fun h8 => ?_)
  ·cases hf : hexF t with
   | false =>
     rw [hf] at hx
     refine ⟨_,hx,?_⟩
     refine al_not ?_
     exact fin_b true (decide_eq_true ⟨h8,rfl⟩)
   | true =>
     rw [hf] at hx
     refine ⟨_,hx,?_⟩
     refine al_not ?_
     exact fin_b false (decide_eq_false (fun e => Bool.noConfusion e.2))
  ·exact fin_b false (decide_eq_false (fun e => h8 e.1))
 generalize hb3 : decide (k = 8 ∧ hexF t = false) = b3
 cases b3 with
 | true => exact out 3 (by unfold partF; rw [if_neg hk,if_neg hc,if_neg h3',if_neg hd,if_pos (of_decide_eq_true hb3)])
 | false =>
 have he := of_decide_eq_false hb3
 have hP : partF globB k t n l.length = if n < 0 ∨ 1099511627776 < n then 2 else 0 := by
  unfold partF
  rw [if_neg hk,if_neg hc,if_neg h3',if_neg hd,if_neg he]
 refine ⟨none,?_⟩
 refine al_dec (fun h => ?_) (fun h5 => ?_)
 ·have h : n < 0 := h
  exact out 2 (by rw [hP,if_pos (.inl h)])
 refine al_dec (fun h => ?_) (fun h6 => ?_)
 ·have h : n > 1099511627776 := h
  exact out 2 (by rw [hP,if_pos (.inr h)])
 have h5 : ¬ n < 0 := h5
 have h6 : ¬ n > 1099511627776 := h6
 exact out 0 (by rw [hP,if_neg (by omega)])
end Qv

end

section
open Go Go.Proofs Go.RowKit
namespace Qv
theorem all_ok (q : Qy) : szQ q → CallsTo C 49 [.agg (encQy q)] (fun r => r = .val (.int .i64 (allE globB q))) := by
 refine Qy.ind (P := fun q => szQ q → CallsTo C 49 [.agg (encQy q)] (fun r => r = .val (.int .i64 (allE globB q)))) ?_ q
 intro k t n l ih hs
 obtain ⟨s1,s2,s3⟩ := szQ_mk.1 hs
 rw [allE_mk]
 refine cTo' Tryz.func49 rfl rfl rfl ?_
 refine ⟨_,partC_ok k t n l s1 s2,fun r hr => ?_⟩
 subst hr
 refine al_ne (fun h => ?_) (fun h => ?_)
 ·rw [if_neg h]
  exact rfl
 rw [if_pos h]
 generalize hX : allEL globB l = X
 refine loopR 25 (fun i : Nat => [(13,.p (.sl (encQyL l))),(14,.p (.int .i64 (encQyL l).length)),(15,.p (.int .i64 i))]) (fun _ => [])
  (fun i => i ≤ l.length ∧ allEL globB (l.drop i) = X) (fun i => l.length - i) 0 ⟨Nat.zero_le _,hX⟩ rfl ⟨wR,wR,wR,trivial⟩ trivial ?_
 clear hX
 rintro i ⟨hi,hX⟩
 refine al_ltq (fun hlt => ?_) (fun hge => ?_)
 ·obtain ⟨k',t',n',l',hq⟩ := get_q hlt
  have hmem := List.mem_of_getElem? hq
  rw [drop_at hq,allEL_cons] at hX
  have hw5 : IntKind.i64.wrap ((i : Int) + 1) = ((i + 1 : Nat) : Int) := by rw [wrap64 (by omega) (by omega)]; omega
  refine ⟨by omega,_,idx_q hq,rfl,?_⟩
  refine ⟨_,ih _ hmem (s3 _ hmem),fun r hr => ?_⟩
  subst hr
  refine al_ne (fun h => ?_) (fun h => ?_)
  ·rw [if_neg h] at hX
   subst hX
   exact rfl
  ·rw [if_pos h] at hX
   exact ⟨_,hw5,roundR (i + 1) ⟨hlt,hX⟩ (by show l.length - (i + 1) < l.length - i; omega) rfl ⟨wR,wR,wR,trivial⟩ trivial⟩
 ·have hge : i = l.length := by omega
  subst hge
  rw [List.drop_length] at hX
  subst hX
  exact rfl
def addR (p lv : Nat) (q : Qy) (ys : List AV) : Prop :=
 ∃ (p' : Nat) (o : Bool),ys = [.int .i64 p',.bool o] ∧ p' ≤ 201 ∧ (o = false ↔ p + q.parts ≤ 200 ∧ lv + q.depth ≤ 13) ∧ (o = false → p' = p + q.parts)
def AddI (P lv : Nat) (l : List Qy) (x : Nat × Nat × Bool) : Prop :=
 x.1 ≤ l.length ∧ x.2.1 ≤ 201 ∧ (x.2.2 = true → ¬ (P ≤ 200 ∧ lv + depthL l ≤ 12)) ∧
  (x.2.2 = false → x.2.1 ≤ 200 ∧ lv ≤ 12 ∧ x.2.1 + partsL (l.drop x.1) = P ∧ (lv + depthL (l.drop x.1) ≤ 12 ↔ lv + depthL l ≤ 12))
theorem add_ok (q : Qy) : szQ q → ∀ p lv : Nat,p ≤ 200 → lv ≤ 13 → ObjTo C 48 [.int .i64 p,.bool false] [.agg (encQy q),.int .i64 lv] (fun _ ys => addR p lv q ys) := by
 refine Qy.ind (P := fun q => szQ q → ∀ p lv : Nat,p ≤ 200 → lv ≤ 13 → ObjTo C 48 [.int .i64 p,.bool false] [.agg (encQy q),.int .i64 lv] (fun _ ys => addR p lv q ys)) ?_ q
 intro k t n l ih hs p lv hp hlv
 obtain ⟨s1,s2,s3⟩ := szQ_mk.1 hs
 have hpar : (Qy.mk k t n l).parts = partsL l + 1 := rfl
 have hdep : (Qy.mk k t n l).depth = depthL l + 1 := rfl
 refine objTo_of_evO ⟨[],[],false,[],[],[]⟩ [4] Tryz.func48 rfl rfl rfl ?_
 have hw1 : IntKind.i64.wrap ((p : Int) + 1) = ((p + 1 : Nat) : Int) := by rw [wrap64 (by omega) (by omega)]; omega
 refine ⟨_,hw1,?_⟩
 refine share (T := ?T) (fun H => ?main) ?rest
 case main =>
  obtain ⟨o,ho⟩ : ∃ o,decide (200 < p + 1 ∨ 12 < lv) = o := ⟨_,rfl⟩
  have hI : AddI (p + 1 + partsL l) lv l (0,p + 1,o) := by
   refine ⟨Nat.zero_le _,by show p + 1 ≤ 201; omega,fun h => ?_,fun h => ?_⟩
   ·have h : o = true := h
    rw [h] at ho
    have := of_decide_eq_true ho
    omega
   ·have h : o = false := h
    rw [h] at ho
    have := of_decide_eq_false ho
    exact ⟨by show p + 1 ≤ 200; omega,by omega,rfl,Iff.rfl⟩
  refine ⟨some (fun vs => vs = [(.p (.bool (decide (200 < p + 1 ∨ 12 < lv))))]),keepA (.p (.bool (decide (200 < p + 1 ∨ 12 < lv)))) 23 rfl ?_ ?_⟩
  ·refine al_dec (fun h => ?_) (fun h => ?_)
   ·have h : ((p + 1 : Nat) : Int) > 200 := h
    exact fin_b true (decide_eq_true (.inl (by omega)))
   ·have h : ¬ ((p + 1 : Nat) : Int) > 200 := h
    refine al_dec (fun h2 => ?_) (fun h2 => ?_)
    ·have h2 : (lv : Int) > 12 := h2
     exact fin_b true (decide_eq_true (.inr (by omega)))
    ·have h2 : ¬ (lv : Int) > 12 := h2
     exact fin_b false (decide_eq_false (by omega))
  ·cases hd : decide (200 < p + 1 ∨ 12 < lv) with
   | true =>
     have ho' : o = true := by rw [← ho,hd]
     refine cutR 44 [(0,.ptr 999999 0),(2,.p (.int .i64 lv)),(4,.ptr 4 0)] [(999999,[.p (.int .i64 (p + 1 : Nat)),.p (.bool o)]),(4,mapP [.int .i64 k,.str t,.int .i64 n,.sl (encQyL l)])] rfl ⟨wR,wR,wR,trivial⟩ ⟨hO1 (by rw [ho']; rfl),hO1 rfl,trivial⟩ ?_
     clear ho' hd ho
     revert o
     exact H.out
   | false =>
     have ho' : o = false := by rw [← ho,hd]
     refine cutR 44 [(0,.ptr 999999 0),(2,.p (.int .i64 lv)),(4,.ptr 4 0)] [(999999,[.p (.int .i64 (p + 1 : Nat)),.p (.bool o)]),(4,mapP [.int .i64 k,.str t,.int .i64 n,.sl (encQyL l)])] rfl ⟨wR,wR,wR,trivial⟩ ⟨hO1 (by rw [ho']; rfl),hO1 rfl,trivial⟩ ?_
     clear ho' hd ho
     revert o
     exact H.out
 case rest =>
  intro o hI
  have hfin : (p + (Qy.mk k t n l).parts ≤ 200 ∧ lv + (Qy.mk k t n l).depth ≤ 13) ↔ (p + 1 + partsL l ≤ 200 ∧ lv + depthL l ≤ 12) := by
   rw [hpar,hdep]
   constructor <;> intro ⟨h1,h2⟩ <;> exact ⟨by omega,by omega⟩
  have hend : ∀ (m : Nat) (o : Bool),m ≤ 201 → (o = true → ¬ (p + 1 + partsL l ≤ 200 ∧ lv + depthL l ≤ 12)) → (o = false → m = p + 1 + partsL l ∧ p + 1 + partsL l ≤ 200 ∧ lv + depthL l ≤ 12) → addR p lv (.mk k t n l) [.int .i64 m,.bool o] := by
   intro m o hm h1 h2
   refine ⟨m,o,rfl,hm,?_,fun h => ?_⟩
   ·rw [hfin]
    constructor
    ·intro h
     exact (h2 h).2
    ·intro h
     cases o with
     | false => rfl
     | true => exact absurd h (h1 rfl)
   ·rw [(h2 h).1,hpar]
    omega
  refine loopR 44 (fun x : Nat × Nat × Bool => [(0,.ptr 999999 0),(2,.p (.int .i64 lv)),(28,.p (.sl (encQyL l))),(29,.p (.int .i64 (encQyL l).length)),(30,.p (.int .i64 x.1))]) (fun x => [(999999,[.p (.int .i64 x.2.1),.p (.bool x.2.2)])])
   (AddI (p + 1 + partsL l) lv l) (fun x => l.length - x.1) (0,p + 1,o) hI rfl ⟨wR,wR,wR,wR,wR,trivial⟩ ⟨hO1 rfl,trivial⟩ ?_
  clear hI o
  rintro ⟨i,m,o⟩ ⟨hi,hm,hI1,hI2⟩
  have hi : i ≤ l.length := hi
  have hm : m ≤ 201 := hm
  have hI1 : o = true → ¬ (p + 1 + partsL l ≤ 200 ∧ lv + depthL l ≤ 12) := hI1
  have hI2 : o = false → m ≤ 200 ∧ lv ≤ 12 ∧ m + partsL (l.drop i) = p + 1 + partsL l ∧ (lv + depthL (l.drop i) ≤ 12 ↔ lv + depthL l ≤ 12) := hI2
  refine al_ltq (fun hlt => ?_) (fun hge => ?_)
  ·obtain ⟨k',t',n',l',hq⟩ := get_q hlt
   have hmem := List.mem_of_getElem? hq
   have hw5 : IntKind.i64.wrap ((i : Int) + 1) = ((i + 1 : Nat) : Int) := by rw [wrap64 (by omega) (by omega)]; omega
   have hw6 : IntKind.i64.wrap ((lv : Int) + 1) = ((lv + 1 : Nat) : Int) := by rw [wrap64 (by omega) (by omega)]; omega
   refine ⟨by omega,_,idx_q hq,rfl,?_⟩
   cases o with
   | true => exact ⟨rfl,hend m true hm hI1 (fun h => by cases h)⟩
   | false =>
     obtain ⟨j1,j2,j3,j4⟩ := hI2 rfl
     refine ⟨_,hw6,?_⟩
     refine .inr (.inr ⟨_,(ih _ hmem (s3 _ hmem) m (lv + 1) (by omega) (by omega)).opn,?_⟩)
     rintro r ys ⟨p',o',rfl,hp',ho1,ho2⟩
     have e1 : partsL (l.drop i) = (Qy.mk k' t' n' l').parts + partsL (l.drop (i + 1)) := by rw [drop_at hq]; rfl
     have e2 : depthL (l.drop i) = max (Qy.mk k' t' n' l').depth (depthL (l.drop (i + 1))) := by rw [drop_at hq]; rfl
     refine ⟨_,hw5,roundR (i + 1,p',o') ⟨hlt,hp',fun h => ?_,fun h => ?_⟩ (by show l.length - (i + 1) < l.length - i; omega) rfl ⟨wR,wR,wR,wR,wR,trivial⟩ ⟨hO1 rfl,trivial⟩⟩
     ·have h : o' = true := h
      intro hF
      have : o' = false := ho1.2 (by
       have h4 := j4.2 hF.2
       rw [e2] at h4
       omega)
      rw [h] at this
      cases this
     ·have h : o' = false := h
      have h2 := ho1.1 h
      have h3 := ho2 h
      refine ⟨by show p' ≤ 200; omega,j2,by show p' + partsL (l.drop (i + 1)) = _; omega,?_⟩
      show lv + depthL (l.drop (i + 1)) ≤ 12 ↔ _
      rw [← j4,e2]
      omega
  ·have hge : i = l.length := by omega
   subst hge
   refine ⟨rfl,hend m o hm hI1 (fun h => ?_)⟩
   obtain ⟨j1,j2,j3,j4⟩ := hI2 h
   rw [List.drop_length] at j3 j4
   have j3 : m + 0 = p + 1 + partsL l := j3
   have j4 : lv + 0 ≤ 12 ↔ lv + depthL l ≤ 12 := j4
   exact ⟨by omega,by omega,j4.1 (by omega)⟩
theorem check_ok (q : Qy) (hs : szQ q) : CallsTo C 22 [.agg (encQy q)] (fun r => r = .val (.int .i64 (checkQ globB q))) := by
 obtain ⟨k,t,n,l⟩ := q
 refine cTo' Tryz.func22 rfl rfl rfl ?_
 refine .inr (.inr ⟨_,add_ok (.mk k t n l) hs 0 1 (by decide) (by decide),?_⟩)
 rintro r ys ⟨p',o',rfl,hp',ho1,ho2⟩
 have hf : (0 + (Qy.mk k t n l).parts ≤ 200 ∧ 1 + (Qy.mk k t n l).depth ≤ 13) ↔ fitsQ (.mk k t n l) 200 12 := by
  unfold fitsQ
  constructor <;> intro ⟨h1,h2⟩ <;> exact ⟨by omega,by omega⟩
 rw [hf] at ho1
 unfold checkQ
 cases o' with
 | true =>
   rw [if_neg (fun e => by have := ho1.2 e; cases this)]
   exact rfl
 | false =>
   rw [if_pos (ho1.1 rfl)]
   refine ⟨_,all_ok (.mk k t n l) hs,fun r hr => ?_⟩
   subst hr
   exact rfl
theorem size_ok (q : Qy) (hs : szQ q) : CallsTo C 29 [.agg (encQy q)] (fun r => r = .val (.int .i64 (if checkQ globB q = 0 then q.parts else 0 : Nat))) := by
 obtain ⟨k,t,n,l⟩ := q
 refine cTo' Tryz.func29 rfl rfl rfl ?_
 refine ⟨_,check_ok (.mk k t n l) hs,fun r hr => ?_⟩
 subst hr
 refine al_ne (fun h => ?_) (fun h => ?_)
 ·rw [if_neg h]
  exact rfl
 rw [if_pos h]
 refine .inr (.inr ⟨_,add_ok (.mk k t n l) hs 0 1 (by decide) (by decide),?_⟩)
 rintro r ys ⟨p',o',rfl,hp',ho1,ho2⟩
 have hfit : fitsQ (.mk k t n l) 200 12 := by
  have h : checkQ globB (.mk k t n l) = 0 := h
  unfold checkQ at h
  apply Classical.byContradiction
  intro hn
  rw [if_neg hn] at h
  cases h
 have ho : o' = false := ho1.2 ⟨by have := hfit.1; omega,by have := hfit.2; omega⟩
 have hp : p' = 0 + (Qy.mk k t n l).parts := ho2 ho
 rw [Nat.zero_add] at hp
 subst hp
 exact rfl
end Qv

end
