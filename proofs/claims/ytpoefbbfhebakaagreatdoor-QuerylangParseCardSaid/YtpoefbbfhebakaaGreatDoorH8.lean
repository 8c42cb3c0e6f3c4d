/- Several texts in one: Contracts of the reference's queries: count, part, parts, Check, long, Great, Same and what follows. No condition. -/
import Derived.Test.YtpoefbbfhebakaaGreatDoorH4
import Derived.Test.YtpoefbbfhebakaaGreatDoorHv4
import Derived.Test.YtpoefbbfhebakaaGreatDoorH7
set_option linter.unusedVariables false
set_option linter.unusedSimpArgs false

section
open Go Go.Proofs Go.RowKit
namespace Qv
theorem encQyL_len (l : List Qy) : (encQyL l).length = l.length := by
 rw [encQyL_map,List.length_map]
theorem get_q {l : List Qy} {i : Nat} (h : i < l.length) : ∃ k t n m,l[i]? = some (.mk k t n m) := by
 rw [List.getElem?_eq_getElem h]
 generalize l[i] = q
 obtain ⟨k,t,n,m⟩ := q
 exact ⟨k,t,n,m,rfl⟩
theorem idx_q {l : List Qy} {i : Nat} {k : Int} {t : Bytes} {n : Int} {m : List Qy} (h : l[i]? = some (.mk k t n m)) : (encQyL l)[((i : Nat) : Int).toNat]? = some [.int .i64 k,.str t,.int .i64 n,.sl (encQyL m)] := by
 rw [encQyL_map,Int.toNat_natCast,List.getElem?_map,h]; rfl
theorem drop_at {α : Type} {l : List α} {k : Nat} {c : α} (h : l[k]? = some c) : l.drop k = c :: l.drop (k + 1) := by
 have hi := List.getElem?_eq_some_iff.1 h
 rw [List.drop_eq_getElem_cons hi.1,hi.2]
theorem al_ltq {l : List Qy} {i : Nat} {K : Bool → Prop} (h1 : i < l.length → K true) (h2 : ¬ i < l.length → K false) : Al fun t : Bool => t = decide ((i : Int) < ((encQyL l).length : Int)) → K t :=
 al_dec (fun h => h1 (by rw [encQyL_len] at h; omega)) (fun h => h2 (fun e => h (by rw [encQyL_len]; omega)))
mutual
def szQ : Qy → Prop
 | .mk _ t _ l => t.length ≤ 2 ^ 47 ∧ l.length ≤ 2 ^ 47 ∧ szL l
def szL : List Qy → Prop
 | [] => True
 | q :: l => szQ q ∧ szL l
end
theorem szL_iff : ∀ {l : List Qy},szL l ↔ ∀ x,x ∈ l → szQ x
 | [] => by simp [szL]
 | q :: l => by
   show szQ q ∧ szL l ↔ _
   rw [szL_iff]
   simp
theorem szQ_mk {k : Int} {t : Bytes} {n : Int} {l : List Qy} : szQ (.mk k t n l) ↔ t.length ≤ 2 ^ 47 ∧ l.length ≤ 2 ^ 47 ∧ ∀ x,x ∈ l → szQ x := by
 show _ ∧ _ ∧ szL l ↔ _
 rw [szL_iff]
theorem countL_cons (q : Qy) (l : List Qy) (n lim d : Nat) : countL (q :: l) n lim d = if n ≤ lim then countL l (n + countF q (lim - n) (d - 1)) lim d else n := rfl
theorem countF_bound (q : Qy) (lim d : Nat) : countF q lim d ≤ lim + 1 := by
 have h := count_spec q lim d
 by_cases hf : fitsQ q lim d
 ·rw [h.1 hf]
  have := hf.1
  omega
 ·rw [h.2 hf]
  exact Nat.le_refl _
theorem count_ok (q : Qy) : szQ q → ∀ lim d : Nat,lim ≤ 2 ^ 30 → d ≤ 2 ^ 30 → CallsTo C 50 [.agg (encQy q),.int .i64 lim,.int .i64 d] (fun r => r = .val (.int .i64 (countF q lim d))) := by
 refine Qy.ind (P := fun q => szQ q → ∀ lim d : Nat,lim ≤ 2 ^ 30 → d ≤ 2 ^ 30 → CallsTo C 50 [.agg (encQy q),.int .i64 lim,.int .i64 d] (fun r => r = .val (.int .i64 (countF q lim d)))) ?_ q
 intro k t n l ih hs lim d hlim hd
 obtain ⟨s1,s2,s3⟩ := szQ_mk.1 hs
 have hF : countF (.mk k t n l) lim d = if lim = 0 ∨ d = 0 then lim + 1 else countL l 1 lim d := rfl
 refine callsTo_of_evO ⟨[],[],false,[],[],[]⟩ [] Tryz.func50 rfl rfl rfl ?_
 refine ⟨none,?_⟩
 have hw1 : IntKind.i64.wrap ((lim : Int) + 1) = ((lim + 1 : Nat) : Int) := by rw [wrap64 (by omega) (by omega)]; omega
 refine al_dec (fun h => ?_) (fun h => ?_)
 ·have h : (lim : Int) < 1 := h
  rw [hF,if_pos (.inl (by omega))]
  exact ⟨_,hw1,rfl⟩
 have h1 : ¬ (lim : Int) < 1 := h
 refine al_dec (fun h => ?_) (fun h => ?_)
 ·have h : (d : Int) < 1 := h
  rw [hF,if_pos (.inr (by omega))]
  exact ⟨_,hw1,rfl⟩
 have h2 : ¬ (d : Int) < 1 := h
 rw [hF,if_neg (by omega)]
 generalize hX : countL l 1 lim d = X
 refine loopR 43 (fun x : Nat × Nat => [(1,.p (.int .i64 lim)),(2,.p (.int .i64 d)),(3,.ptr 3 0),(7,.p (.int .i64 x.2)),(8,.p (.int .i64 x.1))]) (fun _ => [(3,mapP [.int .i64 k,.str t,.int .i64 n,.sl (encQyL l)])])
  (fun x => x.1 ≤ l.length ∧ x.2 ≤ lim + 1 ∧ countL (l.drop x.1) x.2 lim d = X) (fun x => l.length - x.1) (0,1) ⟨Nat.zero_le _,by show 1 ≤ lim + 1; omega,hX⟩ rfl ⟨wR,wR,wR,wR,wR,trivial⟩ ⟨hO1 rfl,trivial⟩ ?_
 clear hX
 rintro ⟨i,m⟩ ⟨hi,hm,hX⟩
 have hi : i ≤ l.length := hi
 have hm : m ≤ lim + 1 := hm
 have hX : countL (l.drop i) m lim d = X := hX
 refine ⟨none,?_⟩
 refine al_ltq (fun hlt => ?_) (fun hge => ?_)
 ·have hlt : i < l.length := hlt
  obtain ⟨k',t',n',l',hq⟩ := get_q hlt
  have hmem := List.mem_of_getElem? hq
  rw [drop_at hq,countL_cons] at hX
  refine al_dec (fun h => ?_) (fun h => ?_)
  ·have h : m ≤ lim := by
    have : (m : Int) ≤ (lim : Int) := h
    omega
   rw [if_pos h] at hX
   have hw2 : IntKind.i64.wrap ((lim : Int) - (m : Int)) = ((lim - m : Nat) : Int) := by rw [wrap64 (by omega) (by omega)]; omega
   have hw3 : IntKind.i64.wrap ((d : Int) - 1) = ((d - 1 : Nat) : Int) := by rw [wrap64 (by omega) (by omega)]; omega
   have hb := countF_bound (.mk k' t' n' l') (lim - m) (d - 1)
   have hw4 : IntKind.i64.wrap ((m : Int) + (countF (.mk k' t' n' l') (lim - m) (d - 1) : Nat)) = ((m + countF (.mk k' t' n' l') (lim - m) (d - 1) : Nat) : Int) := by rw [wrap64 (by omega) (by omega)]; omega
   have hw5 : IntKind.i64.wrap ((i : Int) + 1) = ((i + 1 : Nat) : Int) := by rw [wrap64 (by omega) (by omega)]; omega
   refine ⟨by omega,_,idx_q hq,rfl,?_⟩
   refine ⟨_,hw2,?_⟩
   refine ⟨_,hw3,?_⟩
   refine ⟨_,(ih _ hmem (s3 _ hmem) (lim - m) (d - 1) (by omega) (by omega)).opn,fun r hr => ?_⟩
   subst hr
   refine ⟨_,hw4,?_⟩
   exact ⟨_,hw5,roundR (i + 1,m + countF (.mk k' t' n' l') (lim - m) (d - 1)) ⟨hlt,by show m + _ ≤ lim + 1; omega,hX⟩ (by show l.length - (i + 1) < l.length - i; omega) rfl ⟨wR,wR,wR,wR,wR,trivial⟩ ⟨hO1 rfl,trivial⟩⟩
  ·have h : ¬ m ≤ lim := fun e => h (by omega)
   rw [if_neg h] at hX
   subst hX
   exact rfl
 ·have hge : i = l.length := by
   have : ¬ i < l.length := hge
   omega
  subst hge
  rw [List.drop_length] at hX
  subst hX
  exact rfl
theorem elements_ok (k : Int) : CallsTo C 133 [.int .i64 k] (fun r => r = .val (.int .i64 (opsN k))) := by
 refine cTo' Tryz.func133 rfl rfl rfl ?_
 have e1 : (k = 9 ∨ k = 12 ∨ k = 13) → (fun r => r = Ret.val (.int .i64 (opsN k))) (.val (.int .i64 1)) := fun h => by rw [opsN_one h]; rfl
 refine ⟨none,?_⟩
 refine al_eq (fun h => ?_) (fun h1 => ?_)
 ·exact e1 (.inl h)
 refine al_eq (fun h => ?_) (fun h2 => ?_)
 ·exact e1 (.inr (.inl h))
 refine al_eq (fun h => ?_) (fun h3 => ?_)
 ·exact e1 (.inr (.inr h))
 have e2 : (k = 10 ∨ k = 11) → (fun r => r = Ret.val (.int .i64 (opsN k))) (.val (.int .i64 2)) := fun h => by rw [opsN_two h]; rfl
 refine ⟨none,?_⟩
 refine al_eq (fun h => ?_) (fun h4 => ?_)
 ·exact e2 (.inl h)
 refine al_eq (fun h => ?_) (fun h5 => ?_)
 ·exact e2 (.inr h)
 have e3 : opsN k = 0 := by
  unfold opsN
  rw [if_neg (by omega),if_neg (by omega)]
 rw [e3]
 exact rfl
theorem worded_ok (k : Int) : CallsTo C 111 [.int .i64 k] (fun r => r = .val (.bool (wordedF k))) := by
 refine cTo' Tryz.func111 rfl rfl rfl ?_
 have e : ∀ b,wordedF k = b → (fun r => r = Ret.val (.bool (wordedF k))) (.val (.bool b)) := fun b h => by rw [h]
 refine ⟨none,?_⟩
 refine al_dec (fun h1 => ?_) (fun h1 => ?_)
 ·refine al_dec (fun h2 => ?_) (fun h2 => ?_)
  ·exact e true (by simp [wordedF]; omega)
  ·refine al_eq (fun h3 => ?_) (fun h3 => ?_)
   ·exact e true (by simp [wordedF]; omega)
   ·exact e false (by simp [wordedF]; omega)
 ·refine al_eq (fun h3 => ?_) (fun h3 => ?_)
  ·exact e true (by simp [wordedF]; omega)
  ·exact e false (by simp [wordedF]; omega)
theorem numbered_ok (k : Int) : CallsTo C 113 [.int .i64 k] (fun r => r = .val (.bool (numberedF k))) := by
 refine cTo' Tryz.func113 rfl rfl rfl ?_
 have e : ∀ b,numberedF k = b → (fun r => r = Ret.val (.bool (numberedF k))) (.val (.bool b)) := fun b h => by rw [h]
 refine ⟨none,?_⟩
 refine al_eq (fun h1 => ?_) (fun h1 => ?_)
 ·exact e true (by simp [numberedF]; omega)
 refine al_eq (fun h2 => ?_) (fun h2 => ?_)
 ·exact e true (by simp [numberedF]; omega)
 ·exact e false (by simp [numberedF]; omega)
theorem hex_ok (s : Bytes) (hs : s.length ≤ 2 ^ 30) : CallsTo C 135 [.str s] (fun r => r = .val (.bool (hexF s))) := by
 refine cTo' Tryz.func135 rfl rfl rfl ?_
 have hX : (s.drop 0).all hexB = s.all hexB := rfl
 have hF : hexF s = (decide (1 ≤ s.length) && (decide (s.length ≤ 64) && s.all hexB)) := rfl
 rw [hF]
 generalize s.all hexB = X at hX ⊢
 refine loopR 41 (fun k : Nat => [(0,.p (.str s)),(3,.p (.int .i64 k))]) (fun _ => []) (fun k => k ≤ s.length ∧ (s.drop k).all hexB = X) (fun k => s.length - k) 0 ⟨Nat.zero_le _,hX⟩ rfl ⟨wR,wR,trivial⟩ trivial ?_
 clear hX
 rintro k ⟨hk,hX⟩
 refine al_dec (fun hlt => ?_) (fun hge => ?_)
 ·have hlt : k < s.length := by
   have : (k : Int) < (s.length : Int) := hlt
   omega
  obtain ⟨c,hc⟩ : ∃ c,s[k]? = some c := ⟨_,List.getElem?_eq_getElem hlt⟩
  rw [drop_at hc,List.all_cons] at hX
  have hw5 : IntKind.i64.wrap ((k : Int) + 1) = ((k + 1 : Nat) : Int) := by rw [wrap64 (by omega) (by omega)]; omega
  have yes : hexB c = true → (s.drop (k + 1)).all hexB = X := fun h => by rw [h,Bool.true_and] at hX; exact hX
  have no : hexB c = false → X = false := fun h => by rw [h,Bool.false_and] at hX; exact hX.symm
  have out : hexB c = false → (fun r => r = Ret.val (.bool (decide (1 ≤ s.length) && (decide (s.length ≤ 64) && X)))) (.val (.bool false)) := fun h => by
   rw [no h,Bool.and_false,Bool.and_false]
  refine ⟨none,?_⟩
  refine ⟨by omega,c,idx_str rfl hc,?_⟩
  refine al_dec (fun h1 => ?_) (fun h1 => ?_)
  ·have h1 : (c.toNat : Int) ≥ 48 := h1
   refine ⟨by omega,c,idx_str rfl hc,?_⟩
   refine al_dec (fun h2 => ?_) (fun h2 => ?_)
   ·have h2 : (c.toNat : Int) ≤ 57 := h2
    refine al_not ?_
    exact ⟨_,hw5,roundR (k + 1) ⟨hlt,yes (by simp [hexB]; omega)⟩ (by show s.length - (k + 1) < s.length - k; omega) rfl ⟨wR,wR,trivial⟩ trivial⟩
   ·have h2 : ¬ (c.toNat : Int) ≤ 57 := h2
    refine ⟨by omega,c,idx_str rfl hc,?_⟩
    refine al_dec (fun h3 => ?_) (fun h3 => ?_)
    ·have h3 : (c.toNat : Int) ≥ 97 := h3
     refine ⟨by omega,c,idx_str rfl hc,?_⟩
     refine al_dec (fun h4 => ?_) (fun h4 => ?_)
     ·have h4 : (c.toNat : Int) ≤ 102 := h4
      refine al_not ?_
      exact ⟨_,hw5,roundR (k + 1) ⟨hlt,yes (by simp [hexB]; omega)⟩ (by show s.length - (k + 1) < s.length - k; omega) rfl ⟨wR,wR,trivial⟩ trivial⟩
     ·have h4 : ¬ (c.toNat : Int) ≤ 102 := h4
      refine al_not ?_
      exact out (by simp [hexB]; omega)
    ·have h3 : ¬ (c.toNat : Int) ≥ 97 := h3
     refine al_not ?_
     exact out (by simp [hexB]; omega)
  ·have h1 : ¬ (c.toNat : Int) ≥ 48 := h1
   refine ⟨by omega,c,idx_str rfl hc,?_⟩
   refine al_dec (fun h3 => ?_) (fun h3 => ?_)
   ·have h3 : (c.toNat : Int) ≥ 97 := h3
    omega
   ·refine al_not ?_
    exact out (by simp [hexB]; omega)
 ·have hge : k = s.length := by
   have : ¬ (k : Int) < (s.length : Int) := hge
   omega
  subst hge
  rw [List.drop_length] at hX
  have hX : true = X := hX
  subst hX
  refine ⟨none,?_⟩
  refine al_dec (fun h1 => ?_) (fun h1 => ?_)
  ·have h1 : (s.length : Int) ≥ 1 := h1
   refine al_dec (fun h2 => ?_) (fun h2 => ?_)
   ·have h2 : (s.length : Int) ≤ 64 := h2
    rw [decide_eq_true (show 1 ≤ s.length by omega),decide_eq_true (show s.length ≤ 64 by omega)]
    exact rfl
   ·have h2 : ¬ (s.length : Int) ≤ 64 := h2
    rw [decide_eq_false (show ¬ s.length ≤ 64 by omega),Bool.false_and,Bool.and_false]
    exact rfl
  ·have h1 : ¬ (s.length : Int) ≥ 1 := h1
   rw [decide_eq_false (show ¬ 1 ≤ s.length by omega),Bool.false_and]
   exact rfl
end Qv

end

section
open Go Go.Proofs Go.RowKit
namespace Qv
def globB (t : Bytes) : Bool := decide ((parseF t).2 = 0)
theorem fin_b {c : Prop} [Decidable c] (b : Bool) (h : decide c = b) : FV.p (.bool b) = .p (.bool (decide c)) := by rw [h]
theorem part_ok (k : Int) (t : Bytes) (n : Int) (l : List Qy) (ht : t.length ≤ 2 ^ 47) (hl : l.length ≤ 2 ^ 47) : CallsTo C 80 [.agg (encQy (.mk k t n l))] (fun r => r = .val (.int .i64 (partF globB k t n l.length))) := by
 have out : ∀ x,partF globB k t n l.length = x → (fun r => r = Ret.val (.int .i64 (partF globB k t n l.length))) (.val (.int .i64 x)) := fun x h => by rw [h]
 refine cTo' Tryz.func80 rfl rfl rfl ?_
 refine ⟨none,?_⟩
 refine al_dec (fun h => ?_) (fun h1 => ?_)
 ·have h : k < 1 := h
  exact out 8 (by unfold partF; rw [if_pos (.inl h)])
 have h1 : ¬ k < 1 := h1
 refine al_dec (fun h => ?_) (fun h2 => ?_)
 ·have h : k > 13 := h
  exact out 8 (by unfold partF; rw [if_pos (.inr h)])
 have h2 : ¬ k > 13 := h2
 have hk : ¬ (k < 1 ∨ 13 < k) := by omega
 refine keepV (.p (.bool (decide ((t ≠ [] ∧ wordedF k = false) ∨ (n ≠ 0 ∧ numberedF k = false) ∨ l.length ≠ opsN k)))) 39 (by kernel_rfl) (by rfl) ?_ ?_
 ·have el := elements_ok k
  have tail : ∀ {K : Bool → Prop},(t = [] ∨ wordedF k = true) → (n = 0 ∨ numberedF k = true) → (l.length ≠ opsN k → K true) → (l.length = opsN k → K false) → (Al fun b : Bool => b = (((encQyL l).length : Int) != (opsN k : Int)) → K b) := fun _ _ a b => al_ne (fun h => a fun e => h (by rw [encQyL_len,e])) (fun h => b (by rw [encQyL_len] at h; omega))
  have W := worded_ok k
  have N := numbered_ok k
  cases hw : wordedF k with
  | false =>
    rw [hw] at W
    refine ⟨_,W,?_⟩
    refine al_not ?_
    refine al_nes (fun h => ?_) (fun h => ?_)
    ·exact fin_b true (decide_eq_true (.inl ⟨h,rfl⟩))
    ·have h : t = [] := h
     cases hn : numberedF k with
     | false =>
       rw [hn] at N
       refine ⟨_,N,?_⟩
       refine al_not ?_
       refine al_ne (fun h3 => ?_) (fun h3 => ?_)
       ·exact fin_b true (decide_eq_true (.inr (.inl ⟨h3,rfl⟩)))
       ·refine ⟨_,el,?_⟩
        refine tail (.inl h) (.inl h3) (fun h4 => ?_) (fun h4 => ?_)
        ·exact fin_b true (decide_eq_true (.inr (.inr h4)))
        ·exact fin_b false (decide_eq_false (by rintro (e | e | e); exact e.1 h; exact e.1 h3; exact e h4))
     | true =>
       rw [hn] at N
       refine ⟨_,N,?_⟩
       refine al_not ?_
       refine ⟨_,el,?_⟩
       refine tail (.inl h) (.inr hn) (fun h4 => ?_) (fun h4 => ?_)
       ·exact fin_b true (decide_eq_true (.inr (.inr h4)))
       ·exact fin_b false (decide_eq_false (by rintro (e | e | e); exact e.1 h; exact Bool.noConfusion e.2; exact e h4))
  | true =>
    rw [hw] at W
    refine ⟨_,W,?_⟩
    refine al_not ?_
    cases hn : numberedF k with
    | false =>
      rw [hn] at N
      refine ⟨_,N,?_⟩
      refine al_not ?_
      refine al_ne (fun h3 => ?_) (fun h3 => ?_)
      ·exact fin_b true (decide_eq_true (.inr (.inl ⟨h3,rfl⟩)))
      ·refine ⟨_,el,?_⟩
       refine tail (.inr hw) (.inl h3) (fun h4 => ?_) (fun h4 => ?_)
       ·exact fin_b true (decide_eq_true (.inr (.inr h4)))
       ·exact fin_b false (decide_eq_false (by rintro (e | e | e); exact Bool.noConfusion e.2; exact e.1 h3; exact e h4))
    | true =>
      rw [hn] at N
      refine ⟨_,N,?_⟩
      refine al_not ?_
      refine ⟨_,el,?_⟩
      refine tail (.inr hw) (.inr hn) (fun h4 => ?_) (fun h4 => ?_)
      ·exact fin_b true (decide_eq_true (.inr (.inr h4)))
      ·exact fin_b false (decide_eq_false (by rintro (e | e | e); exact Bool.noConfusion e.2; exact Bool.noConfusion e.2; exact e h4))
 generalize hb : decide ((t ≠ [] ∧ wordedF k = false) ∨ (n ≠ 0 ∧ numberedF k = false) ∨ l.length ≠ opsN k) = b
 cases b with
 | true => exact out 1 (by unfold partF; rw [if_neg hk,if_pos (of_decide_eq_true hb)])
 | false =>
 have hc := of_decide_eq_false hb
 refine al_dec (fun h => ?_) (fun h3 => ?_)
 ·have h : (t.length : Int) > 200 := h
  exact out 4 (by unfold partF; rw [if_neg hk,if_neg hc,if_pos (by omega)])
 have h3 : ¬ (t.length : Int) > 200 := h3
 have h3' : ¬ 200 < t.length := by omega
 have ck := refCheck_ok t (by omega)
 have hx := hex_ok t (by omega)
 refine ⟨some (fun vs => vs = [(.p (.bool (decide (((k = 4 ∨ k = 5) ∧ globB t = false) ∨ (k = 8 ∧ hexF t = false)))))]),keepA (.p (.bool (decide (((k = 4 ∨ k = 5) ∧ globB t = false) ∨ (k = 8 ∧ hexF t = false))))) 68 rfl ?_ ?_⟩
 ·have g : ∀ {K : Bool → Prop},(globB t = false → K true) → (globB t = true → K false) → (Al fun b : Bool => b = ((parseF t).2 != 0) → K b) := fun a b => al_ne (fun h => a (decide_eq_false h)) (fun h => b (decide_eq_true h))
  refine al_eq (fun h4 => ?_) (fun h4 => ?_)
  ·refine ⟨_,ck,?_⟩
   refine g (fun h => ?_) (fun h => ?_)
   ·exact fin_b true (decide_eq_true (.inl ⟨.inl h4,h⟩))
   ·refine al_eq (fun h8 => absurd (h8.symm.trans h4) (by decide)) (fun h8 => ?_)
    exact fin_b false (decide_eq_false (by rintro (e | e); rw [h] at e; exact Bool.noConfusion e.2; exact h8 e.1))
  ·refine al_eq (fun h5 => ?_) (fun h5 => ?_)
   ·refine ⟨_,ck,?_⟩
    refine g (fun h => ?_) (fun h => ?_)
    ·exact fin_b true (decide_eq_true (.inl ⟨.inr h5,h⟩))
    ·refine al_eq (fun h8 => absurd (h8.symm.trans h5) (by decide)) (fun h8 => ?_)
     exact fin_b false (decide_eq_false (by rintro (e | e); rw [h] at e; exact Bool.noConfusion e.2; exact h8 e.1))
   ·refine al_eq (fun h8 => ?_) (fun h8 => ?_)
    ·refine ⟨_,hx,?_⟩
     refine al_not ?_
     have : decide (((k = 4 ∨ k = 5) ∧ globB t = false) ∨ (k = 8 ∧ hexF t = false)) = !hexF t := by
      cases hexF t with
      | false => exact decide_eq_true (.inr ⟨h8,rfl⟩)
      | true => exact decide_eq_false (by rintro (e | e); rcases e.1 with e | e; exact h4 e; exact h5 e; exact Bool.noConfusion e.2)
     rw [this]
     rfl
    ·exact fin_b false (decide_eq_false (by rintro (e | e); rcases e.1 with e | e; exact h4 e; exact h5 e; exact h8 e.1))
 generalize hb2 : decide (((k = 4 ∨ k = 5) ∧ globB t = false) ∨ (k = 8 ∧ hexF t = false)) = b2
 cases b2 with
 | true =>
   have hd := of_decide_eq_true hb2
   refine out 3 ?_
   unfold partF
   rw [if_neg hk,if_neg hc,if_neg h3']
   rcases hd with hd | hd
   ·rw [if_pos hd]
   ·rw [if_neg (by omega),if_pos hd]
 | false =>
 have hd := of_decide_eq_false hb2
 have hP : partF globB k t n l.length = if n < 0 ∨ 1099511627776 < n then 2 else 0 := by
  unfold partF
  rw [if_neg hk,if_neg hc,if_neg h3',if_neg (fun e => hd (.inl e)),if_neg (fun e => hd (.inr e))]
 refine ⟨none,?_⟩
 refine al_dec (fun h => ?_) (fun h5 => ?_)
 ·have h : n < 0 := h
  exact out 2 (by rw [hP,if_pos (.inl h)])
 refine al_dec (fun h => ?_) (fun h6 => ?_)
 ·have h : n > 1099511627776 := h
  exact out 2 (by rw [hP,if_pos (.inr h)])
 have h5 : ¬ n < 0 := h5
 have h6 : ¬ n > 1099511627776 := h6
 exact out 0 (by rw [hP,if_neg (by omega)])
end Qv

end

section
open Go Go.Proofs Go.RowKit
namespace Qv
theorem allE_mk (G : Bytes → Bool) (k : Int) (t : Bytes) (n : Int) (l : List Qy) : allE G (.mk k t n l) = if partF G k t n l.length = 0 then allEL G l else partF G k t n l.length := rfl
theorem allEL_cons (G : Bytes → Bool) (q : Qy) (l : List Qy) : allEL G (q :: l) = if allE G q = 0 then allEL G l else allE G q := rfl
theorem parts_ok (q : Qy) : szQ q → CallsTo C 51 [.agg (encQy q)] (fun r => r = .val (.int .i64 (allE globB q))) := by
 refine Qy.ind (P := fun q => szQ q → CallsTo C 51 [.agg (encQy q)] (fun r => r = .val (.int .i64 (allE globB q)))) ?_ q
 intro k t n l ih hs
 obtain ⟨s1,s2,s3⟩ := szQ_mk.1 hs
 rw [allE_mk]
 refine cTo' Tryz.func51 rfl rfl rfl ?_
 refine ⟨_,part_ok k t n l s1 s2,fun r hr => ?_⟩
 subst hr
 refine al_ne (fun h => ?_) (fun h => ?_)
 ·rw [if_neg h]
  exact rfl
 rw [if_pos h]
 generalize hX : allEL globB l = X
 refine loopR 27 (fun i : Nat => [(1,.ptr 1 0),(4,.p (.int .i64 i))]) (fun _ => [(1,mapP [.int .i64 k,.str t,.int .i64 n,.sl (encQyL l)])])
  (fun i => i ≤ l.length ∧ allEL globB (l.drop i) = X) (fun i => l.length - i) 0 ⟨Nat.zero_le _,hX⟩ rfl ⟨wR,wR,trivial⟩ ⟨hO1 rfl,trivial⟩ ?_
 clear hX
 rintro i ⟨hi,hX⟩
 refine al_ltq (fun hlt => ?_) (fun hge => ?_)
 ·obtain ⟨k',t',n',l',hq⟩ := get_q hlt
  have hmem := List.mem_of_getElem? hq
  rw [drop_at hq,allEL_cons] at hX
  have hw5 : IntKind.i64.wrap ((i : Int) + 1) = ((i + 1 : Nat) : Int) := by rw [wrap64 (by omega) (by omega)]; omega
  refine ⟨by omega,_,idx_q hq,rfl,?_⟩
  refine ⟨_,ih _ hmem (s3 _ hmem),fun r hr => ?_⟩
  subst hr
  refine al_ne (fun h => ?_) (fun h => ?_)
  ·rw [if_neg h] at hX
   subst hX
   exact rfl
  ·rw [if_pos h] at hX
   exact ⟨_,hw5,roundR (i + 1) ⟨hlt,hX⟩ (by show l.length - (i + 1) < l.length - i; omega) rfl ⟨wR,wR,trivial⟩ ⟨hO1 rfl,trivial⟩⟩
 ·have hge : i = l.length := by omega
  subst hge
  rw [List.drop_length] at hX
  subst hX
  exact rfl
theorem checkR_ok (q : Qy) (hs : szQ q) : CallsTo C 23 [.agg (encQy q)] (fun r => r = .val (.int .i64 (checkQ globB q))) := by
 obtain ⟨k,t,n,l⟩ := q
 refine cTo' Tryz.func23 rfl rfl rfl ?_
 refine ⟨_,count_ok (.mk k t n l) hs 200 12 (by decide) (by decide),fun r hr => ?_⟩
 subst hr
 have hc := count_le (.mk k t n l) 200 12
 unfold checkQ
 refine al_dec (fun h => ?_) (fun h => ?_)
 ·have h : ((countF (.mk k t n l) 200 12 : Nat) : Int) > 200 := h
  rw [if_neg (fun e => by have := hc.2 e; omega)]
  exact rfl
 ·have h : ¬ ((countF (.mk k t n l) 200 12 : Nat) : Int) > 200 := h
  rw [if_pos (hc.1 (by omega))]
  refine ⟨_,parts_ok (.mk k t n l) hs,fun r hr => ?_⟩
  subst hr
  exact rfl
mutual
def longF : Qy → Bool
 | .mk _ t _ l => longL l || decide (300 < t.length)
def longL : List Qy → Bool
 | [] => false
 | q :: l => longF q || longL l
end
theorem longL_cons (q : Qy) (l : List Qy) : longL (q :: l) = (longF q || longL l) := rfl
theorem long_ok (q : Qy) : szQ q → CallsTo C 59 [.agg (encQy q)] (fun r => r = .val (.bool (longF q))) := by
 refine Qy.ind (P := fun q => szQ q → CallsTo C 59 [.agg (encQy q)] (fun r => r = .val (.bool (longF q)))) ?_ q
 intro k t n l ih hs
 obtain ⟨s1,s2,s3⟩ := szQ_mk.1 hs
 have hF : longF (.mk k t n l) = (longL l || decide (300 < t.length)) := rfl
 rw [hF]
 refine cTo' Tryz.func59 rfl rfl rfl ?_
 generalize hX : longL l = X
 refine loopR 21 (fun i : Nat => [(1,.ptr 1 0),(3,.p (.int .i64 i))]) (fun _ => [(1,mapP [.int .i64 k,.str t,.int .i64 n,.sl (encQyL l)])])
  (fun i => i ≤ l.length ∧ longL (l.drop i) = X) (fun i => l.length - i) 0 ⟨Nat.zero_le _,hX⟩ rfl ⟨wR,wR,trivial⟩ ⟨hO1 rfl,trivial⟩ ?_
 clear hX
 rintro i ⟨hi,hX⟩
 refine al_ltq (fun hlt => ?_) (fun hge => ?_)
 ·obtain ⟨k',t',n',l',hq⟩ := get_q hlt
  have hmem := List.mem_of_getElem? hq
  rw [drop_at hq,longL_cons] at hX
  have hw5 : IntKind.i64.wrap ((i : Int) + 1) = ((i + 1 : Nat) : Int) := by rw [wrap64 (by omega) (by omega)]; omega
  have hc := ih _ hmem (s3 _ hmem)
  refine ⟨by omega,_,idx_q hq,rfl,?_⟩
  cases hb : longF (.mk k' t' n' l') with
  | true =>
    rw [hb] at hc hX
    refine ⟨_,hc,fun r hr => ?_⟩
    subst hr
    have hX : true = X := hX
    subst hX
    exact rfl
  | false =>
    rw [hb] at hc hX
    refine ⟨_,hc,fun r hr => ?_⟩
    subst hr
    exact ⟨_,hw5,roundR (i + 1) ⟨hlt,hX⟩ (by show l.length - (i + 1) < l.length - i; omega) rfl ⟨wR,wR,trivial⟩ ⟨hO1 rfl,trivial⟩⟩
 ·have hge : i = l.length := by omega
  subst hge
  rw [List.drop_length] at hX
  have hX : false = X := hX
  subst hX
  rw [Bool.false_or]
  refine al_dec (fun h => ?_) (fun h => ?_)
  ·have h : (t.length : Int) > 300 := h
   rw [decide_eq_true (show 300 < t.length by omega)]
   exact rfl
  ·have h : ¬ (t.length : Int) > 300 := h
   rw [decide_eq_false (show ¬ 300 < t.length by omega)]
   exact rfl
def greatQ (q : Qy) : Bool := !decide (fitsQ q 60 15) || longF q
theorem greatQ_ok (q : Qy) (hs : szQ q) : CallsTo C 30 [.agg (encQy q)] (fun r => r = .val (.bool (greatQ q))) := by
 obtain ⟨k,t,n,l⟩ := q
 refine cTo' Tryz.func30 rfl rfl rfl ?_
 have hc := count_le (.mk k t n l) 60 15
 unfold greatQ
 refine ⟨none,?_⟩
 refine ⟨_,count_ok (.mk k t n l) hs 60 15 (by decide) (by decide),fun r hr => ?_⟩
 subst hr
 refine al_dec (fun h => ?_) (fun h => ?_)
 ·have h : ((countF (.mk k t n l) 60 15 : Nat) : Int) > 60 := h
  rw [decide_eq_false (fun e => by have := hc.2 e; omega)]
  exact rfl
 ·have h : ¬ ((countF (.mk k t n l) 60 15 : Nat) : Int) > 60 := h
  rw [decide_eq_true (hc.1 (by omega))]
  refine ⟨_,long_ok (.mk k t n l) hs,fun r hr => ?_⟩
  subst hr
  exact rfl
theorem sameQ_mk (k : Int) (t : Bytes) (n : Int) (l : List Qy) (k' : Int) (t' : Bytes) (n' : Int) (l' : List Qy) : sameQ (.mk k t n l) (.mk k' t' n' l') = (decide (k = k') && (decide (t = t') && (decide (n = n') && sameQL l l'))) := rfl
theorem sameQL_len : ∀ {l m : List Qy},l.length ≠ m.length → sameQL l m = false
 | [],[],h => absurd rfl h
 | [],_ :: _,_ => rfl
 | _ :: _,[],_ => rfl
 | a :: l,b :: m,h => by
   show (sameQ a b && sameQL l m) = false
   rw [sameQL_len (by simpa using h),Bool.and_false]
theorem sameQ_ok (a : Qy) : szQ a → ∀ b,szQ b → CallsTo C 19 [.agg (encQy a),.agg (encQy b)] (fun r => r = .val (.bool (sameQ a b))) := by
 refine Qy.ind (P := fun a => szQ a → ∀ b,szQ b → CallsTo C 19 [.agg (encQy a),.agg (encQy b)] (fun r => r = .val (.bool (sameQ a b)))) ?_ a
 intro k t n l ih hs b hsb
 obtain ⟨k',t',n',l'⟩ := b
 obtain ⟨s1,s2,s3⟩ := szQ_mk.1 hs
 obtain ⟨u1,u2,u3⟩ := szQ_mk.1 hsb
 have out : ∀ x,sameQ (.mk k t n l) (.mk k' t' n' l') = x → (fun r => r = Ret.val (.bool (sameQ (.mk k t n l) (.mk k' t' n' l')))) (.val (.bool x)) := fun x h => by rw [h]
 rw [sameQ_mk] at out ⊢
 refine cTo' Tryz.func19 rfl rfl rfl ?_
 refine ⟨none,?_⟩
 refine al_ne (fun h => ?_) (fun h1 => ?_)
 ·exact out false (by rw [decide_eq_false h]; rfl)
 refine al_nes (fun h => ?_) (fun h2 => ?_)
 ·exact out false (by rw [decide_eq_false (show ¬ t = t' from h),Bool.false_and,Bool.and_false])
 refine al_ne (fun h => ?_) (fun h3 => ?_)
 ·exact out false (by rw [decide_eq_false (show ¬ n = n' from h),Bool.false_and,Bool.and_false,Bool.and_false])
 refine al_ne (fun h => ?_) (fun h4 => ?_)
 ·exact out false (by rw [sameQL_len (fun e => h (by rw [encQyL_len,encQyL_len,e])),Bool.and_false,Bool.and_false,Bool.and_false])
 have h4 : l.length = l'.length := by
  rw [encQyL_len,encQyL_len] at h4
  omega
 have h1 : k = k' := h1
 have h2 : t = t' := h2
 have h3 : n = n' := h3
 rw [decide_eq_true h1,decide_eq_true h2,decide_eq_true h3,Bool.true_and,Bool.true_and,Bool.true_and]
 clear out
 generalize hX : sameQL l l' = X
 refine loopR 53 (fun i : Nat => [(2,.ptr 2 0),(3,.ptr 3 0),(5,.p (.int .i64 i))]) (fun _ => [(2,mapP [.int .i64 k,.str t,.int .i64 n,.sl (encQyL l)]),(3,mapP [.int .i64 k',.str t',.int .i64 n',.sl (encQyL l')])])
  (fun i => i ≤ l.length ∧ sameQL (l.drop i) (l'.drop i) = X) (fun i => l.length - i) 0 ⟨Nat.zero_le _,hX⟩ rfl ⟨wR,wR,wR,trivial⟩ ⟨hO1 rfl,hO1 rfl,trivial⟩ ?_
 clear hX
 rintro i ⟨hi,hX⟩
 refine al_ltq (fun hlt => ?_) (fun hge => ?_)
 ·obtain ⟨a1,a2,a3,a4,hq⟩ := get_q hlt
  obtain ⟨b1,b2,b3,b4,hq'⟩ := get_q (l := l') (i := i) (by omega)
  have hmem := List.mem_of_getElem? hq
  have hmem' := List.mem_of_getElem? hq'
  rw [drop_at hq,drop_at hq'] at hX
  have hX : (sameQ (.mk a1 a2 a3 a4) (.mk b1 b2 b3 b4) && sameQL (l.drop (i + 1)) (l'.drop (i + 1))) = X := hX
  have hw5 : IntKind.i64.wrap ((i : Int) + 1) = ((i + 1 : Nat) : Int) := by rw [wrap64 (by omega) (by omega)]; omega
  have hc := ih _ hmem (s3 _ hmem) _ (u3 _ hmem')
  refine lex2 12 (by kernel_rfl) ?_
  refine ⟨by omega,_,idx_q hq,rfl,?_⟩
  refine ⟨by omega,_,idx_q hq',rfl,?_⟩
  cases hb : sameQ (.mk a1 a2 a3 a4) (.mk b1 b2 b3 b4) with
  | true =>
    rw [hb] at hc hX
    refine ⟨_,hc,?_⟩
    refine al_not ?_
    exact ⟨_,hw5,roundR (i + 1) ⟨hlt,hX⟩ (by show l.length - (i + 1) < l.length - i; omega) rfl ⟨wR,wR,wR,trivial⟩ ⟨hO1 rfl,hO1 rfl,trivial⟩⟩
  | false =>
    rw [hb] at hc hX
    refine ⟨_,hc,?_⟩
    refine al_not ?_
    have hX : false = X := hX
    subst hX
    exact rfl
 ·have hge : i = l.length := by omega
  subst hge
  rw [List.drop_length,List.drop_eq_nil_of_le (by omega)] at hX
  have hX : true = X := hX
  subst hX
  exact rfl
end Qv

end
