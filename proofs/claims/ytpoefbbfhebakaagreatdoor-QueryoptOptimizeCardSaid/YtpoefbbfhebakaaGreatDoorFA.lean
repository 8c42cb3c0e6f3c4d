/- Several texts in one: Contracts: Normal, equal, negates, disjoint, Disjoint and what follows. No condition. -/
import Derived.Test.YtpoefbbfhebakaaGreatDoorF9
import Derived.Test.YtpoefbbfhebakaaGreatDoorF6
set_option linter.unusedVariables false
set_option linter.unusedSimpArgs false

section
open Go Go.Proofs Go.RowKit
namespace Qv
theorem sz_one {k : Int} {n : Int} {a : Qy} (h : szQ a) : szQ (.mk k [] n [a]) :=
 szQ_mk.2 ⟨by simp,by simp,fun x hx => by rw [List.mem_singleton.1 hx]; exact h⟩
theorem sz_two {k : Int} {n : Int} {a b : Qy} (h : szQ a) (g : szQ b) : szQ (.mk k [] n [a,b]) :=
 szQ_mk.2 ⟨by simp,by simp,fun x hx => by
  rcases List.mem_cons.1 hx with rfl | hx
  ·exact h
  ·rw [List.mem_singleton.1 hx]; exact g⟩
theorem sz_const (k : Int) : szQ (.mk k [] 0 []) := szQ_mk.2 ⟨by simp,by simp,fun x hx => by cases hx⟩
theorem sz_normal {G : Bytes → Bool} (q : Qy) : allE G q = 0 → szQ q → ∀ neg,szQ (normalF q neg) := by
 refine Qy.ind (P := fun q => allE G q = 0 → szQ q → ∀ neg,szQ (normalF q neg)) ?_ q
 intro k t n l ih hv hs neg
 obtain ⟨s1,s2,s3⟩ := szQ_mk.1 hs
 rcases valid_cases hv with ⟨h1,h8,rfl⟩ | ⟨hk,rfl,rfl,a,rfl,ha⟩ | ⟨hk,rfl,rfl,a,b,rfl,ha,hb⟩
 ·by_cases hc : k = 1 ∨ k = 2
  ·rw [normal_const hc]
   cases neg with
   | true => exact sz_const _
   | false => exact hs
  ·rw [normal_leaf (by omega)]
   cases neg with
   | true => exact sz_one hs
   | false => exact hs
 ·have i := ih a (by simp) ha (s3 a (by simp))
  by_cases h9 : k = 9
  ·subst h9
   rw [normal_not]
   exact i _
  ·rw [normal_over (by omega)]
   cases neg with
   | true => exact sz_one (sz_one (i false))
   | false => exact sz_one (i false)
 ·rw [normal_both hk]
  exact sz_two (ih a (by simp) ha (s3 a (by simp)) neg) (ih b (by simp) hb (s3 b (by simp)) neg)
theorem normQ_ok (q : Qy) (hs : szQ q) : CallsTo C 17 [.agg (encQy q)] (fun r => r = .val (.tup [.agg (encQy (normF q).1),.int .i64 (normF q).2])) := by
 obtain ⟨k,t,n,l⟩ := q
 refine cTo' Tryz.func17 rfl rfl rfl ?_
 refine ⟨_,check_ok (.mk k t n l) hs,fun r hr => ?_⟩
 subst hr
 unfold normF
 refine al_ne (fun h => ?_) (fun h => ?_)
 ·rw [if_pos h]
  exact rfl
 have h : checkQ globB (.mk k t n l) = 0 := h
 rw [if_neg (by rw [h]; simp)]
 have hv := check_all h
 have hc := normalC_ok _ hv false
 have hz := sz_normal _ hv hs false
 obtain ⟨k2,t2,n2,l2,hx⟩ : ∃ k2 t2 n2 l2,normalF (.mk k t n l) false = .mk k2 t2 n2 l2 := ⟨_,_,_,_,Qy.eta _⟩
 rw [hx] at hc hz ⊢
 refine ⟨_,hc,fun r hr => ?_⟩
 subst hr
 refine ⟨_,check_ok (.mk k2 t2 n2 l2) hz,fun r hr => ?_⟩
 subst hr
 refine al_ne (fun h => ?_) (fun h => ?_)
 ·rw [if_pos h]
  exact rfl
 ·rw [if_neg (fun e => e h)]
  exact rfl
theorem eqFunc_ok (l : List Qy) (hl : l.length ≤ 2 ^ 47) (hx : ∀ x,x ∈ l → ∀ b,CallsTo C 85 [.agg (encQy x),.agg (encQy b)] (fun r => r = .val (.bool (sameQ x b)))) (m : List Qy) :
 CallsTo C 138 [.sl (encQyL l),.sl (encQyL m),.fn (.func 85) [] []] (fun r => r = .val (.bool (sameQL l m))) := by
 refine cTo' Tryz.func138 rfl rfl rfl ?_
 refine al_ne (fun h => ?_) (fun h => ?_)
 ·rw [sameQL_len (fun e => h (by rw [encQyL_len,encQyL_len,e]))]
  exact rfl
 have h4 : l.length = m.length := by
  rw [encQyL_len,encQyL_len] at h
  omega
 generalize hX : sameQL l m = X
 refine loopR 32 (fun i : Nat => [(1,.p (.sl (encQyL m))),(2,.p (.fn (.func 85) [] [])),(15,.p (.sl (encQyL l))),(16,.p (.int .i64 (encQyL l).length)),(17,.p (.int .i64 i))]) (fun _ => [])
  (fun i => i ≤ l.length ∧ sameQL (l.drop i) (m.drop i) = X) (fun i => l.length - i) 0 ⟨Nat.zero_le _,hX⟩ rfl ⟨wR,wR,wR,wR,wR,trivial⟩ trivial ?_
 clear hX
 rintro i ⟨hi,hX⟩
 refine al_ltq (fun hlt => ?_) (fun hge => ?_)
 ·obtain ⟨a1,a2,a3,a4,hq⟩ := get_q hlt
  obtain ⟨b1,b2,b3,b4,hq'⟩ := get_q (l := m) (i := i) (by omega)
  have hmem := List.mem_of_getElem? hq
  rw [drop_at hq,drop_at hq'] at hX
  have hX : (sameQ (.mk a1 a2 a3 a4) (.mk b1 b2 b3 b4) && sameQL (l.drop (i + 1)) (m.drop (i + 1))) = X := hX
  have hw5 : IntKind.i64.wrap ((i : Int) + 1) = ((i + 1 : Nat) : Int) := by rw [wrap64 (by omega) (by omega)]; omega
  have hc := hx _ hmem (.mk b1 b2 b3 b4)
  refine ⟨by omega,_,idx_q hq,rfl,?_⟩
  refine ⟨by omega,_,idx_q hq',rfl,?_⟩
  cases hb : sameQ (.mk a1 a2 a3 a4) (.mk b1 b2 b3 b4) with
  | true =>
    rw [hb] at hc hX
    refine ⟨_,hc,fun r hr => ?_⟩
    subst hr
    refine al_not ?_
    exact ⟨_,hw5,roundR (i + 1) ⟨hlt,hX⟩ (by show l.length - (i + 1) < l.length - i; omega) rfl ⟨wR,wR,wR,wR,wR,trivial⟩ trivial⟩
  | false =>
    rw [hb] at hc hX
    refine ⟨_,hc,fun r hr => ?_⟩
    subst hr
    refine al_not ?_
    have hX : false = X := hX
    subst hX
    exact rfl
 ·have hge : i = l.length := by omega
  subst hge
  rw [List.drop_length,List.drop_eq_nil_of_le (by omega)] at hX
  have hX : true = X := hX
  subst hX
  exact rfl
theorem equalC_ok (a : Qy) : szQ a → ∀ b,CallsTo C 85 [.agg (encQy a),.agg (encQy b)] (fun r => r = .val (.bool (sameQ a b))) := by
 refine Qy.ind (P := fun a => szQ a → ∀ b,CallsTo C 85 [.agg (encQy a),.agg (encQy b)] (fun r => r = .val (.bool (sameQ a b)))) ?_ a
 intro k t n l ih hs b
 obtain ⟨k',t',n',l'⟩ := b
 obtain ⟨s1,s2,s3⟩ := szQ_mk.1 hs
 have hf := eqFunc_ok l s2 (fun x hx b => ih x hx (s3 x hx) b) l'
 rw [sameQ_mk]
 refine cTo' Tryz.func85 rfl rfl rfl ?_
 refine ⟨none,?_⟩
 refine al_eq (fun h1 => ?_) (fun h => ?_)
 ·have h1 : k = k' := h1
  rw [decide_eq_true h1,Bool.true_and]
  refine al_eq (fun h2 => ?_) (fun h => ?_)
  ·have h2 : t = t' := h2
   rw [decide_eq_true h2,Bool.true_and]
   refine al_eq (fun h3 => ?_) (fun h => ?_)
   ·have h3 : n = n' := h3
    rw [decide_eq_true h3,Bool.true_and]
    refine ⟨_,hf,fun r hr => ?_⟩
    subst hr
    exact rfl
   ·have h : ¬ n = n' := h
    rw [decide_eq_false h]
    exact rfl
  ·have h : ¬ t = t' := h
   rw [decide_eq_false h]
   exact rfl
 ·have h : ¬ k = k' := h
  rw [decide_eq_false h]
  exact rfl
end Qv

end

section
open Go Go.Proofs Go.RowKit
namespace Qv
theorem hasPrefixQ_ok (s p : Bytes) : CallsTo C 161 [.str s,.str p] (fun r => r = .val (.bool (beginsF s p))) := by
 refine ⟨⟨_,Tryz.func161,rfl,rfl⟩,fun imm w vs hJ hn hi hl hr => ?_⟩
 match vs,hl with
 | [v0,v1],_ =>
 have h := hr 0 v0 _ rfl rfl
 have h' := hr 1 v1 _ rfl rfl
 obtain rfl : v0 = .string ⟨s.toArray⟩ := by cases h; rfl
 obtain rfl : v1 = .string ⟨p.toArray⟩ := by cases h'; rfl
 refine (Tryz.strings_HasPrefix ⟨s.toArray⟩ ⟨p.toArray⟩ w).mono ?_
 rintro e w' ⟨rfl,rfl⟩
 exact ⟨_,_,rfl,rfl,.bool _,Below.refl _ _⟩
theorem part_bounds {G : Bytes → Bool} {k : Int} {t : Bytes} {n : Int} {m : Nat} (h : partF G k t n m = 0) : t.length ≤ 200 ∧ 0 ≤ n ∧ n ≤ 1099511627776 := by
 unfold partF at h
 split at h
 ·cases h
 split at h
 ·cases h
 split at h
 ·cases h
 split at h
 ·cases h
 split at h
 ·cases h
 split at h
 ·cases h
 omega
theorem valid_bounds {G : Bytes → Bool} {k : Int} {t : Bytes} {n : Int} {l : List Qy} (h : allE G (.mk k t n l) = 0) : t.length ≤ 200 ∧ 0 ≤ n ∧ n ≤ 1099511627776 :=
 part_bounds (allE_zero.1 h).1
theorem beginsC_ok (a b : Qy) : CallsTo C 125 [.agg (encQy a),.agg (encQy b)] (fun r => r = .val (.bool (beginsF a.text b.text || beginsF b.text a.text))) := by
 obtain ⟨k,t,n,l⟩ := a
 obtain ⟨k',t',n',l'⟩ := b
 refine cTo' Tryz.func125 rfl rfl rfl ?_
 show _
 have h1 := hasPrefixQ_ok t t'
 have h2 := hasPrefixQ_ok t' t
 refine ⟨none,?_⟩
 have e : (beginsF (Qy.mk k t n l).text (Qy.mk k' t' n' l').text || beginsF (Qy.mk k' t' n' l').text (Qy.mk k t n l).text) = (beginsF t t' || beginsF t' t) := rfl
 rw [e]
 cases hb : beginsF t t' with
 | true =>
   rw [hb] at h1
   refine ⟨_,h1,fun r hr => ?_⟩
   subst hr
   exact rfl
 | false =>
   rw [hb] at h1
   refine ⟨_,h1,fun r hr => ?_⟩
   subst hr
   refine ⟨_,h2,fun r hr => ?_⟩
   subst hr
   exact rfl
theorem are_ok (a b : Qy) (x y : Int) : CallsTo C 124 [.agg (encQy a),.agg (encQy b),.int .i64 x,.int .i64 y] (fun r => r = .val (.bool (decide (a.kind = x ∧ b.kind = y)))) := by
 obtain ⟨k,t,n,l⟩ := a
 obtain ⟨k',t',n',l'⟩ := b
 have e : decide ((Qy.mk k t n l).kind = x ∧ (Qy.mk k' t' n' l').kind = y) = decide (k = x ∧ k' = y) := rfl
 rw [e]
 refine cTo' Tryz.func124 rfl rfl rfl ?_
 refine ⟨none,?_⟩
 refine al_eq (fun h1 => ?_) (fun h => ?_)
 ·have h1 : k = x := h1
  refine al_eq (fun h2 => ?_) (fun h => ?_)
  ·have h2 : k' = y := h2
   rw [decide_eq_true (show k = x ∧ k' = y from ⟨h1,h2⟩)]
   exact rfl
  ·have h : ¬ k' = y := h
   rw [decide_eq_false (fun e => h e.2)]
   exact rfl
 ·have h : ¬ k = x := h
  rw [decide_eq_false (fun e => h e.1)]
  exact rfl
theorem apartC_ok (a b : Qy) (h1 : 0 ≤ b.num) (h2 : b.num ≤ 1099511627776) : CallsTo C 127 [.agg (encQy a),.agg (encQy b)] (fun r => r = .val (.bool (decide (a.num ≤ b.num + 1)))) := by
 obtain ⟨k,t,n,l⟩ := a
 obtain ⟨k',t',n',l'⟩ := b
 have h1 : 0 ≤ n' := h1
 have h2 : n' ≤ 1099511627776 := h2
 have e : decide ((Qy.mk k t n l).num ≤ (Qy.mk k' t' n' l').num + 1) = decide (n ≤ n' + 1) := rfl
 rw [e]
 have hw : IntKind.i64.wrap (n' + 1) = n' + 1 := by rw [wrap64 (by omega) (by omega)]
 refine cTo' Tryz.func127 rfl rfl rfl ?_
 refine ⟨_,hw,?_⟩
 refine al_dec (fun h => ?_) (fun h => ?_)
 ·rw [decide_eq_true (show n ≤ n' + 1 from h)]
  exact rfl
 ·rw [decide_eq_false (show ¬ n ≤ n' + 1 from h)]
  exact rfl
theorem negatesC_ok {G : Bytes → Bool} (a b : Qy) (hv : allE G a = 0) (hs : szQ a) : CallsTo C 92 [.agg (encQy a),.agg (encQy b)] (fun r => r = .val (.bool (negatesF a b))) := by
 obtain ⟨k,t,n,l⟩ := a
 obtain ⟨k',t',n',l'⟩ := b
 have e : negatesF (.mk k t n l) (.mk k' t' n' l') = (decide (k = 9) && sameQ ((Qy.mk k t n l).nth 0) (.mk k' t' n' l')) := rfl
 rw [e]
 refine cTo' Tryz.func92 rfl rfl rfl ?_
 refine lex2 12 (by kernel_rfl) ?_
 refine al_eq (fun h => ?_) (fun h => ?_)
 ·have h : k = 9 := h
  rw [decide_eq_true h,Bool.true_and]
  rcases valid_cases hv with ⟨_,h8,_⟩ | ⟨_,rfl,rfl,x,rfl,_⟩ | ⟨hk,_⟩
  ·omega
  ·obtain ⟨k1,t1,n1,l1⟩ := x
   refine ⟨by decide,_,rfl,rfl,?_⟩
   refine ⟨_,equalC_ok (.mk k1 t1 n1 l1) ((szQ_mk.1 hs).2.2 _ (by simp)) (.mk k' t' n' l'),?_⟩
   exact rfl
  ·omega
 ·have h : ¬ k = 9 := h
  rw [decide_eq_false h]
  exact rfl
end Qv

end

section
open Go Go.Proofs Go.RowKit
namespace Qv
theorem disjN_succ (O : Bytes → Bytes → Bool) (n : Nat) (a b : Qy) : disjN O (n + 1) a b =
 if (decide (a.kind = 2) || (decide (b.kind = 2) || (negatesF a b || negatesF b a))) = true then true
 else if a.kind = 11 then disjN O n (a.nth 0) b && disjN O n (a.nth 1) b
 else if b.kind = 11 then disjN O n a (b.nth 0) && disjN O n a (b.nth 1)
 else if a.kind = 10 then disjN O n (a.nth 0) b || disjN O n (a.nth 1) b
 else if b.kind = 10 then disjN O n a (b.nth 0) || disjN O n a (b.nth 1)
 else leavesF O a b := rfl
theorem two_of {G : Bytes → Bool} {k : Int} {t : Bytes} {n : Int} {l : List Qy} (hv : allE G (.mk k t n l) = 0) (hs : szQ (.mk k t n l)) (hk : k = 10 ∨ k = 11) :
 ∃ k1 t1 n1 l1 k2 t2 n2 l2,l = [.mk k1 t1 n1 l1,.mk k2 t2 n2 l2] ∧ allE G (.mk k1 t1 n1 l1) = 0 ∧ allE G (.mk k2 t2 n2 l2) = 0 ∧ szQ (.mk k1 t1 n1 l1) ∧ szQ (.mk k2 t2 n2 l2) ∧
   (Qy.mk k1 t1 n1 l1).parts < (Qy.mk k t n l).parts ∧ (Qy.mk k2 t2 n2 l2).parts < (Qy.mk k t n l).parts := by
 have s3 := (szQ_mk.1 hs).2.2
 rcases valid_cases hv with ⟨_,h8,_⟩ | ⟨h9,_⟩ | ⟨_,rfl,rfl,a,b,rfl,ha,hb⟩
 ·omega
 ·omega
 ·obtain ⟨k1,t1,n1,l1⟩ := a
  obtain ⟨k2,t2,n2,l2⟩ := b
  refine ⟨k1,t1,n1,l1,k2,t2,n2,l2,rfl,ha,hb,s3 _ (by simp),s3 _ (by simp),?_,?_⟩
  ·exact parts_nth (q := .mk k [] 0 [.mk k1 t1 n1 l1,.mk k2 t2 n2 l2]) (i := 0) (by show 0 < 2; omega)
  ·exact parts_nth (q := .mk k [] 0 [.mk k1 t1 n1 l1,.mk k2 t2 n2 l2]) (i := 1) (by show 1 < 2; omega)
theorem disjC_ok : ∀ (N : Nat) (a b : Qy),allE globB a = 0 → allE globB b = 0 → szQ a → szQ b → a.parts + b.parts ≤ N → CallsTo C 76 [.agg (encQy a),.agg (encQy b)] (fun r => r = .val (.bool (disjN overF N a b))) := by
 intro N
 induction N with
 | zero => intro a b _ _ _ _ h; have := parts_pos a; omega
 | succ N ih =>
   intro a b hva hvb hsa hsb hN
   obtain ⟨k,t,n,l⟩ := a
   obtain ⟨k',t',n',l'⟩ := b
   have out : ∀ x,disjN overF (N + 1) (.mk k t n l) (.mk k' t' n' l') = x → (fun r => r = Ret.val (.bool (disjN overF (N + 1) (.mk k t n l) (.mk k' t' n' l')))) (.val (.bool x)) := fun x h => by rw [h]
   obtain ⟨u1,u2,u3⟩ := valid_bounds hva
   obtain ⟨w1,w2,w3⟩ := valid_bounds hvb
   have n1 := negatesC_ok (.mk k t n l) (.mk k' t' n' l') hva hsa
   have n2 := negatesC_ok (.mk k' t' n' l') (.mk k t n l) hvb hsb
   refine cTo' Tryz.func76 rfl rfl rfl ?_
   refine ⟨some (fun vs => vs = [(.p (.bool (decide (k = 2) || (decide (k' = 2) || (negatesF (.mk k t n l) (.mk k' t' n' l') || negatesF (.mk k' t' n' l') (.mk k t n l))))))]),keepA (.p (.bool (decide (k = 2) || (decide (k' = 2) || (negatesF (.mk k t n l) (.mk k' t' n' l') || negatesF (.mk k' t' n' l') (.mk k t n l)))))) 5 rfl ?_ ?_⟩
   ·refine al_eq (fun h => ?_) (fun h => ?_)
    ·have h : k = 2 := h
     rw [decide_eq_true h]
     exact rfl
    have h : ¬ k = 2 := h
    rw [decide_eq_false h]
    refine al_eq (fun h => ?_) (fun h => ?_)
    ·have h : k' = 2 := h
     rw [decide_eq_true h]
     exact rfl
    have h : ¬ k' = 2 := h
    rw [decide_eq_false h]
    cases hb : negatesF (.mk k t n l) (.mk k' t' n' l') with
    | true =>
      rw [hb] at n1
      exact ⟨_,n1,rfl⟩
    | false =>
      rw [hb] at n1
      exact ⟨_,n1,_,n2,rfl⟩
   generalize hc : (decide (k = 2) || (decide (k' = 2) || (negatesF (.mk k t n l) (.mk k' t' n' l') || negatesF (.mk k' t' n' l') (.mk k t n l)))) = c
   cases c with
   | true => exact out true (by rw [disjN_succ]; exact if_pos hc)
   | false =>
   have hD : disjN overF (N + 1) (.mk k t n l) (.mk k' t' n' l') =
    if k = 11 then disjN overF N ((Qy.mk k t n l).nth 0) (.mk k' t' n' l') && disjN overF N ((Qy.mk k t n l).nth 1) (.mk k' t' n' l')
    else if k' = 11 then disjN overF N (.mk k t n l) ((Qy.mk k' t' n' l').nth 0) && disjN overF N (.mk k t n l) ((Qy.mk k' t' n' l').nth 1)
    else if k = 10 then disjN overF N ((Qy.mk k t n l).nth 0) (.mk k' t' n' l') || disjN overF N ((Qy.mk k t n l).nth 1) (.mk k' t' n' l')
    else if k' = 10 then disjN overF N (.mk k t n l) ((Qy.mk k' t' n' l').nth 0) || disjN overF N (.mk k t n l) ((Qy.mk k' t' n' l').nth 1)
    else leavesF overF (.mk k t n l) (.mk k' t' n' l') := by
    rw [disjN_succ]
    exact if_neg (by show ¬ (decide (k = 2) || (decide (k' = 2) || (negatesF (.mk k t n l) (.mk k' t' n' l') || negatesF (.mk k' t' n' l') (.mk k t n l)))) = true; rw [hc]; simp)
   rw [hD] at out ⊢
   clear n1 n2 hc
   refine al_eq (fun h11 => ?_) (fun h11 => ?_)
   ·have h11 : k = 11 := h11
    obtain ⟨k1,t1,m1,l1,k2,t2,m2,l2,rfl,va,vb,sa,sb,pa,pb⟩ := two_of hva hsa (.inr h11)
    have c1 := ih (.mk k1 t1 m1 l1) (.mk k' t' n' l') va hvb sa hsb (by omega)
    have c2 := ih (.mk k2 t2 m2 l2) (.mk k' t' n' l') vb hvb sb hsb (by omega)
    rw [if_pos h11] at out ⊢
    have e : (disjN overF N ((Qy.mk k t n [.mk k1 t1 m1 l1,.mk k2 t2 m2 l2]).nth 0) (.mk k' t' n' l') && disjN overF N ((Qy.mk k t n [.mk k1 t1 m1 l1,.mk k2 t2 m2 l2]).nth 1) (.mk k' t' n' l')) = (disjN overF N (.mk k1 t1 m1 l1) (.mk k' t' n' l') && disjN overF N (.mk k2 t2 m2 l2) (.mk k' t' n' l')) := rfl
    rw [e]
    refine lex2 15 (by kernel_rfl) ?_
    refine ⟨by decide,_,rfl,rfl,?_⟩
    cases hb : disjN overF N (.mk k1 t1 m1 l1) (.mk k' t' n' l') with
    | true =>
      rw [hb] at c1
      refine ⟨_,c1,?_⟩
      refine ⟨by decide,_,rfl,rfl,?_⟩
      refine ⟨_,c2,?_⟩
      exact rfl
    | false =>
      rw [hb] at c1
      refine ⟨_,c1,?_⟩
      exact rfl
   have h11 : ¬ k = 11 := h11
   rw [if_neg h11] at out ⊢
   refine al_eq (fun g11 => ?_) (fun g11 => ?_)
   ·have g11 : k' = 11 := g11
    obtain ⟨k1,t1,m1,l1,k2,t2,m2,l2,rfl,va,vb,sa,sb,pa,pb⟩ := two_of hvb hsb (.inr g11)
    have c1 := ih (.mk k t n l) (.mk k1 t1 m1 l1) hva va hsa sa (by omega)
    have c2 := ih (.mk k t n l) (.mk k2 t2 m2 l2) hva vb hsa sb (by omega)
    rw [if_pos g11] at out ⊢
    have e : (disjN overF N (.mk k t n l) ((Qy.mk k' t' n' [.mk k1 t1 m1 l1,.mk k2 t2 m2 l2]).nth 0) && disjN overF N (.mk k t n l) ((Qy.mk k' t' n' [.mk k1 t1 m1 l1,.mk k2 t2 m2 l2]).nth 1)) = (disjN overF N (.mk k t n l) (.mk k1 t1 m1 l1) && disjN overF N (.mk k t n l) (.mk k2 t2 m2 l2)) := rfl
    rw [e]
    refine lex2 15 (by kernel_rfl) ?_
    refine ⟨by decide,_,rfl,rfl,?_⟩
    cases hb : disjN overF N (.mk k t n l) (.mk k1 t1 m1 l1) with
    | true =>
      rw [hb] at c1
      refine ⟨_,c1,?_⟩
      refine ⟨by decide,_,rfl,rfl,?_⟩
      refine ⟨_,c2,?_⟩
      exact rfl
    | false =>
      rw [hb] at c1
      refine ⟨_,c1,?_⟩
      exact rfl
   have g11 : ¬ k' = 11 := g11
   rw [if_neg g11] at out ⊢
   refine al_eq (fun h10 => ?_) (fun h10 => ?_)
   ·have h10 : k = 10 := h10
    obtain ⟨k1,t1,m1,l1,k2,t2,m2,l2,rfl,va,vb,sa,sb,pa,pb⟩ := two_of hva hsa (.inl h10)
    have c1 := ih (.mk k1 t1 m1 l1) (.mk k' t' n' l') va hvb sa hsb (by omega)
    have c2 := ih (.mk k2 t2 m2 l2) (.mk k' t' n' l') vb hvb sb hsb (by omega)
    rw [if_pos h10] at out ⊢
    have e : (disjN overF N ((Qy.mk k t n [.mk k1 t1 m1 l1,.mk k2 t2 m2 l2]).nth 0) (.mk k' t' n' l') || disjN overF N ((Qy.mk k t n [.mk k1 t1 m1 l1,.mk k2 t2 m2 l2]).nth 1) (.mk k' t' n' l')) = (disjN overF N (.mk k1 t1 m1 l1) (.mk k' t' n' l') || disjN overF N (.mk k2 t2 m2 l2) (.mk k' t' n' l')) := rfl
    rw [e]
    refine lex2 15 (by kernel_rfl) ?_
    refine ⟨by decide,_,rfl,rfl,?_⟩
    cases hb : disjN overF N (.mk k1 t1 m1 l1) (.mk k' t' n' l') with
    | false =>
      rw [hb] at c1
      refine ⟨_,c1,?_⟩
      refine ⟨by decide,_,rfl,rfl,?_⟩
      refine ⟨_,c2,?_⟩
      exact rfl
    | true =>
      rw [hb] at c1
      refine ⟨_,c1,?_⟩
      exact rfl
   have h10 : ¬ k = 10 := h10
   rw [if_neg h10] at out ⊢
   refine al_eq (fun g10 => ?_) (fun g10 => ?_)
   ·have g10 : k' = 10 := g10
    obtain ⟨k1,t1,m1,l1,k2,t2,m2,l2,rfl,va,vb,sa,sb,pa,pb⟩ := two_of hvb hsb (.inl g10)
    have c1 := ih (.mk k t n l) (.mk k1 t1 m1 l1) hva va hsa sa (by omega)
    have c2 := ih (.mk k t n l) (.mk k2 t2 m2 l2) hva vb hsa sb (by omega)
    rw [if_pos g10] at out ⊢
    have e : (disjN overF N (.mk k t n l) ((Qy.mk k' t' n' [.mk k1 t1 m1 l1,.mk k2 t2 m2 l2]).nth 0) || disjN overF N (.mk k t n l) ((Qy.mk k' t' n' [.mk k1 t1 m1 l1,.mk k2 t2 m2 l2]).nth 1)) = (disjN overF N (.mk k t n l) (.mk k1 t1 m1 l1) || disjN overF N (.mk k t n l) (.mk k2 t2 m2 l2)) := rfl
    rw [e]
    refine lex2 15 (by kernel_rfl) ?_
    refine ⟨by decide,_,rfl,rfl,?_⟩
    cases hb : disjN overF N (.mk k t n l) (.mk k1 t1 m1 l1) with
    | false =>
      rw [hb] at c1
      refine ⟨_,c1,?_⟩
      refine ⟨by decide,_,rfl,rfl,?_⟩
      refine ⟨_,c2,?_⟩
      exact rfl
    | true =>
      rw [hb] at c1
      refine ⟨_,c1,?_⟩
      exact rfl
   have g10 : ¬ k' = 10 := g10
   rw [if_neg g10] at out ⊢
   have hL : leavesF overF (.mk k t n l) (.mk k' t' n' l') = if k = 3 ∧ k' = 3 then !decide (t = t') else if k = 8 ∧ k' = 8 then !(beginsF t t' || beginsF t' t) else if k = 4 ∧ k' = 4 then !overF t t' else if k = 6 ∧ k' = 7 then decide (n ≤ n' + 1) else if k = 7 ∧ k' = 6 then decide (n' ≤ n + 1) else false := rfl
   rw [hL] at out ⊢
   have a3 := are_ok (.mk k t n l) (.mk k' t' n' l') 3 3
   have e3 : decide ((Qy.mk k t n l).kind = 3 ∧ (Qy.mk k' t' n' l').kind = 3) = decide (k = 3 ∧ k' = 3) := rfl
   rw [e3] at a3
   by_cases q3 : k = 3 ∧ k' = 3
   ·rw [decide_eq_true q3] at a3
    rw [if_pos q3]
    refine ⟨_,a3,fun r hr => ?_⟩
    subst hr
    refine al_nes (fun h => ?_) (fun h => ?_)
    ·rw [decide_eq_false (show ¬ t = t' from h)]
     exact rfl
    ·rw [decide_eq_true (show t = t' from h)]
     exact rfl
   rw [decide_eq_false q3] at a3
   rw [if_neg q3] at out ⊢
   refine ⟨_,a3,fun r hr => ?_⟩
   subst hr
   have a8 := are_ok (.mk k t n l) (.mk k' t' n' l') 8 8
   have e8 : decide ((Qy.mk k t n l).kind = 8 ∧ (Qy.mk k' t' n' l').kind = 8) = decide (k = 8 ∧ k' = 8) := rfl
   rw [e8] at a8
   by_cases q8 : k = 8 ∧ k' = 8
   ·rw [decide_eq_true q8] at a8
    rw [if_pos q8]
    refine ⟨_,a8,fun r hr => ?_⟩
    subst hr
    refine ⟨_,beginsC_ok (.mk k t n l) (.mk k' t' n' l'),fun r hr => ?_⟩
    subst hr
    refine al_not ?_
    exact rfl
   rw [decide_eq_false q8] at a8
   rw [if_neg q8] at out ⊢
   refine ⟨_,a8,fun r hr => ?_⟩
   subst hr
   have a4 := are_ok (.mk k t n l) (.mk k' t' n' l') 4 4
   have e4 : decide ((Qy.mk k t n l).kind = 4 ∧ (Qy.mk k' t' n' l').kind = 4) = decide (k = 4 ∧ k' = 4) := rfl
   rw [e4] at a4
   by_cases q4 : k = 4 ∧ k' = 4
   ·rw [decide_eq_true q4] at a4
    rw [if_pos q4]
    refine ⟨_,a4,fun r hr => ?_⟩
    subst hr
    refine ⟨_,over_ok t t' (by omega) (by omega),fun r hr => ?_⟩
    subst hr
    refine al_not ?_
    exact rfl
   rw [decide_eq_false q4] at a4
   rw [if_neg q4] at out ⊢
   refine ⟨_,a4,fun r hr => ?_⟩
   subst hr
   have a6 := are_ok (.mk k t n l) (.mk k' t' n' l') 6 7
   have e6 : decide ((Qy.mk k t n l).kind = 6 ∧ (Qy.mk k' t' n' l').kind = 7) = decide (k = 6 ∧ k' = 7) := rfl
   rw [e6] at a6
   by_cases q6 : k = 6 ∧ k' = 7
   ·rw [decide_eq_true q6] at a6
    rw [if_pos q6]
    refine ⟨_,a6,fun r hr => ?_⟩
    subst hr
    refine ⟨_,apartC_ok (.mk k t n l) (.mk k' t' n' l') w2 w3,fun r hr => ?_⟩
    subst hr
    exact rfl
   rw [decide_eq_false q6] at a6
   rw [if_neg q6] at out ⊢
   refine ⟨_,a6,fun r hr => ?_⟩
   subst hr
   have a7 := are_ok (.mk k t n l) (.mk k' t' n' l') 7 6
   have e7 : decide ((Qy.mk k t n l).kind = 7 ∧ (Qy.mk k' t' n' l').kind = 6) = decide (k = 7 ∧ k' = 6) := rfl
   rw [e7] at a7
   by_cases q7 : k = 7 ∧ k' = 6
   ·rw [decide_eq_true q7] at a7
    rw [if_pos q7]
    refine ⟨_,a7,fun r hr => ?_⟩
    subst hr
    refine ⟨_,apartC_ok (.mk k' t' n' l') (.mk k t n l) u2 u3,fun r hr => ?_⟩
    subst hr
    exact rfl
   rw [decide_eq_false q7] at a7
   rw [if_neg q7] at out ⊢
   refine ⟨_,a7,fun r hr => ?_⟩
   subst hr
   exact rfl
theorem disjointC_ok (a b : Qy) (hva : allE globB a = 0) (hvb : allE globB b = 0) (hsa : szQ a) (hsb : szQ b) : CallsTo C 76 [.agg (encQy a),.agg (encQy b)] (fun r => r = .val (.bool (disjF overF a b))) :=
 disjC_ok _ a b hva hvb hsa hsb (Nat.le_refl _)
theorem eitherC_ok (a b : Qy) (hva : allE globB a = 0) (hvb : allE globB b = 0) (hsa : szQ a) (hsb : szQ b) : CallsTo C 46 [.agg (encQy a),.agg (encQy b)] (fun r => r = .val (.bool (eitherF overF a b))) := by
 have h1 := disjointC_ok a b hva hvb hsa hsb
 have h2 := disjointC_ok b a hvb hva hsb hsa
 unfold eitherF
 obtain ⟨k,t,n,l⟩ := a
 obtain ⟨k',t',n',l'⟩ := b
 refine cTo' Tryz.func46 rfl rfl rfl ?_
 refine ⟨none,?_⟩
 cases hb : disjF overF (.mk k t n l) (.mk k' t' n' l') with
 | true =>
   rw [hb] at h1
   refine ⟨_,h1,fun r hr => ?_⟩
   subst hr
   exact rfl
 | false =>
   rw [hb] at h1
   refine ⟨_,h1,fun r hr => ?_⟩
   subst hr
   refine ⟨_,h2,fun r hr => ?_⟩
   subst hr
   exact rfl
noncomputable def disjQ (a b : Qy) : Bool := decide (checkQ globB a = 0) && (decide (checkQ globB b = 0) && eitherF overF a b)
theorem disjointQ_ok (a b : Qy) (hsa : szQ a) (hsb : szQ b) : CallsTo C 20 [.agg (encQy a),.agg (encQy b)] (fun r => r = .val (.bool (disjQ a b))) := by
 have h1 := check_ok a hsa
 have h2 := check_ok b hsb
 have h3 := fun (ha : checkQ globB a = 0) (hb : checkQ globB b = 0) => eitherC_ok a b (check_all ha) (check_all hb) hsa hsb
 unfold disjQ
 obtain ⟨k,t,n,l⟩ := a
 obtain ⟨k',t',n',l'⟩ := b
 refine cTo' Tryz.func20 rfl rfl rfl ?_
 refine ⟨none,?_⟩
 refine ⟨_,h1,fun r hr => ?_⟩
 subst hr
 refine al_eq (fun e1 => ?_) (fun e1 => ?_)
 ·have e1 : checkQ globB (.mk k t n l) = 0 := e1
  rw [decide_eq_true e1,Bool.true_and]
  refine ⟨_,h2,fun r hr => ?_⟩
  subst hr
  refine al_eq (fun e2 => ?_) (fun e2 => ?_)
  ·have e2 : checkQ globB (.mk k' t' n' l') = 0 := e2
   rw [decide_eq_true e2,Bool.true_and]
   refine ⟨_,h3 e1 e2,fun r hr => ?_⟩
   subst hr
   exact rfl
  ·have e2 : ¬ checkQ globB (.mk k' t' n' l') = 0 := e2
   rw [decide_eq_false e2]
   exact rfl
 ·have e1 : ¬ checkQ globB (.mk k t n l) = 0 := e1
  rw [decide_eq_false e1]
  exact rfl
end Qv

end
