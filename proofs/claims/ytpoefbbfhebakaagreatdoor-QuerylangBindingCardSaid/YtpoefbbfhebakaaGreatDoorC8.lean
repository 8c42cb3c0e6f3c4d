/- Several texts in one: Contracts of the reference's queries: count, part, parts, Check, long, Great, Same and what follows. No condition. -/
import Derived.Test.YtpoefbbfhebakaaGreatDoorC4
import Derived.Test.YtpoefbbfhebakaaGreatDoorCv4
import Derived.Test.YtpoefbbfhebakaaGreatDoorC7
set_option linter.unusedVariables false
set_option linter.unusedSimpArgs false

section
open Go Go.Proofs Go.RowKit
namespace Qv
theorem encQyL_len (l : List Qy) : (encQyL l).length = l.length := by
 rw [encQyL_map,List.length_map]
theorem get_q {l : List Qy} {i : Nat} (h : i < l.length) : ∃ k t n m,l[i]? = some (.mk k t n m) := by
 rw [List.getElem?_eq_getElem h]
 generalize l[i] = q
 obtain ⟨k,t,n,m⟩ := q
 exact ⟨k,t,n,m,rfl⟩
theorem idx_q {l : List Qy} {i : Nat} {k : Int} {t : Bytes} {n : Int} {m : List Qy} (h : l[i]? = some (.mk k t n m)) : (encQyL l)[((i : Nat) : Int).toNat]? = some [.int .i64 k,.str t,.int .i64 n,.sl (encQyL m)] := by
 rw [encQyL_map,Int.toNat_natCast,List.getElem?_map,h]; rfl
theorem drop_at {α : Type} {l : List α} {k : Nat} {c : α} (h : l[k]? = some c) : l.drop k = c :: l.drop (k + 1) := by
 have hi := List.getElem?_eq_some_iff.1 h
 rw [List.drop_eq_getElem_cons hi.1,hi.2]
theorem al_ltq {l : List Qy} {i : Nat} {K : Bool → Prop} (h1 : i < l.length → K true) (h2 : ¬ i < l.length → K false) : Al fun t : Bool => t = decide ((i : Int) < ((encQyL l).length : Int)) → K t :=
 al_dec (fun h => h1 (by rw [encQyL_len] at h; omega)) (fun h => h2 (fun e => h (by rw [encQyL_len]; omega)))
mutual
def szQ : Qy → Prop
 | .mk _ t _ l => t.length ≤ 2 ^ 47 ∧ l.length ≤ 2 ^ 47 ∧ szL l
def szL : List Qy → Prop
 | [] => True
 | q :: l => szQ q ∧ szL l
end
theorem szL_iff : ∀ {l : List Qy},szL l ↔ ∀ x,x ∈ l → szQ x
 | [] => by simp [szL]
 | q :: l => by
   show szQ q ∧ szL l ↔ _
   rw [szL_iff]
   simp
theorem szQ_mk {k : Int} {t : Bytes} {n : Int} {l : List Qy} : szQ (.mk k t n l) ↔ t.length ≤ 2 ^ 47 ∧ l.length ≤ 2 ^ 47 ∧ ∀ x,x ∈ l → szQ x := by
 show _ ∧ _ ∧ szL l ↔ _
 rw [szL_iff]
theorem countL_cons (q : Qy) (l : List Qy) (n lim d : Nat) : countL (q :: l) n lim d = if n ≤ lim then countL l (n + countF q (lim - n) (d - 1)) lim d else n := rfl
theorem countF_bound (q : Qy) (lim d : Nat) : countF q lim d ≤ lim + 1 := by
 have h := count_spec q lim d
 by_cases hf : fitsQ q lim d
 ·rw [h.1 hf]
  have := hf.1
  omega
 ·rw [h.2 hf]
  exact Nat.le_refl _
theorem count_ok (q : Qy) : szQ q → ∀ lim d : Nat,lim ≤ 2 ^ 30 → d ≤ 2 ^ 30 → CallsTo C 50 [.agg (encQy q),.int .i64 lim,.int .i64 d] (fun r => r = .val (.int .i64 (countF q lim d))) := by
 refine Qy.ind (P := fun q => szQ q → ∀ lim d : Nat,lim ≤ 2 ^ 30 → d ≤ 2 ^ 30 → CallsTo C 50 [.agg (encQy q),.int .i64 lim,.int .i64 d] (fun r => r = .val (.int .i64 (countF q lim d)))) ?_ q
 intro k t n l ih hs lim d hlim hd
 obtain ⟨s1,s2,s3⟩ := szQ_mk.1 hs
 have hF : countF (.mk k t n l) lim d = if lim = 0 ∨ d = 0 then lim + 1 else countL l 1 lim d := rfl
 refine callsTo_of_evO ⟨[],[],false,[],[],[]⟩ [] Tryz.func50 rfl rfl rfl ?_
 refine ⟨none,?_⟩
 have hw1 : IntKind.i64.wrap ((lim : Int) + 1) = ((lim + 1 : Nat) : Int) := by rw [wrap64 (by omega) (by omega)]; omega
 refine al_dec (fun h => ?_) (fun h => ?_)
 ·have h : (lim : Int) < 1 := h
  rw [hF,if_pos (.inl (by omega))]
  exact ⟨_,hw1,rfl⟩
 have h1 : ¬ (lim : Int) < 1 := h
 refine al_dec (fun h => ?_) (fun h => ?_)
 ·have h : (d : Int) < 1 := h
  rw [hF,if_pos (.inr (by omega))]
  exact ⟨_,hw1,rfl⟩
 have h2 : ¬ (d : Int) < 1 := h
 rw [hF,if_neg (by omega)]
 generalize hX : countL l 1 lim d = X
 refine loopR 43 (fun x : Nat × Nat => [(1,.p (.int .i64 lim)),(2,.p (.int .i64 d)),(3,.ptr 3 0),(7,.p (.int .i64 x.2)),(8,.p (.int .i64 x.1))]) (fun _ => [(3,mapP [.int .i64 k,.str t,.int .i64 n,.sl (encQyL l)])])
  (fun x => x.1 ≤ l.length ∧ x.2 ≤ lim + 1 ∧ countL (l.drop x.1) x.2 lim d = X) (fun x => l.length - x.1) (0,1) ⟨Nat.zero_le _,by show 1 ≤ lim + 1; omega,hX⟩ rfl ⟨wR,wR,wR,wR,wR,trivial⟩ ⟨hO1 rfl,trivial⟩ ?_
 clear hX
 rintro ⟨i,m⟩ ⟨hi,hm,hX⟩
 have hi : i ≤ l.length := hi
 have hm : m ≤ lim + 1 := hm
 have hX : countL (l.drop i) m lim d = X := hX
 refine ⟨none,?_⟩
 refine al_ltq (fun hlt => ?_) (fun hge => ?_)
 ·have hlt : i < l.length := hlt
  obtain ⟨k',t',n',l',hq⟩ := get_q hlt
  have hmem := List.mem_of_getElem? hq
  rw [drop_at hq,countL_cons] at hX
  refine al_dec (fun h => ?_) (fun h => ?_)
  ·have h : m ≤ lim := by
    have : (m : Int) ≤ (lim : Int) := h
    omega
   rw [if_pos h] at hX
   have hw2 : IntKind.i64.wrap ((lim : Int) - (m : Int)) = ((lim - m : Nat) : Int) := by rw [wrap64 (by omega) (by omega)]; omega
   have hw3 : IntKind.i64.wrap ((d : Int) - 1) = ((d - 1 : Nat) : Int) := by rw [wrap64 (by omega) (by omega)]; omega
   have hb := countF_bound (.mk k' t' n' l') (lim - m) (d - 1)
   have hw4 : IntKind.i64.wrap ((m : Int) + (countF (.mk k' t' n' l') (lim - m) (d - 1) : Nat)) = ((m + countF (.mk k' t' n' l') (lim - m) (d - 1) : Nat) : Int) := by rw [wrap64 (by omega) (by omega)]; omega
   have hw5 : IntKind.i64.wrap ((i : Int) + 1) = ((i + 1 : Nat) : Int) := by rw [wrap64 (by omega) (by omega)]; omega
   refine ⟨by omega,_,idx_q hq,rfl,?_⟩
   refine ⟨_,hw2,?_⟩
   refine ⟨_,hw3,?_⟩
   refine ⟨_,(ih _ hmem (s3 _ hmem) (lim - m) (d - 1) (by omega) (by omega)).opn,fun r hr => ?_⟩
   subst hr
   refine ⟨_,hw4,?_⟩
   exact ⟨_,hw5,roundR (i + 1,m + countF (.mk k' t' n' l') (lim - m) (d - 1)) ⟨hlt,by show m + _ ≤ lim + 1; omega,hX⟩ (by show l.length - (i + 1) < l.length - i; omega) rfl ⟨wR,wR,wR,wR,wR,trivial⟩ ⟨hO1 rfl,trivial⟩⟩
  ·have h : ¬ m ≤ lim := fun e => h (by omega)
   rw [if_neg h] at hX
   subst hX
   exact rfl
 ·have hge : i = l.length := by
   have : ¬ i < l.length := hge
   omega
  subst hge
  rw [List.drop_length] at hX
  subst hX
  exact rfl
end Qv

end

section
open Go Go.Proofs Go.RowKit
namespace Qv
def globB (t : Bytes) : Bool := decide ((parseF t).2 = 0)
theorem fin_b {c : Prop} [Decidable c] (b : Bool) (h : decide c = b) : FV.p (.bool b) = .p (.bool (decide c)) := by rw [h]
end Qv

end

section
open Go Go.Proofs Go.RowKit
namespace Qv
theorem allE_mk (G : Bytes → Bool) (k : Int) (t : Bytes) (n : Int) (l : List Qy) : allE G (.mk k t n l) = if partF G k t n l.length = 0 then allEL G l else partF G k t n l.length := rfl
theorem allEL_cons (G : Bytes → Bool) (q : Qy) (l : List Qy) : allEL G (q :: l) = if allE G q = 0 then allEL G l else allE G q := rfl
mutual
def longF : Qy → Bool
 | .mk _ t _ l => longL l || decide (300 < t.length)
def longL : List Qy → Bool
 | [] => false
 | q :: l => longF q || longL l
end
theorem longL_cons (q : Qy) (l : List Qy) : longL (q :: l) = (longF q || longL l) := rfl
theorem long_ok (q : Qy) : szQ q → CallsTo C 59 [.agg (encQy q)] (fun r => r = .val (.bool (longF q))) := by
 refine Qy.ind (P := fun q => szQ q → CallsTo C 59 [.agg (encQy q)] (fun r => r = .val (.bool (longF q)))) ?_ q
 intro k t n l ih hs
 obtain ⟨s1,s2,s3⟩ := szQ_mk.1 hs
 have hF : longF (.mk k t n l) = (longL l || decide (300 < t.length)) := rfl
 rw [hF]
 refine cTo' Tryz.func59 rfl rfl rfl ?_
 generalize hX : longL l = X
 refine loopR 21 (fun i : Nat => [(1,.ptr 1 0),(3,.p (.int .i64 i))]) (fun _ => [(1,mapP [.int .i64 k,.str t,.int .i64 n,.sl (encQyL l)])])
  (fun i => i ≤ l.length ∧ longL (l.drop i) = X) (fun i => l.length - i) 0 ⟨Nat.zero_le _,hX⟩ rfl ⟨wR,wR,trivial⟩ ⟨hO1 rfl,trivial⟩ ?_
 clear hX
 rintro i ⟨hi,hX⟩
 refine al_ltq (fun hlt => ?_) (fun hge => ?_)
 ·obtain ⟨k',t',n',l',hq⟩ := get_q hlt
  have hmem := List.mem_of_getElem? hq
  rw [drop_at hq,longL_cons] at hX
  have hw5 : IntKind.i64.wrap ((i : Int) + 1) = ((i + 1 : Nat) : Int) := by rw [wrap64 (by omega) (by omega)]; omega
  have hc := ih _ hmem (s3 _ hmem)
  refine ⟨by omega,_,idx_q hq,rfl,?_⟩
  cases hb : longF (.mk k' t' n' l') with
  | true =>
    rw [hb] at hc hX
    refine ⟨_,hc,fun r hr => ?_⟩
    subst hr
    have hX : true = X := hX
    subst hX
    exact rfl
  | false =>
    rw [hb] at hc hX
    refine ⟨_,hc,fun r hr => ?_⟩
    subst hr
    exact ⟨_,hw5,roundR (i + 1) ⟨hlt,hX⟩ (by show l.length - (i + 1) < l.length - i; omega) rfl ⟨wR,wR,trivial⟩ ⟨hO1 rfl,trivial⟩⟩
 ·have hge : i = l.length := by omega
  subst hge
  rw [List.drop_length] at hX
  have hX : false = X := hX
  subst hX
  rw [Bool.false_or]
  refine al_dec (fun h => ?_) (fun h => ?_)
  ·have h : (t.length : Int) > 300 := h
   rw [decide_eq_true (show 300 < t.length by omega)]
   exact rfl
  ·have h : ¬ (t.length : Int) > 300 := h
   rw [decide_eq_false (show ¬ 300 < t.length by omega)]
   exact rfl
def greatQ (q : Qy) : Bool := !decide (fitsQ q 60 15) || longF q
theorem greatQ_ok (q : Qy) (hs : szQ q) : CallsTo C 30 [.agg (encQy q)] (fun r => r = .val (.bool (greatQ q))) := by
 obtain ⟨k,t,n,l⟩ := q
 refine cTo' Tryz.func30 rfl rfl rfl ?_
 have hc := count_le (.mk k t n l) 60 15
 unfold greatQ
 refine ⟨none,?_⟩
 refine ⟨_,count_ok (.mk k t n l) hs 60 15 (by decide) (by decide),fun r hr => ?_⟩
 subst hr
 refine al_dec (fun h => ?_) (fun h => ?_)
 ·have h : ((countF (.mk k t n l) 60 15 : Nat) : Int) > 60 := h
  rw [decide_eq_false (fun e => by have := hc.2 e; omega)]
  exact rfl
 ·have h : ¬ ((countF (.mk k t n l) 60 15 : Nat) : Int) > 60 := h
  rw [decide_eq_true (hc.1 (by omega))]
  refine ⟨_,long_ok (.mk k t n l) hs,fun r hr => ?_⟩
  subst hr
  exact rfl
theorem sameQ_mk (k : Int) (t : Bytes) (n : Int) (l : List Qy) (k' : Int) (t' : Bytes) (n' : Int) (l' : List Qy) : sameQ (.mk k t n l) (.mk k' t' n' l') = (decide (k = k') && (decide (t = t') && (decide (n = n') && sameQL l l'))) := rfl
theorem sameQL_len : ∀ {l m : List Qy},l.length ≠ m.length → sameQL l m = false
 | [],[],h => absurd rfl h
 | [],_ :: _,_ => rfl
 | _ :: _,[],_ => rfl
 | a :: l,b :: m,h => by
   show (sameQ a b && sameQL l m) = false
   rw [sameQL_len (by simpa using h),Bool.and_false]
theorem sameQ_ok (a : Qy) : szQ a → ∀ b,szQ b → CallsTo C 19 [.agg (encQy a),.agg (encQy b)] (fun r => r = .val (.bool (sameQ a b))) := by
 refine Qy.ind (P := fun a => szQ a → ∀ b,szQ b → CallsTo C 19 [.agg (encQy a),.agg (encQy b)] (fun r => r = .val (.bool (sameQ a b)))) ?_ a
 intro k t n l ih hs b hsb
 obtain ⟨k',t',n',l'⟩ := b
 obtain ⟨s1,s2,s3⟩ := szQ_mk.1 hs
 obtain ⟨u1,u2,u3⟩ := szQ_mk.1 hsb
 have out : ∀ x,sameQ (.mk k t n l) (.mk k' t' n' l') = x → (fun r => r = Ret.val (.bool (sameQ (.mk k t n l) (.mk k' t' n' l')))) (.val (.bool x)) := fun x h => by rw [h]
 rw [sameQ_mk] at out ⊢
 refine cTo' Tryz.func19 rfl rfl rfl ?_
 refine ⟨none,?_⟩
 refine al_ne (fun h => ?_) (fun h1 => ?_)
 ·exact out false (by rw [decide_eq_false h]; rfl)
 refine al_nes (fun h => ?_) (fun h2 => ?_)
 ·exact out false (by rw [decide_eq_false (show ¬ t = t' from h),Bool.false_and,Bool.and_false])
 refine al_ne (fun h => ?_) (fun h3 => ?_)
 ·exact out false (by rw [decide_eq_false (show ¬ n = n' from h),Bool.false_and,Bool.and_false,Bool.and_false])
 refine al_ne (fun h => ?_) (fun h4 => ?_)
 ·exact out false (by rw [sameQL_len (fun e => h (by rw [encQyL_len,encQyL_len,e])),Bool.and_false,Bool.and_false,Bool.and_false])
 have h4 : l.length = l'.length := by
  rw [encQyL_len,encQyL_len] at h4
  omega
 have h1 : k = k' := h1
 have h2 : t = t' := h2
 have h3 : n = n' := h3
 rw [decide_eq_true h1,decide_eq_true h2,decide_eq_true h3,Bool.true_and,Bool.true_and,Bool.true_and]
 clear out
 generalize hX : sameQL l l' = X
 refine loopR 53 (fun i : Nat => [(2,.ptr 2 0),(3,.ptr 3 0),(5,.p (.int .i64 i))]) (fun _ => [(2,mapP [.int .i64 k,.str t,.int .i64 n,.sl (encQyL l)]),(3,mapP [.int .i64 k',.str t',.int .i64 n',.sl (encQyL l')])])
  (fun i => i ≤ l.length ∧ sameQL (l.drop i) (l'.drop i) = X) (fun i => l.length - i) 0 ⟨Nat.zero_le _,hX⟩ rfl ⟨wR,wR,wR,trivial⟩ ⟨hO1 rfl,hO1 rfl,trivial⟩ ?_
 clear hX
 rintro i ⟨hi,hX⟩
 refine al_ltq (fun hlt => ?_) (fun hge => ?_)
 ·obtain ⟨a1,a2,a3,a4,hq⟩ := get_q hlt
  obtain ⟨b1,b2,b3,b4,hq'⟩ := get_q (l := l') (i := i) (by omega)
  have hmem := List.mem_of_getElem? hq
  have hmem' := List.mem_of_getElem? hq'
  rw [drop_at hq,drop_at hq'] at hX
  have hX : (sameQ (.mk a1 a2 a3 a4) (.mk b1 b2 b3 b4) && sameQL (l.drop (i + 1)) (l'.drop (i + 1))) = X := hX
  have hw5 : IntKind.i64.wrap ((i : Int) + 1) = ((i + 1 : Nat) : Int) := by rw [wrap64 (by omega) (by omega)]; omega
  have hc := ih _ hmem (s3 _ hmem) _ (u3 _ hmem')
  refine lex2 12 (by kernel_rfl) ?_
  refine ⟨by omega,_,idx_q hq,rfl,?_⟩
  refine ⟨by omega,_,idx_q hq',rfl,?_⟩
  cases hb : sameQ (.mk a1 a2 a3 a4) (.mk b1 b2 b3 b4) with
  | true =>
    rw [hb] at hc hX
    refine ⟨_,hc,?_⟩
    refine al_not ?_
    exact ⟨_,hw5,roundR (i + 1) ⟨hlt,hX⟩ (by show l.length - (i + 1) < l.length - i; omega) rfl ⟨wR,wR,wR,trivial⟩ ⟨hO1 rfl,hO1 rfl,trivial⟩⟩
  | false =>
    rw [hb] at hc hX
    refine ⟨_,hc,?_⟩
    refine al_not ?_
    have hX : false = X := hX
    subst hX
    exact rfl
 ·have hge : i = l.length := by omega
  subst hge
  rw [List.drop_length,List.drop_eq_nil_of_le (by omega)] at hX
  have hX : true = X := hX
  subst hX
  exact rfl
end Qv

end
