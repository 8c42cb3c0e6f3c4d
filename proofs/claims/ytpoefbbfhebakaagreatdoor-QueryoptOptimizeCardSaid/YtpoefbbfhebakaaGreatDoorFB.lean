/- Several texts in one: Contracts of the rules: the small functions and the closures and what follows. No condition. -/
import Derived.Test.YtpoefbbfhebakaaGreatDoorFA
set_option linter.unusedVariables false
set_option linter.unusedSimpArgs false

section
open Go Go.Proofs Go.RowKit
namespace Qv
theorem left_ok (a b : Qy) : CallsTo C 84 [.agg (encQy a),.agg (encQy b)] (fun r => r = .val (.agg (encQy a))) := by
 obtain ⟨k,t,n,l⟩ := a
 obtain ⟨k',t',n',l'⟩ := b
 refine cTo' Tryz.func84 rfl rfl rfl ?_
 exact rfl
theorem right_ok (a b : Qy) : CallsTo C 83 [.agg (encQy a),.agg (encQy b)] (fun r => r = .val (.agg (encQy b))) := by
 obtain ⟨k,t,n,l⟩ := a
 obtain ⟨k',t',n',l'⟩ := b
 refine cTo' Tryz.func83 rfl rfl rfl ?_
 exact rfl
theorem less_ok (a b : Qy) : CallsTo C 87 [.agg (encQy a),.agg (encQy b)] (fun r => r = .val (.bool (decide (a.num ≤ b.num)))) := by
 obtain ⟨k,t,n,l⟩ := a
 obtain ⟨k',t',n',l'⟩ := b
 refine cTo' Tryz.func87 rfl rfl rfl ?_
 exact ⟨fun x hx => by subst hx; rfl⟩
theorem greater_ok (a b : Qy) : CallsTo C 88 [.agg (encQy a),.agg (encQy b)] (fun r => r = .val (.bool (decide (b.num ≤ a.num)))) := by
 obtain ⟨k,t,n,l⟩ := a
 obtain ⟨k',t',n',l'⟩ := b
 refine cTo' Tryz.func88 rfl rfl rfl ?_
 exact ⟨fun x hx => by subst hx; rfl⟩
theorem longer_ok (a b : Qy) : CallsTo C 89 [.agg (encQy a),.agg (encQy b)] (fun r => r = .val (.bool (decide (b.text.length ≤ a.text.length)))) := by
 obtain ⟨k,t,n,l⟩ := a
 obtain ⟨k',t',n',l'⟩ := b
 refine cTo' Tryz.func89 rfl rfl rfl ?_
 refine al_dec (fun h => ?_) (fun h => ?_)
 ·have h : (t.length : Int) ≥ (t'.length : Int) := h
  have e : decide ((Qy.mk k' t' n' l').text.length ≤ (Qy.mk k t n l).text.length) = true := decide_eq_true (show t'.length ≤ t.length by omega)
  rw [e]
  exact rfl
 ·have h : ¬ (t.length : Int) ≥ (t'.length : Int) := h
  have e : decide ((Qy.mk k' t' n' l').text.length ≤ (Qy.mk k t n l).text.length) = false := decide_eq_false (show ¬ t'.length ≤ t.length by omega)
  rw [e]
  exact rfl
theorem shorter_ok (a b : Qy) : CallsTo C 93 [.agg (encQy a),.agg (encQy b)] (fun r => r = .val (.bool (decide (a.text.length ≤ b.text.length)))) := by
 obtain ⟨k,t,n,l⟩ := a
 obtain ⟨k',t',n',l'⟩ := b
 refine cTo' Tryz.func93 rfl rfl rfl ?_
 refine al_dec (fun h => ?_) (fun h => ?_)
 ·have h : (t.length : Int) ≤ (t'.length : Int) := h
  have e : decide ((Qy.mk k t n l).text.length ≤ (Qy.mk k' t' n' l').text.length) = true := decide_eq_true (show t.length ≤ t'.length by omega)
  rw [e]
  exact rfl
 ·have h : ¬ (t.length : Int) ≤ (t'.length : Int) := h
  have e : decide ((Qy.mk k t n l).text.length ≤ (Qy.mk k' t' n' l').text.length) = false := decide_eq_false (show ¬ t.length ≤ t'.length by omega)
  rw [e]
  exact rfl
theorem hasQ_ok (q : Qy) (k0 : Int) (x : Qy) (h2 : q.kind = k0 → q.sub.length = 2) (hs : szQ q) : CallsTo C 142 [.agg (encQy q),.int .i64 k0,.agg (encQy x)] (fun r => r = .val (.bool (hasF q k0 x))) := by
 obtain ⟨k,t,n,l⟩ := q
 obtain ⟨k',t',n',l'⟩ := x
 have h2 : k = k0 → l.length = 2 := h2
 have e : hasF (.mk k t n l) k0 (.mk k' t' n' l') = (decide (k = k0) && (sameQ ((Qy.mk k t n l).nth 0) (.mk k' t' n' l') || sameQ ((Qy.mk k t n l).nth 1) (.mk k' t' n' l'))) := rfl
 rw [e]
 refine cTo' Tryz.func142 rfl rfl rfl ?_
 refine lex2 21 (by kernel_rfl) ?_
 refine al_eq (fun h => ?_) (fun h => ?_)
 ·have h : k = k0 := h
  rw [decide_eq_true h,Bool.true_and]
  match l,h2 h with
  | [.mk k1 t1 n1 l1,.mk k2 t2 n2 l2],_ =>
  have s3 := (szQ_mk.1 hs).2.2
  have c1 := equalC_ok (.mk k1 t1 n1 l1) (s3 _ (by simp)) (.mk k' t' n' l')
  have c2 := equalC_ok (.mk k2 t2 n2 l2) (s3 _ (by simp)) (.mk k' t' n' l')
  have e : (sameQ ((Qy.mk k t n [.mk k1 t1 n1 l1,.mk k2 t2 n2 l2]).nth 0) (.mk k' t' n' l') || sameQ ((Qy.mk k t n [.mk k1 t1 n1 l1,.mk k2 t2 n2 l2]).nth 1) (.mk k' t' n' l')) = (sameQ (.mk k1 t1 n1 l1) (.mk k' t' n' l') || sameQ (.mk k2 t2 n2 l2) (.mk k' t' n' l')) := rfl
  rw [e]
  refine ⟨by decide,_,rfl,rfl,?_⟩
  cases hb : sameQ (.mk k1 t1 n1 l1) (.mk k' t' n' l') with
  | true =>
    rw [hb] at c1
    exact ⟨_,c1,rfl⟩
  | false =>
    rw [hb] at c1
    refine ⟨_,c1,?_⟩
    refine ⟨by decide,_,rfl,rfl,?_⟩
    exact ⟨_,c2,rfl⟩
 ·have h : ¬ k = k0 := h
  rw [decide_eq_false h]
  exact rfl
def kindsV (k n : Int) : AV := .fn (.func 137) [] [.imp [.int .i64 n],.imp [.int .i64 k]]
def replV (ap by_ : AV) : AV := .fn (.func 136) [] [.imp [ap],.imp [by_]]
def chooseV (k : Int) (first : AV) : AV := .fn (.func 139) [] [.imp [.int .i64 k],.imp [first]]
def constV (k : Int) : AV := .fn (.func 140) [] [.imp [.int .i64 k]]
def has1V (k : Int) : AV := .fn (.func 141) [] [.imp [.int .i64 k]]
def has2V (k : Int) : AV := .fn (.func 143) [] [.imp [.int .i64 k]]
def encI (l : List Int) : AV := .sl (l.map fun k => [.int .i64 k])
def singleV (l : List Int) : AV := .fn (.func 144) [] [.imp [encI l]]
def fnV (g : FuncId) : AV := .fn (.func g) [] []
theorem kinds_ok (k n : Int) : CallsTo C 82 [.int .i64 k,.int .i64 n] (fun r => r = .val (kindsV k n)) := by
 refine cTo' Tryz.func82 rfl rfl rfl ?_
 refine ⟨[2,3],?_⟩
 refine frz_one (cells := [.p (.int .i64 k)]) (ys := [.int .i64 k]) rfl rfl rfl ?_
 refine frz_one (cells := [.p (.int .i64 n)]) (ys := [.int .i64 n]) rfl rfl rfl ?_
 exact rfl
theorem repl_ok (g g' : Fn) (f f' cs cs' : List AV) : CallsTo C 81 [.fn g f cs,.fn g' f' cs'] (fun r => r = .val (replV (.fn g f cs) (.fn g' f' cs'))) := by
 refine cTo' Tryz.func81 rfl rfl rfl ?_
 refine ⟨[2,3],?_⟩
 refine frz_one (cells := [.p (.fn g f cs)]) (ys := [.fn g f cs]) rfl rfl rfl ?_
 refine frz_one (cells := [.p (.fn g' f' cs')]) (ys := [.fn g' f' cs']) rfl rfl rfl ?_
 exact rfl
theorem choose_ok (k : Int) (g : Fn) (f cs : List AV) : CallsTo C 86 [.int .i64 k,.fn g f cs] (fun r => r = .val (chooseV k (.fn g f cs))) := by
 refine cTo' Tryz.func86 rfl rfl rfl ?_
 refine ⟨[2,3],?_⟩
 refine frz_one (cells := [.p (.int .i64 k)]) (ys := [.int .i64 k]) rfl rfl rfl ?_
 refine frz_one (cells := [.p (.fn g f cs)]) (ys := [.fn g f cs]) rfl rfl rfl ?_
 exact rfl
theorem const_ok (k : Int) : CallsTo C 90 [.int .i64 k] (fun r => r = .val (constV k)) := by
 refine cTo' Tryz.func90 rfl rfl rfl ?_
 refine ⟨[1],?_⟩
 refine frz_one (cells := [.p (.int .i64 k)]) (ys := [.int .i64 k]) rfl rfl rfl ?_
 exact rfl
theorem single_ok (l : List Int) : CallsTo C 98 [encI l] (fun r => r = .val (singleV l)) := by
 refine cTo' Tryz.func98 rfl rfl rfl ?_
 refine ⟨[1],?_⟩
 refine frz_one (cells := [.p (encI l)]) (ys := [encI l]) rfl rfl rfl ?_
 exact rfl
theorem absorbs_ok (k : Int) : CallsTo C 97 [.int .i64 k] (fun r => r = .val (.sl [[replV (has1V k) (fnV 83)],[replV (has2V k) (fnV 84)]])) := by
 refine cTo' Tryz.func97 rfl rfl rfl ?_
 refine ⟨[1],?_⟩
 refine frz_one (cells := [.p (.int .i64 k)]) (ys := [.int .i64 k]) rfl rfl rfl ?_
 refine ⟨_,repl_ok (.func 141) (.func 83) [] [] [.imp [.int .i64 k]] [],fun r hr => ?_⟩
 subst hr
 refine ⟨[],?_⟩
 refine ⟨_,repl_ok (.func 143) (.func 84) [] [] [.imp [.int .i64 k]] [],fun r hr => ?_⟩
 subst hr
 exact .inr rfl
def RuleTo (g : FuncId) (cs : List AV) (q : Qy) (o : Option Qy) : Prop :=
 CallsTo C g ([.agg (encQy q)] ++ cs) (fun r => ∃ (y : Qy) (b : Bool),r = .val (.tup [.agg (encQy y),.bool b]) ∧ ((b = true ∧ o = some y) ∨ (b = false ∧ o = none)))
theorem replC_ok {g g' : FuncId} {cs cs' : List AV} {k : Int} {t : Bytes} {n : Int} {a b : Qy} {p : Bool} {x : Qy}
 (h1 : CallsTo C g ([.agg (encQy a),.agg (encQy b)] ++ cs) (fun r => r = .val (.bool p))) (h2 : p = true → CallsTo C g' ([.agg (encQy a),.agg (encQy b)] ++ cs') (fun r => r = .val (.agg (encQy x)))) :
 RuleTo 136 [.imp [.fn (.func g) [] cs],.imp [.fn (.func g') [] cs']] (.mk k t n [a,b]) (if p = true then some x else none) := by
 obtain ⟨k1,t1,n1,l1⟩ := a
 obtain ⟨k2,t2,n2,l2⟩ := b
 obtain ⟨k3,t3,n3,l3⟩ := x
 refine cTo' Tryz.func136 rfl rfl rfl ?_
 refine lex2 11 (by kernel_rfl) ?_
 refine ⟨by decide,_,rfl,rfl,?_⟩
 refine ⟨by decide,_,rfl,rfl,?_⟩
 cases p with
 | false =>
   refine ⟨_,h1,?_⟩
   refine al_not ?_
   exact ⟨zeroQ,false,rfl,.inr ⟨rfl,rfl⟩⟩
 | true =>
   refine ⟨_,h1,?_⟩
   refine al_not ?_
   refine lex2 10 (by kernel_rfl) ?_
   refine ⟨by decide,_,rfl,rfl,?_⟩
   refine ⟨by decide,_,rfl,rfl,?_⟩
   refine ⟨_,h2 rfl,?_⟩
   exact ⟨.mk k3 t3 n3 l3,true,rfl,.inl ⟨rfl,rfl⟩⟩
theorem kindsC0_ok (k : Int) (a b : Qy) : CallsTo C 137 ([.agg (encQy a),.agg (encQy b)] ++ [.imp [.int .i64 0],.imp [.int .i64 k]]) (fun r => r = .val (.bool (decide (a.kind = k)))) := by
 obtain ⟨k1,t1,n1,l1⟩ := a
 obtain ⟨k2,t2,n2,l2⟩ := b
 refine cTo' Tryz.func137 rfl rfl rfl ?_
 refine lex2 10 (by kernel_rfl) ?_
 refine ⟨_,rfl,?_⟩
 refine ⟨by decide,_,rfl,rfl,?_⟩
 refine al_eq (fun h => ?_) (fun h => ?_)
 ·have e : decide ((Qy.mk k1 t1 n1 l1).kind = k) = true := decide_eq_true h
  rw [e]; exact rfl
 ·have e : decide ((Qy.mk k1 t1 n1 l1).kind = k) = false := decide_eq_false h
  rw [e]; exact rfl
theorem kindsC1_ok (k : Int) (a b : Qy) : CallsTo C 137 ([.agg (encQy a),.agg (encQy b)] ++ [.imp [.int .i64 1],.imp [.int .i64 k]]) (fun r => r = .val (.bool (decide (b.kind = k)))) := by
 obtain ⟨k1,t1,n1,l1⟩ := a
 obtain ⟨k2,t2,n2,l2⟩ := b
 refine cTo' Tryz.func137 rfl rfl rfl ?_
 refine lex2 10 (by kernel_rfl) ?_
 refine ⟨_,rfl,?_⟩
 refine ⟨by decide,_,rfl,rfl,?_⟩
 refine al_eq (fun h => ?_) (fun h => ?_)
 ·have e : decide ((Qy.mk k2 t2 n2 l2).kind = k) = true := decide_eq_true h
  rw [e]; exact rfl
 ·have e : decide ((Qy.mk k2 t2 n2 l2).kind = k) = false := decide_eq_false h
  rw [e]; exact rfl
theorem constC_ok (k : Int) (a b : Qy) : CallsTo C 140 ([.agg (encQy a),.agg (encQy b)] ++ [.imp [.int .i64 k]]) (fun r => r = .val (.agg (encQy (constQ k)))) := by
 obtain ⟨k1,t1,n1,l1⟩ := a
 obtain ⟨k2,t2,n2,l2⟩ := b
 refine cTo' Tryz.func140 rfl rfl rfl ?_
 exact rfl
theorem has1C_ok (k : Int) (a b : Qy) (h2 : a.kind = k → a.sub.length = 2) (hs : szQ a) : CallsTo C 141 ([.agg (encQy a),.agg (encQy b)] ++ [.imp [.int .i64 k]]) (fun r => r = .val (.bool (hasF a k b))) := by
 have hc := hasQ_ok a k b h2 hs
 obtain ⟨k1,t1,n1,l1⟩ := a
 obtain ⟨k2,t2,n2,l2⟩ := b
 refine cTo' Tryz.func141 rfl rfl rfl ?_
 refine ⟨_,hc,fun r hr => ?_⟩
 subst hr
 exact rfl
theorem has2C_ok (k : Int) (a b : Qy) (h2 : b.kind = k → b.sub.length = 2) (hs : szQ b) : CallsTo C 143 ([.agg (encQy a),.agg (encQy b)] ++ [.imp [.int .i64 k]]) (fun r => r = .val (.bool (hasF b k a))) := by
 have hc := hasQ_ok b k a h2 hs
 obtain ⟨k1,t1,n1,l1⟩ := a
 obtain ⟨k2,t2,n2,l2⟩ := b
 refine cTo' Tryz.func143 rfl rfl rfl ?_
 refine ⟨_,hc,fun r hr => ?_⟩
 subst hr
 exact rfl
end Qv

end

section
open Go Go.Proofs Go.RowKit
namespace Qv
theorem or1_ok {G : Bytes → Bool} (a b : Qy) (hva : allE G a = 0) (hvb : allE G b = 0) (hsa : szQ a) (hsb : szQ b) : CallsTo C 91 [.agg (encQy a),.agg (encQy b)] (fun r => r = .val (.bool (decide (a.kind = 1) || (decide (b.kind = 1) || (negatesF a b || negatesF b a))))) := by
 have n1 := negatesC_ok a b hva hsa
 have n2 := negatesC_ok b a hvb hsb
 obtain ⟨k,t,n,l⟩ := a
 obtain ⟨k',t',n',l'⟩ := b
 have e : (decide ((Qy.mk k t n l).kind = 1) || (decide ((Qy.mk k' t' n' l').kind = 1) || (negatesF (Qy.mk k t n l) (Qy.mk k' t' n' l') || negatesF (Qy.mk k' t' n' l') (Qy.mk k t n l)))) = (decide (k = 1) || (decide (k' = 1) || (negatesF (Qy.mk k t n l) (Qy.mk k' t' n' l') || negatesF (Qy.mk k' t' n' l') (Qy.mk k t n l)))) := rfl
 rw [e]
 refine cTo' Tryz.func91 rfl rfl rfl ?_
 refine ⟨none,?_⟩
 refine al_eq (fun h => ?_) (fun h => ?_)
 ·have h : k = 1 := h
  rw [decide_eq_true h]
  exact rfl
 have h : ¬ k = 1 := h
 rw [decide_eq_false h]
 refine al_eq (fun h => ?_) (fun h => ?_)
 ·have h : k' = 1 := h
  rw [decide_eq_true h]
  exact rfl
 have h : ¬ k' = 1 := h
 rw [decide_eq_false h]
 cases hb : negatesF (Qy.mk k t n l) (Qy.mk k' t' n' l') with
 | true =>
   rw [hb] at n1
   refine ⟨_,n1,fun r hr => ?_⟩
   subst hr
   exact rfl
 | false =>
   rw [hb] at n1
   refine ⟨_,n1,fun r hr => ?_⟩
   subst hr
   refine ⟨_,n2,fun r hr => ?_⟩
   subst hr
   exact rfl
theorem chooseC_ok {g : FuncId} {k0 : Int} {k : Int} {t : Bytes} {n : Int} {a b : Qy} {p : Bool} (h1 : CallsTo C g [.agg (encQy a),.agg (encQy b)] (fun r => r = .val (.bool p))) :
 RuleTo 139 [.imp [.int .i64 k0],.imp [fnV g]] (Qy.mk k t n [a,b]) (if (a.kind = k0 ∧ b.kind = k0) ∧ (k0 = 8 → (beginsF a.text b.text || beginsF b.text a.text) = true) then some (if p = true then a else b) else none) := by
 have ca := are_ok a b k0 k0
 have cb := beginsC_ok a b
 obtain ⟨k1,t1,n1,l1⟩ := a
 obtain ⟨k2,t2,n2,l2⟩ := b
 unfold RuleTo
 generalize hO : (if ((Qy.mk k1 t1 n1 l1).kind = k0 ∧ (Qy.mk k2 t2 n2 l2).kind = k0) ∧ (k0 = 8 → (beginsF (Qy.mk k1 t1 n1 l1).text (Qy.mk k2 t2 n2 l2).text || beginsF (Qy.mk k2 t2 n2 l2).text (Qy.mk k1 t1 n1 l1).text) = true) then some (if p = true then (Qy.mk k1 t1 n1 l1) else (Qy.mk k2 t2 n2 l2)) else none) = O
 refine callsTo_of_evO ⟨[],[],false,[],[],[]⟩ [2] Tryz.func139 rfl rfl rfl ?_
 refine share (T := ?T) (fun H => ?main) ?rest
 case main =>
  refine ⟨.plan ⟨[0,1,2,3,4,5,6,7],[8,9,10,11],[],[3]⟩ (.one 0 (.one 1 (.one 2 (.one 3 (.one 4 (.one 5 (.one 6 (.one 7 (.alt 8 (.alt 9 (.alt 10 (.alt 11 (.fin) (.stop)) (.stop)) (.stop)) (.alt 9 (.alt 8 (.alt 10 (.alt 11 (.fin) (.stop)) (.stop)) (.stop)) (.stop))))))))))) none,by kernel_rfl,?_⟩
  refine ⟨_,rfl,rfl,_,rfl,rfl,_,⟨by decide,_,rfl,rfl,rfl⟩,rfl,_,rfl,rfl,_,rfl,rfl,_,rfl,rfl,_,⟨by decide,_,rfl,rfl,rfl⟩,rfl,_,rfl,rfl,?_,?_⟩
  ·refine ⟨rfl,rfl,rfl,rfl,?_⟩
   refine cutR 39 [(1,.p (.imp [.int .i64 k0])),(2,.p (.imp [fnV g])),(4,.ptr 4 0),(6,.ptr 6 0),(7,.ptr 7 0)] [(4,[.p (.int .i64 0),.p (.str []),.p (.int .i64 0),.full []]),(6,mapP (encQy (Qy.mk k1 t1 n1 l1))),(7,mapP (encQy (Qy.mk k2 t2 n2 l2)))] rfl ⟨wR,wR,wR,wR,wR,trivial⟩ ⟨hO1 rfl,hO1 rfl,hO1 rfl,trivial⟩ ?_
   exact H.out
  ·refine ⟨rfl,rfl,rfl,rfl,?_⟩
   refine cutR 39 [(1,.p (.imp [.int .i64 k0])),(2,.p (.imp [fnV g])),(4,.ptr 4 0),(6,.ptr 6 0),(7,.ptr 7 0)] [(4,[.p (.int .i64 0),.p (.str []),.p (.int .i64 0),.full []]),(6,mapP (encQy (Qy.mk k1 t1 n1 l1))),(7,mapP (encQy (Qy.mk k2 t2 n2 l2)))] rfl ⟨wR,wR,wR,wR,wR,trivial⟩ ⟨hO1 rfl,hO1 rfl,hO1 rfl,trivial⟩ ?_
   exact H.out
 case rest =>
  have hno : ¬ (((Qy.mk k1 t1 n1 l1).kind = k0 ∧ (Qy.mk k2 t2 n2 l2).kind = k0) ∧ (k0 = 8 → (beginsF (Qy.mk k1 t1 n1 l1).text (Qy.mk k2 t2 n2 l2).text || beginsF (Qy.mk k2 t2 n2 l2).text (Qy.mk k1 t1 n1 l1).text) = true)) → ∃ (y : Qy) (b : Bool),Ret.val (.tup [.agg (encQy zeroQ),.bool false]) = .val (.tup [.agg (encQy y),.bool b]) ∧ ((b = true ∧ O = some y) ∨ (b = false ∧ O = none)) := fun h => by
   rw [if_neg h] at hO
   exact ⟨zeroQ,false,rfl,.inr ⟨rfl,hO.symm⟩⟩
  refine ⟨none,?_⟩
  cases hb : decide ((Qy.mk k1 t1 n1 l1).kind = k0 ∧ (Qy.mk k2 t2 n2 l2).kind = k0) with
  | false =>
    rw [hb] at ca
    have hb := of_decide_eq_false hb
    refine ⟨_,ca.opn,fun r hr => ?_⟩
    subst hr
    refine al_not ?_
    exact hno (fun h => hb h.1)
  | true =>
    rw [hb] at ca
    have hb := of_decide_eq_true hb
    refine ⟨_,ca.opn,fun r hr => ?_⟩
    subst hr
    refine al_not ?_
    have fin : (k0 = 8 → (beginsF (Qy.mk k1 t1 n1 l1).text (Qy.mk k2 t2 n2 l2).text || beginsF (Qy.mk k2 t2 n2 l2).text (Qy.mk k1 t1 n1 l1).text) = true) → O = some (if p = true then (Qy.mk k1 t1 n1 l1) else (Qy.mk k2 t2 n2 l2)) := fun h => by
     rw [if_pos ⟨hb,h⟩] at hO
     exact hO.symm
    have yes : O = some (if p = true then (Qy.mk k1 t1 n1 l1) else (Qy.mk k2 t2 n2 l2)) → p = true → ∃ (y : Qy) (b : Bool),Ret.val (.tup [.agg (encQy (Qy.mk k1 t1 n1 l1)),.bool true]) = .val (.tup [.agg (encQy y),.bool b]) ∧ ((b = true ∧ O = some y) ∨ (b = false ∧ O = none)) := fun h hp => ⟨_,true,rfl,.inl ⟨rfl,by rw [h,if_pos hp]⟩⟩
    have yes2 : O = some (if p = true then (Qy.mk k1 t1 n1 l1) else (Qy.mk k2 t2 n2 l2)) → p = false → ∃ (y : Qy) (b : Bool),Ret.val (.tup [.agg (encQy (Qy.mk k2 t2 n2 l2)),.bool true]) = .val (.tup [.agg (encQy y),.bool b]) ∧ ((b = true ∧ O = some y) ∨ (b = false ∧ O = none)) := fun h hp => ⟨_,true,rfl,.inl ⟨rfl,by rw [h,if_neg (by rw [hp]; simp)]⟩⟩
    have no8 : k0 = 8 → (beginsF (Qy.mk k1 t1 n1 l1).text (Qy.mk k2 t2 n2 l2).text || beginsF (Qy.mk k2 t2 n2 l2).text (Qy.mk k1 t1 n1 l1).text) = false → ∃ (y : Qy) (b : Bool),Ret.val (.tup [.agg (encQy zeroQ),.bool false]) = .val (.tup [.agg (encQy y),.bool b]) ∧ ((b = true ∧ O = some y) ∨ (b = false ∧ O = none)) := fun h8 h => hno (fun e => by
     have := e.2 h8
     rw [h] at this
     cases this)
    clear hno hO
    refine al_eq (fun h8 => ?_) (fun h8 => ?_)
    ·cases hc : (beginsF (Qy.mk k1 t1 n1 l1).text (Qy.mk k2 t2 n2 l2).text || beginsF (Qy.mk k2 t2 n2 l2).text (Qy.mk k1 t1 n1 l1).text) with
     | false =>
       rw [hc] at cb
       refine ⟨_,cb.opn,fun r hr => ?_⟩
       subst hr
       refine al_not ?_
       exact no8 h8 hc
     | true =>
       rw [hc] at cb
       have hf := fin (fun _ => hc)
       refine ⟨_,cb.opn,fun r hr => ?_⟩
       subst hr
       refine al_not ?_
       cases p with
       | true =>
         refine ⟨_,h1.opn,fun r hr => ?_⟩
         subst hr
         exact yes hf rfl
       | false =>
         refine ⟨_,h1.opn,fun r hr => ?_⟩
         subst hr
         exact yes2 hf rfl
    ·have hf := fin (fun h => absurd h h8)
     cases p with
     | true =>
       refine ⟨_,h1.opn,fun r hr => ?_⟩
       subst hr
       exact yes hf rfl
     | false =>
       refine ⟨_,h1.opn,fun r hr => ?_⟩
       subst hr
       exact yes2 hf rfl
theorem indexI_ok (l : List Int) (x : Int) (hl : l.length ≤ 2 ^ 30) : CallsTo C 166 [encI l,.int .i64 x] (fun r => ∃ j : Int,r = .val (.int .i64 j) ∧ (0 ≤ j ↔ x ∈ l)) := by
 refine cTo' Tryz.func166 rfl rfl rfl ?_
 refine loopR 19 (fun i : Nat => [(0,.p (encI l)),(1,.p (.int .i64 x)),(7,.p (.int .i64 (l.map fun k => [AV.int .i64 k]).length)),(8,.p (.int .i64 i))]) (fun _ => [])
  (fun i => i ≤ l.length ∧ (x ∈ l.drop i ↔ x ∈ l)) (fun i => l.length - i) 0 ⟨Nat.zero_le _,Iff.rfl⟩ rfl ⟨wR,wR,wR,wR,trivial⟩ trivial ?_
 rintro i ⟨hi,hX⟩
 refine al_lt (fun hlt => ?_) (fun hge => ?_)
 ·have hw5 : IntKind.i64.wrap ((i : Int) + 1) = ((i + 1 : Nat) : Int) := by rw [wrap64 (by omega) (by omega)]; omega
  rw [List.drop_eq_getElem_cons hlt,List.mem_cons] at hX
  refine ⟨by omega,_,idx_map rfl hlt,rfl,?_⟩
  refine al_eq (fun h => ?_) (fun h => ?_)
  ·exact ⟨i,rfl,fun _ => by have h : x = l[i] := h; rw [h]; exact List.getElem_mem hlt,fun _ => by omega⟩
  ·refine ⟨_,hw5,roundR (i + 1) ⟨hlt,?_⟩ (by show l.length - (i + 1) < l.length - i; omega) rfl ⟨wR,wR,wR,wR,trivial⟩ trivial⟩
   have h : ¬ x = l[i] := h
   show x ∈ l.drop (i + 1) ↔ x ∈ l
   rw [← hX]
   simp [h]
 ·have hge : i = l.length := by
   have hi : i ≤ l.length := hi
   omega
  subst hge
  rw [List.drop_length] at hX
  refine ⟨-1,rfl,?_⟩
  rw [← hX]
  simp
theorem containsI_ok (l : List Int) (x : Int) (hl : l.length ≤ 2 ^ 30) : CallsTo C 145 [encI l,.int .i64 x] (fun r => r = .val (.bool (decide (x ∈ l)))) := by
 refine cTo' Tryz.func145 rfl rfl rfl ?_
 refine ⟨_,indexI_ok l x hl,?_⟩
 rintro r ⟨j,rfl,hj⟩
 refine al_dec (fun h => ?_) (fun h => ?_)
 ·have h : j ≥ 0 := h
  rw [decide_eq_true (hj.1 h)]
  exact rfl
 ·have h : ¬ j ≥ 0 := h
  rw [decide_eq_false (fun e => h (hj.2 e))]
  exact rfl
theorem singleC_ok (l : List Int) (hl : l.length ≤ 2 ^ 30) {k : Int} {t : Bytes} {n : Int} {a : Qy} : RuleTo 144 [.imp [encI l]] (.mk k t n [a]) (if a.kind ∈ l then some a else none) := by
 obtain ⟨k1,t1,n1,l1⟩ := a
 have hc := containsI_ok l k1 hl
 unfold RuleTo
 have e : (if (Qy.mk k1 t1 n1 l1).kind ∈ l then some (Qy.mk k1 t1 n1 l1) else none) = if k1 ∈ l then some (Qy.mk k1 t1 n1 l1) else none := rfl
 rw [e]
 refine cTo' Tryz.func144 rfl rfl rfl ?_
 refine lex2 11 (by kernel_rfl) ?_
 refine ⟨by decide,_,rfl,rfl,?_⟩
 refine ⟨by decide,_,rfl,rfl,?_⟩
 refine ⟨_,hc,?_⟩
 refine ⟨.mk k1 t1 n1 l1,decide (k1 ∈ l),rfl,?_⟩
 by_cases h : k1 ∈ l
 ·rw [decide_eq_true h,if_pos h]
  exact .inl ⟨rfl,rfl⟩
 ·rw [decide_eq_false h,if_neg h]
  exact .inr ⟨rfl,rfl⟩
theorem not2_ok {k : Int} {t : Bytes} {n : Int} {a : Qy} : RuleTo 94 [] (.mk k t n [a]) (if a.kind = 1 then some (constQ 2) else none) := by
 obtain ⟨k1,t1,n1,l1⟩ := a
 unfold RuleTo
 have e : (if (Qy.mk k1 t1 n1 l1).kind = 1 then some (constQ 2) else none) = if k1 = 1 then some (constQ 2) else none := rfl
 rw [e]
 refine cTo' Tryz.func94 rfl rfl rfl ?_
 refine ⟨.plan ⟨[1,2,3,4,5,6],[7],[],[1]⟩ (.one 0 (.one 1 (.one 2 (.one 3 (.one 4 (.one 5 (.one 6 (.alt 7 (.one 8 (.fin)) (.stop))))))))) none,by kernel_rfl,?_⟩
 refine ⟨_,rfl,_,rfl,rfl,_,rfl,rfl,_,⟨by decide,_,rfl,rfl,rfl⟩,rfl,_,rfl,rfl,_,rfl,rfl,.p (.bool (k1 == 1)),⟨fun x hx => by rw [hx]⟩,rfl,rfl,?_⟩
 refine ⟨_,rfl,?_⟩
 refine ⟨constQ 2,k1 == 1,rfl,?_⟩
 by_cases h : k1 = 1
 ·subst h
  exact .inl ⟨rfl,rfl⟩
 ·rw [if_neg h]
  exact .inr ⟨by simp [h],rfl⟩
theorem not3_ok {k : Int} {t : Bytes} {n : Int} {a : Qy} : RuleTo 95 [] (.mk k t n [a]) (if a.kind = 2 then some (constQ 1) else none) := by
 obtain ⟨k1,t1,n1,l1⟩ := a
 unfold RuleTo
 have e : (if (Qy.mk k1 t1 n1 l1).kind = 2 then some (constQ 1) else none) = if k1 = 2 then some (constQ 1) else none := rfl
 rw [e]
 refine cTo' Tryz.func95 rfl rfl rfl ?_
 refine ⟨.plan ⟨[1,2,3,4,5,6],[7],[],[1]⟩ (.one 0 (.one 1 (.one 2 (.one 3 (.one 4 (.one 5 (.one 6 (.alt 7 (.one 8 (.fin)) (.stop))))))))) none,by kernel_rfl,?_⟩
 refine ⟨_,rfl,_,rfl,rfl,_,rfl,rfl,_,⟨by decide,_,rfl,rfl,rfl⟩,rfl,_,rfl,rfl,_,rfl,rfl,.p (.bool (k1 == 2)),⟨fun x hx => by rw [hx]⟩,rfl,rfl,?_⟩
 refine ⟨_,rfl,?_⟩
 refine ⟨constQ 1,k1 == 2,rfl,?_⟩
 by_cases h : k1 = 2
 ·subst h
  exact .inl ⟨rfl,rfl⟩
 ·rw [if_neg h]
  exact .inr ⟨by simp [h],rfl⟩
theorem not4_ok {G : Bytes → Bool} {k : Int} {t : Bytes} {n : Int} {a : Qy} (hv : allE G a = 0) : RuleTo 96 [] (.mk k t n [a]) (if a.kind = 9 then some (a.nth 0) else none) := by
 obtain ⟨k1,t1,n1,l1⟩ := a
 unfold RuleTo
 have e : (if (Qy.mk k1 t1 n1 l1).kind = 9 then some ((Qy.mk k1 t1 n1 l1).nth 0) else none) = if k1 = 9 then some ((Qy.mk k1 t1 n1 l1).nth 0) else none := rfl
 rw [e]
 refine cTo' Tryz.func96 rfl rfl rfl ?_
 refine ⟨by decide,_,rfl,rfl,?_⟩
 refine al_ne (fun h => ?_) (fun h => ?_)
 ·rw [if_neg h]
  exact ⟨zeroQ,false,rfl,.inr ⟨rfl,rfl⟩⟩
 ·have h : k1 = 9 := h
  rw [if_pos h]
  rcases valid_cases hv with ⟨_,h8,_⟩ | ⟨_,rfl,rfl,x,rfl,_⟩ | ⟨hk,_⟩
  ·omega
  ·obtain ⟨k2,t2,n2,l2⟩ := x
   refine ⟨by decide,_,rfl,rfl,?_⟩
   refine ⟨by decide,_,rfl,rfl,?_⟩
   exact ⟨.mk k2 t2 n2 l2,true,rfl,.inl ⟨rfl,rfl⟩⟩
  ·omega
end Qv

end

section
open Go Go.Proofs Go.RowKit
namespace Qv
def rowR (rs : List (FuncId × List AV)) : List (List AV) := rs.map fun p => [.fn (.func p.1) [] p.2]
def andRs0 : List (FuncId × List AV) := [(136,[.imp [kindsV 1 0],.imp [fnV 83]]),(136,[.imp [kindsV 1 1],.imp [fnV 84]]),(136,[.imp [fnV 85],.imp [fnV 84]]),
 (139,[.imp [.int .i64 6],.imp [fnV 87]]),(139,[.imp [.int .i64 7],.imp [fnV 88]]),(139,[.imp [.int .i64 8],.imp [fnV 89]]),(136,[.imp [fnV 46],.imp [constV 2]])]
def orRs0 : List (FuncId × List AV) := [(136,[.imp [kindsV 2 0],.imp [fnV 83]]),(136,[.imp [kindsV 2 1],.imp [fnV 84]]),(136,[.imp [fnV 91],.imp [constV 1]]),(136,[.imp [fnV 85],.imp [fnV 84]]),
 (139,[.imp [.int .i64 6],.imp [fnV 88]]),(139,[.imp [.int .i64 7],.imp [fnV 87]]),(139,[.imp [.int .i64 8],.imp [fnV 93]])]
def absRs (k : Int) : List (FuncId × List AV) := [(136,[.imp [has1V k],.imp [fnV 83]]),(136,[.imp [has2V k],.imp [fnV 84]])]
def notRs : List (FuncId × List AV) := [(94,[]),(95,[]),(96,[])]
def oneRs (k : Int) : List (FuncId × List AV) := [(144,[.imp [encI [1,2,k]]])]
def andRs : List (FuncId × List AV) := andRs0 ++ absRs 11
def orRs : List (FuncId × List AV) := orRs0 ++ absRs 10
def rulesV : AV := .mp [.int .i64 9,.int .i64 10,.int .i64 11,.int .i64 12,.int .i64 13] [.sl (rowR notRs),.sl (rowR andRs),.sl (rowR orRs),.sl (rowR (oneRs 12)),.sl (rowR (oneRs 13))]
def tN : FV := .tip 26 85 1 (rowR notRs)
def tA : FV := .tip 14 85 1 (rowR andRs0)
def tO : FV := .tip 25 85 1 (rowR orRs0)
def rS0 : ASt := mkS 42 0 [(1,tA),(2,tO),(3,tN)] [] [] []
theorem fitsAll {agg : Bool} {L : List Leaf} {l : List (AV × FV)} (h : (l.all fun p => fitsK agg L p.1) = true) : ∀ p,p ∈ l → fitsK agg L p.1 = true := List.all_eq_true.1 h
theorem atS' {K : ASt → Prop} {S : ASt} (T : ASt) (h : S = T) (k : K T) : K S := by rw [h]; exact k
def wM (S : ASt) (m : List (Nat × List (AV × FV))) : ASt := { S with maps := m }
def rT1 : ASt := wM (((rS0.kill 27).put (some 27) (.mapr 27)).put (some 28) tN) [(27,[(.int .i64 9,tN)])]
def rT2 : ASt := wM ((((rT1.put (some 29) tA).put (some 30) (.p (.sl (rowR (absRs 11))))).kill 14).put (some 31) (.tip 14 85 1 (rowR andRs))) [(27,[(.int .i64 9,tN),(.int .i64 10,.tip 14 85 1 (rowR andRs))])]
def rT3 : ASt := wM ((((rT2.put (some 32) tO).put (some 33) (.p (.sl (rowR (absRs 10))))).kill 25).put (some 34) (.tip 25 85 1 (rowR orRs))) [(27,[(.int .i64 9,tN),(.int .i64 10,.tip 14 85 1 (rowR andRs)),(.int .i64 11,.tip 25 85 1 (rowR orRs))])]
def rM4 : List (AV × FV) := [(.int .i64 9,tN),(.int .i64 10,.tip 14 85 1 (rowR andRs)),(.int .i64 11,.tip 25 85 1 (rowR orRs)),(.int .i64 12,.tip 37 85 1 (rowR (oneRs 12)))]
def rM5 : List (AV × FV) := [(.int .i64 9,tN),(.int .i64 10,.tip 14 85 1 (rowR andRs)),(.int .i64 11,.tip 25 85 1 (rowR orRs)),(.int .i64 12,.tip 37 85 1 (rowR (oneRs 12))),(.int .i64 13,.tip 40 85 1 (rowR (oneRs 13)))]
set_option maxRecDepth 100000 in
theorem rules_ok : CallsTo C 54 [] (fun r => r = .val rulesV) := by
 refine callsTo_of_evO ⟨[],[],false,[],[],[]⟩ [2,3,4] Tryz.func54 rfl rfl rfl ?_
 refine ⟨_,(kinds_ok 1 0).opn,fun r hr => ?_⟩
 subst hr
 refine ⟨_,(repl_ok (.func 137) (.func 83) [] [] [.imp [.int .i64 0],.imp [.int .i64 1]] []).opn,fun r hr => ?_⟩
 subst hr
 refine ⟨_,(kinds_ok 1 1).opn,fun r hr => ?_⟩
 subst hr
 refine ⟨_,(repl_ok (.func 137) (.func 84) [] [] [.imp [.int .i64 1],.imp [.int .i64 1]] []).opn,fun r hr => ?_⟩
 subst hr
 refine ⟨_,(repl_ok (.func 85) (.func 84) [] [] [] []).opn,fun r hr => ?_⟩
 subst hr
 refine ⟨_,(choose_ok 6 (.func 87) [] []).opn,fun r hr => ?_⟩
 subst hr
 refine ⟨_,(choose_ok 7 (.func 88) [] []).opn,fun r hr => ?_⟩
 subst hr
 refine ⟨_,(choose_ok 8 (.func 89) [] []).opn,fun r hr => ?_⟩
 subst hr
 refine ⟨_,(const_ok 2).opn,fun r hr => ?_⟩
 subst hr
 refine ⟨_,(repl_ok (.func 46) (.func 140) [] [] [] [.imp [.int .i64 2]]).opn,fun r hr => ?_⟩
 subst hr
 refine cutR 42 [(1,tA)] [] rfl ⟨wR,trivial⟩ trivial ?_
 refine ⟨_,(kinds_ok 2 0).opn,fun r hr => ?_⟩
 subst hr
 refine ⟨_,(repl_ok (.func 137) (.func 83) [] [] [.imp [.int .i64 0],.imp [.int .i64 2]] []).opn,fun r hr => ?_⟩
 subst hr
 refine ⟨_,(kinds_ok 2 1).opn,fun r hr => ?_⟩
 subst hr
 refine ⟨_,(repl_ok (.func 137) (.func 84) [] [] [.imp [.int .i64 1],.imp [.int .i64 2]] []).opn,fun r hr => ?_⟩
 subst hr
 refine ⟨_,(const_ok 1).opn,fun r hr => ?_⟩
 subst hr
 refine ⟨_,(repl_ok (.func 91) (.func 140) [] [] [] [.imp [.int .i64 1]]).opn,fun r hr => ?_⟩
 subst hr
 refine ⟨_,(repl_ok (.func 85) (.func 84) [] [] [] []).opn,fun r hr => ?_⟩
 subst hr
 refine ⟨_,(choose_ok 6 (.func 88) [] []).opn,fun r hr => ?_⟩
 subst hr
 refine ⟨_,(choose_ok 7 (.func 87) [] []).opn,fun r hr => ?_⟩
 subst hr
 refine ⟨_,(choose_ok 8 (.func 93) [] []).opn,fun r hr => ?_⟩
 subst hr
 refine cutR 42 [(1,tA),(2,tO)] [] rfl ⟨wR,wR,trivial⟩ trivial ?_
 refine cutR 42 [(1,tA),(2,tO),(3,tN)] [] rfl ⟨wR,wR,wR,trivial⟩ trivial ?_
 refine ⟨[.int .i64],by kernel_rfl,?_⟩
 refine ⟨rfl,?_⟩
 refine ⟨fitsAll rfl,?_⟩
 refine ⟨[(.int .i64 9,tN)],?_⟩
 refine ⟨rfl,?_⟩
 refine atS' rT1 (by kernel_rfl) ?_
 refine ⟨_,(absorbs_ok 11).opn,fun r hr => ?_⟩
 subst hr
 refine ⟨by decide,by decide,by decide,rowR andRs,rfl,?_⟩
 refine ⟨[.int .i64],by kernel_rfl,?_⟩
 refine ⟨rfl,?_⟩
 refine ⟨fitsAll rfl,?_⟩
 refine ⟨[(.int .i64 9,tN),(.int .i64 10,.tip 14 85 1 (rowR andRs))],?_⟩
 refine ⟨rfl,?_⟩
 refine atS' rT2 (by kernel_rfl) ?_
 refine ⟨_,(absorbs_ok 10).opn,fun r hr => ?_⟩
 subst hr
 refine ⟨by decide,by decide,by decide,rowR orRs,rfl,?_⟩
 refine ⟨[.int .i64],by kernel_rfl,?_⟩
 refine ⟨rfl,?_⟩
 refine ⟨fitsAll rfl,?_⟩
 refine ⟨[(.int .i64 9,tN),(.int .i64 10,.tip 14 85 1 (rowR andRs)),(.int .i64 11,.tip 25 85 1 (rowR orRs))],?_⟩
 refine ⟨rfl,?_⟩
 refine atS' rT3 (by kernel_rfl) ?_
 refine ⟨_,(single_ok [1,2,12]).opn,fun r hr => ?_⟩
 subst hr
 refine ⟨[.int .i64],by kernel_rfl,?_⟩
 refine ⟨rfl,?_⟩
 refine ⟨fitsAll rfl,?_⟩
 refine ⟨rM4,?_⟩
 refine ⟨by kernel_rfl,?_⟩
 refine ⟨_,(single_ok [1,2,13]).opn,fun r hr => ?_⟩
 subst hr
 refine ⟨[.int .i64],by kernel_rfl,?_⟩
 refine ⟨rfl,?_⟩
 refine ⟨fitsAll rfl,?_⟩
 refine ⟨rM5,?_⟩
 refine ⟨by kernel_rfl,?_⟩
 exact ⟨[.int .i64 9,.int .i64 10,.int .i64 11,.int .i64 12,.int .i64 13],[.sl (rowR notRs),.sl (rowR andRs),.sl (rowR orRs),.sl (rowR (oneRs 12)),.sl (rowR (oneRs 13))],⟨_,rfl,rfl,rfl⟩,rfl⟩
end Qv

end

section
open Go Go.Proofs Go.RowKit
namespace Qv
def firstS : List (Option Qy) → Qy → Qy
 | [],q => q
 | some x :: _,_ => x
 | none :: r,q => firstS r q
theorem first_if {c : Prop} [Decidable c] {x : Qy} {r : List (Option Qy)} {q : Qy} : firstS ((if c then some x else none) :: r) q = if c then x else firstS r q := by
 split <;> rfl
def RulesTo : List (FuncId × List AV) → List (Option Qy) → Qy → Prop
 | [],[],_ => True
 | p :: rs,o :: os,q => RuleTo p.1 p.2 q o ∧ RulesTo rs os q
 | [],_ :: _,_ => False
 | _ :: _,[],_ => False
theorem len_two {G : Bytes → Bool} {q : Qy} (hv : allE G q = 0) {k : Int} (hk : k = 10 ∨ k = 11) : q.kind = k → q.sub.length = 2 := by
 obtain ⟨k',t,n,l⟩ := q
 intro h
 have h : k' = k := h
 rcases valid_cases hv with ⟨_,h8,_⟩ | ⟨h9,_⟩ | ⟨_,rfl,rfl,a,b,rfl,_⟩
 ·omega
 ·omega
 ·rfl
theorem and_rules {k : Int} {t : Bytes} {n : Int} {a b : Qy} (hva : allE globB a = 0) (hvb : allE globB b = 0) (hsa : szQ a) (hsb : szQ b) :
 ∃ os,RulesTo andRs os (.mk k t n [a,b]) ∧ firstS os (.mk k t n [a,b]) = andF overF (.mk k t n [a,b]) a b := by
 refine ⟨[_,_,_,_,_,_,_,_,_],⟨replC_ok (x := b) (kindsC0_ok 1 a b) (fun _ => right_ok a b),replC_ok (x := a) (kindsC1_ok 1 a b) (fun _ => left_ok a b),replC_ok (x := a) (equalC_ok a hsa b) (fun _ => left_ok a b),
  chooseC_ok (less_ok a b),chooseC_ok (greater_ok a b),chooseC_ok (longer_ok a b),replC_ok (eitherC_ok a b hva hvb hsa hsb) (fun _ => constC_ok 2 a b),
  replC_ok (x := b) (has1C_ok 11 a b (len_two hva (.inr rfl)) hsa) (fun _ => right_ok a b),replC_ok (x := a) (has2C_ok 11 a b (len_two hvb (.inr rfl)) hsb) (fun _ => left_ok a b),trivial⟩,?_⟩
 have c6 : ∀ P : Prop,((a.kind = 6 ∧ b.kind = 6) ∧ ((6 : Int) = 8 → P)) ↔ (a.kind = 6 ∧ b.kind = 6) := fun P => ⟨fun h => h.1,fun h => ⟨h,fun e => absurd e (by decide)⟩⟩
 have c7 : ∀ P : Prop,((a.kind = 7 ∧ b.kind = 7) ∧ ((7 : Int) = 8 → P)) ↔ (a.kind = 7 ∧ b.kind = 7) := fun P => ⟨fun h => h.1,fun h => ⟨h,fun e => absurd e (by decide)⟩⟩
 have c8 : ((a.kind = 8 ∧ b.kind = 8) ∧ (True → (beginsF a.text b.text || beginsF b.text a.text) = true)) ↔ idsF a b = true := by
  unfold idsF
  rw [Bool.and_eq_true,Bool.and_eq_true,decide_eq_true_eq,decide_eq_true_eq]
  exact ⟨fun h => ⟨h.1.1,h.1.2,h.2 trivial⟩,fun h => ⟨⟨h.1,h.2.1⟩,fun _ => h.2.2⟩⟩
 simp only [first_if,c6,c7,c8,decide_eq_true_eq,firstS]
 rfl
theorem or_rules {k : Int} {t : Bytes} {n : Int} {a b : Qy} (hva : allE globB a = 0) (hvb : allE globB b = 0) (hsa : szQ a) (hsb : szQ b) :
 ∃ os,RulesTo orRs os (.mk k t n [a,b]) ∧ firstS os (.mk k t n [a,b]) = orF (.mk k t n [a,b]) a b := by
 refine ⟨[_,_,_,_,_,_,_,_,_],⟨replC_ok (x := b) (kindsC0_ok 2 a b) (fun _ => right_ok a b),replC_ok (x := a) (kindsC1_ok 2 a b) (fun _ => left_ok a b),replC_ok (or1_ok a b hva hvb hsa hsb) (fun _ => constC_ok 1 a b),
  replC_ok (x := a) (equalC_ok a hsa b) (fun _ => left_ok a b),chooseC_ok (greater_ok a b),chooseC_ok (less_ok a b),chooseC_ok (shorter_ok a b),
  replC_ok (x := b) (has1C_ok 10 a b (len_two hva (.inl rfl)) hsa) (fun _ => right_ok a b),replC_ok (x := a) (has2C_ok 10 a b (len_two hvb (.inl rfl)) hsb) (fun _ => left_ok a b),trivial⟩,?_⟩
 have c6 : ∀ P : Prop,((a.kind = 6 ∧ b.kind = 6) ∧ ((6 : Int) = 8 → P)) ↔ (a.kind = 6 ∧ b.kind = 6) := fun P => ⟨fun h => h.1,fun h => ⟨h,fun e => absurd e (by decide)⟩⟩
 have c7 : ∀ P : Prop,((a.kind = 7 ∧ b.kind = 7) ∧ ((7 : Int) = 8 → P)) ↔ (a.kind = 7 ∧ b.kind = 7) := fun P => ⟨fun h => h.1,fun h => ⟨h,fun e => absurd e (by decide)⟩⟩
 have c8 : ((a.kind = 8 ∧ b.kind = 8) ∧ (True → (beginsF a.text b.text || beginsF b.text a.text) = true)) ↔ idsF a b = true := by
  unfold idsF
  rw [Bool.and_eq_true,Bool.and_eq_true,decide_eq_true_eq,decide_eq_true_eq]
  exact ⟨fun h => ⟨h.1.1,h.1.2,h.2 trivial⟩,fun h => ⟨⟨h.1,h.2.1⟩,fun _ => h.2.2⟩⟩
 simp only [first_if,c6,c7,c8,decide_eq_true_eq,firstS]
 rfl
theorem not_rules {k : Int} {t : Bytes} {n : Int} {a : Qy} (hva : allE globB a = 0) :
 ∃ os,RulesTo notRs os (.mk k t n [a]) ∧ firstS os (.mk k t n [a]) = notF (.mk k t n [a]) a := by
 refine ⟨[_,_,_],⟨not2_ok,not3_ok,not4_ok hva,trivial⟩,?_⟩
 simp only [first_if,firstS]
 rfl
theorem one_rules {k : Int} {t : Bytes} {n : Int} {a : Qy} : ∃ os,RulesTo (oneRs k) os (.mk k t n [a]) ∧ firstS os (.mk k t n [a]) = closedF (.mk k t n [a]) a := by
 refine ⟨[_],⟨singleC_ok [1,2,k] (by simp),trivial⟩,?_⟩
 have c : a.kind ∈ [1,2,k] ↔ (a.kind = 1 ∨ a.kind = 2 ∨ a.kind = (Qy.mk k t n [a]).kind) := by
  show a.kind ∈ [1,2,k] ↔ (a.kind = 1 ∨ a.kind = 2 ∨ a.kind = k)
  simp
 simp only [first_if,firstS,c]
 rfl
def rsOf (k : Int) : List (FuncId × List AV) := if k = 9 then notRs else if k = 10 then andRs else if k = 11 then orRs else if k = 12 ∨ k = 13 then oneRs k else []
theorem step_rules {k : Int} {t : Bytes} {n : Int} {l : List Qy} (hv : allE globB (.mk k t n l) = 0) (hs : szQ (.mk k t n l)) :
 ∃ os,RulesTo (rsOf k) os (.mk k t n l) ∧ firstS os (.mk k t n l) = stepQ overF (.mk k t n l) := by
 have s3 := (szQ_mk.1 hs).2.2
 unfold rsOf
 rcases valid_cases hv with ⟨_,h8,rfl⟩ | ⟨hk,rfl,rfl,a,rfl,ha⟩ | ⟨hk,rfl,rfl,a,b,rfl,ha,hb⟩
 ·rw [if_neg (by omega),if_neg (by omega),if_neg (by omega),if_neg (by omega)]
  exact ⟨[],trivial,(step_leaf overF (.inl h8)).symm⟩
 ·by_cases h9 : k = 9
  ·rw [if_pos h9]
   obtain ⟨os,h1,h2⟩ := not_rules (k := k) (t := []) (n := 0) ha
   refine ⟨os,h1,?_⟩
   rw [h2]
   unfold stepQ
   show _ = if k = 9 then notF (.mk k [] 0 [a]) a else _
   rw [if_pos h9]
  ·rw [if_neg h9,if_neg (by omega),if_neg (by omega),if_pos (by omega)]
   obtain ⟨os,h1,h2⟩ := one_rules (k := k) (t := []) (n := 0) (a := a)
   refine ⟨os,h1,?_⟩
   rw [h2]
   unfold stepQ
   show _ = if k = 9 then _ else if k = 10 then _ else if k = 11 then _ else if k = 12 ∨ k = 13 then closedF (.mk k [] 0 [a]) a else _
   rw [if_neg h9,if_neg (by omega),if_neg (by omega),if_pos (by omega)]
 ·rw [if_neg (by omega)]
  by_cases h10 : k = 10
  ·rw [if_pos h10]
   obtain ⟨os,h1,h2⟩ := and_rules (k := k) (t := []) (n := 0) ha hb (s3 _ (by simp)) (s3 _ (by simp))
   refine ⟨os,h1,?_⟩
   rw [h2]
   unfold stepQ
   show _ = if k = 9 then _ else if k = 10 then andF overF (.mk k [] 0 [a,b]) a b else _
   rw [if_neg (by omega),if_pos h10]
  ·rw [if_neg h10,if_pos (by omega)]
   obtain ⟨os,h1,h2⟩ := or_rules (k := k) (t := []) (n := 0) ha hb (s3 _ (by simp)) (s3 _ (by simp))
   refine ⟨os,h1,?_⟩
   rw [h2]
   unfold stepQ
   show _ = if k = 9 then _ else if k = 10 then _ else if k = 11 then orF (.mk k [] 0 [a,b]) a b else _
   rw [if_neg (by omega),if_neg h10,if_pos (by omega)]
theorem from_sz {q r : Qy} (hs : szQ q) (f : From q r) : szQ r := by
 have sub : ∀ {q : Qy},szQ q → ∀ x,x ∈ q.sub → szQ x := fun {q} h => by
  obtain ⟨k,t,n,l⟩ := q
  exact (szQ_mk.1 h).2.2
 cases f with
 | self => exact hs
 | elem a ha => exact sub hs _ ha
 | deep a b ha hb => exact sub (sub hs _ ha) _ hb
 | all hn => exact sz_const 1
 | none hn => exact sz_const 2
theorem optL_get {O : Bytes → Bytes → Bool} {l : List Qy} : ∀ x,x ∈ optL O l → ∃ y,y ∈ l ∧ x = optF O y := by
 intro x hx
 rw [optL_map] at hx
 obtain ⟨y,hy,rfl⟩ := List.mem_map.1 hx
 exact ⟨y,hy,rfl⟩
theorem mid_valid {G : Bytes → Bool} {O : Bytes → Bytes → Bool} {k : Int} {t : Bytes} {n : Int} {l : List Qy} (hv : allE G (.mk k t n l) = 0) : allE G (.mk k t n (optL O l)) = 0 := by
 obtain ⟨h1,h2⟩ := allE_zero.1 hv
 refine allE_zero.2 ⟨?_,fun x hx => ?_⟩
 ·rw [optL_map,List.length_map]; exact h1
 ·obtain ⟨y,hy,rfl⟩ := optL_get x hx
  exact (opt_facts (O := O) y (h2 y hy)).1
theorem sz_opt {G : Bytes → Bool} {O : Bytes → Bytes → Bool} (q : Qy) : allE G q = 0 → szQ q → szQ (optF O q) := by
 refine Qy.ind (P := fun q => allE G q = 0 → szQ q → szQ (optF O q)) ?_ q
 intro k t n l ih hv hs
 obtain ⟨s1,s2,s3⟩ := szQ_mk.1 hs
 have hm := mid_valid (O := O) hv
 have hms : szQ (.mk k t n (optL O l)) := szQ_mk.2 ⟨s1,by rw [optL_map,List.length_map]; exact s2,fun x hx => by
  obtain ⟨y,hy,rfl⟩ := optL_get x hx
  exact ih y hy ((allE_zero.1 hv).2 y hy) (s3 y hy)⟩
 exact from_sz hms (step_from O hm)
end Qv

end

section
open Go Go.Proofs Go.RowKit
namespace Qv
theorem encQyL_snoc (l : List Qy) (q : Qy) : encQyL l ++ [encQy q] = encQyL (l ++ [q]) := by
 rw [encQyL_map,encQyL_map,List.map_append]; rfl
theorem optL_take {O : Bytes → Bytes → Bool} {l : List Qy} {i : Nat} {q : Qy} (h : l[i]? = some q) : optL O (l.take i) ++ [optF O q] = optL O (l.take (i + 1)) := by
 rw [List.take_add_one,h,optL_map,optL_map,List.map_append]; rfl
theorem encQyL_all (l : List Qy) : ∀ zs,zs ∈ encQyL l → zs.length = 4 := by
 rw [encQyL_map]
 intro zs hz
 obtain ⟨q,-,rfl⟩ := List.mem_map.1 hz
 exact encQy_len q
def ruleKV : List (AV × FV) := [(.int .i64 9,.p (.sl (rowR notRs))),(.int .i64 10,.p (.sl (rowR andRs))),(.int .i64 11,.p (.sl (rowR orRs))),(.int .i64 12,.p (.sl (rowR (oneRs 12)))),(.int .i64 13,.p (.sl (rowR (oneRs 13))))]
theorem find_rule (k : Int) : (k = 9 ∨ k = 10 ∨ k = 11 ∨ k = 12 ∨ k = 13 → findM (.int .i64 k) ruleKV = some (.p (.sl (rowR (rsOf k))))) ∧ (¬ (k = 9 ∨ k = 10 ∨ k = 11 ∨ k = 12 ∨ k = 13) → findM (.int .i64 k) ruleKV = none ∧ rsOf k = []) := by
 constructor
 ·rintro (rfl | rfl | rfl | rfl | rfl) <;> rfl
 ·intro h
  constructor
  ·have h9 : (k == 9) = false := by simp; omega
   have h10 : (k == 10) = false := by simp; omega
   have h11 : (k == 11) = false := by simp; omega
   have h12 : (k == 12) = false := by simp; omega
   have h13 : (k == 13) = false := by simp; omega
   have g9 : ((9 : Int) == k) = false := by simp; omega
   have g10 : ((10 : Int) == k) = false := by simp; omega
   have g11 : ((11 : Int) == k) = false := by simp; omega
   have g12 : ((12 : Int) == k) = false := by simp; omega
   have g13 : ((13 : Int) == k) = false := by simp; omega
   simp [findM,ruleKV,sameA,sameA1,h9,h10,h11,h12,h13,g9,g10,g11,g12,g13]
  ·unfold rsOf
   rw [if_neg (by omega),if_neg (by omega),if_neg (by omega),if_neg (by omega)]
theorem rsOf_len (k : Int) : (rsOf k).length ≤ 9 := by
 unfold rsOf
 repeat' split
 all_goals first | decide | exact Nat.le_of_ble_eq_true rfl
theorem optimizeC_ok (q : Qy) : allE globB q = 0 → szQ q → CallsTo C 53 [.agg (encQy q),rulesV] (fun r => r = .val (.agg (encQy (optF overF q)))) := by
 refine Qy.ind (P := fun q => allE globB q = 0 → szQ q → CallsTo C 53 [.agg (encQy q),rulesV] (fun r => r = .val (.agg (encQy (optF overF q))))) ?_ q
 intro k t n l ih hv hs
 obtain ⟨s1,s2,s3⟩ := szQ_mk.1 hs
 have hmv := mid_valid (O := overF) hv
 have hms : szQ (.mk k t n (optL overF l)) := szQ_mk.2 ⟨s1,by rw [optL_map,List.length_map]; exact s2,fun x hx => by
  obtain ⟨y,hy,rfl⟩ := optL_get x hx
  exact sz_opt y ((allE_zero.1 hv).2 y hy) (s3 y hy)⟩
 obtain ⟨os,hos,hst⟩ := step_rules hmv hms
 have hF : optF overF (.mk k t n l) = stepQ overF (.mk k t n (optL overF l)) := rfl
 rw [hF,← hst]
 have hl2 : l.length ≤ 2 := by
  have := (part_len (allE_zero.1 hv).1).1
  unfold opsN at this
  split at this
  ·omega
  ·split at this <;> omega
 clear hst hF
 refine cTo' Tryz.func53 rfl rfl rfl ?_
 refine loopR 47 (fun i : Nat => [(1,.p rulesV),(2,.ptr 2 0),(4,.ptr 4 0),(5,.tip 24 24 4 (encQyL (optL overF (l.take i)))),(13,.p (.sl (encQyL l))),(14,.p (.int .i64 (encQyL l).length)),(15,.p (.int .i64 i))])
  (fun _ => [(2,mapP [.int .i64 k,.str t,.int .i64 n,.sl (encQyL l)]),(4,[.p (.int .i64 0),.p (.str []),.p (.int .i64 0),.full []])])
  (fun i => i ≤ l.length) (fun i => l.length - i) 0 (Nat.zero_le _) rfl ⟨wR,wR,wR,Weak.full_tip _ _ _,wR,wR,wR,trivial⟩ ⟨hO1 rfl,hO1 rfl,trivial⟩ ?_
 intro i hi
 refine al_ltq (fun hlt => ?_) (fun hge => ?_)
 ·obtain ⟨k',t',n',l',hq⟩ := get_q hlt
  have hmem := List.mem_of_getElem? hq
  have hw5 : IntKind.i64.wrap ((i : Int) + 1) = ((i + 1 : Nat) : Int) := by rw [wrap64 (by omega) (by omega)]; omega
  have hc := ih _ hmem ((allE_zero.1 hv).2 _ hmem) (s3 _ hmem)
  have htk := optL_take (O := overF) hq
  obtain ⟨k2,t2,n2,l2,hx⟩ : ∃ k2 t2 n2 l2,optF overF (.mk k' t' n' l') = .mk k2 t2 n2 l2 := ⟨_,_,_,_,Qy.eta _⟩
  rw [hx] at hc htk
  refine ⟨by omega,_,idx_q hq,rfl,?_⟩
  refine ⟨_,hc,fun r hr => ?_⟩
  subst hr
  refine ⟨encQyL_all _,all_one rfl,?_,encQyL (optL overF (l.take (i + 1))),?_,?_⟩
  ·have : (encQyL (optL overF (l.take i))).length ≤ 2 := by
    rw [encQyL_len,optL_map,List.length_map,List.length_take]; omega
   have e : (chunk 4 1 [AV.int IntKind.i64 k2,AV.str t2,AV.int IntKind.i64 n2,AV.sl (encQyL l2)]).length = 1 := rfl
   show ((encQyL (optL overF (l.take i))).length + (chunk 4 1 [AV.int IntKind.i64 k2,AV.str t2,AV.int IntKind.i64 n2,AV.sl (encQyL l2)]).length) * 56 ≤ 140737488355328
   omega
  ·rw [← htk,← encQyL_snoc]
   rfl
  ·exact ⟨_,hw5,roundR (i + 1) hlt (by show l.length - (i + 1) < l.length - i; omega) rfl ⟨wR,wR,wR,wR,wR,wR,wR,trivial⟩ ⟨hO1 rfl,hO1 rfl,trivial⟩⟩
 have hge : i = l.length := by
  have hi : i ≤ l.length := hi
  omega
 subst hge
 rw [List.take_length]
 clear ih hv s3 hl2 hs
 generalize optL overF l = m at hmv hms hos ⊢
 refine ⟨[.int .i64],by kernel_rfl,rfl,fitsAll rfl,?_⟩
 obtain ⟨f1,f2⟩ := find_rule k
 by_cases hk : k = 9 ∨ k = 10 ∨ k = 11 ∨ k = 12 ∨ k = 13
 ·refine ⟨_,f1 hk,?_⟩
  have hrl := rsOf_len k
  clear f1 f2 hk
  generalize rsOf k = rs at hos hrl ⊢
  generalize hX : firstS os (.mk k t n m) = X
  have hcell : ((rowR rs).length : Int) = (rs.length : Int) := by simp [rowR]
  refine loopR 47 (fun i : Nat => [(2,.ptr 2 0),(4,.ptr 4 0),(31,.p (.sl (rowR rs))),(32,.p (.int .i64 (rowR rs).length)),(33,.p (.int .i64 i))])
   (fun _ => [(2,[.p (.int .i64 k),.p (.str t),.p (.int .i64 n),.tip 24 24 4 (encQyL m)]),(4,[.p (.int .i64 0),.p (.str []),.p (.int .i64 0),.full []])])
   (fun i => i ≤ rs.length ∧ ∃ os,RulesTo (rs.drop i) os (.mk k t n m) ∧ firstS os (.mk k t n m) = X) (fun i => rs.length - i) 0 ⟨Nat.zero_le _,os,hos,hX⟩ rfl ⟨wR,wR,wR,wR,wR,trivial⟩ ⟨hO1 rfl,hO1 rfl,trivial⟩ ?_
  clear hX hos os
  rintro i ⟨hi,os,hos,hX⟩
  refine al_lt (fun hlt => ?_) (fun hge => ?_)
  ·have hw5 : IntKind.i64.wrap ((i : Int) + 1) = ((i + 1 : Nat) : Int) := by rw [wrap64 (by omega) (by omega)]; omega
   obtain ⟨g,cs,hp⟩ : ∃ g cs,rs[i]? = some (g,cs) := ⟨rs[i].1,rs[i].2,List.getElem?_eq_getElem hlt⟩
   have hrow : (rowR rs)[((i : Nat) : Int).toNat]? = some [.fn (.func g) [] cs] := by
    unfold rowR
    rw [Int.toNat_natCast,List.getElem?_map,hp]; rfl
   rw [drop_at hp] at hos
   match os,hos with
   | [],h => exact h.elim
   | o :: os',⟨h1,h2⟩ =>
   refine ⟨by omega,_,hrow,rfl,?_⟩
   have h1 : RuleTo g cs (.mk k t n m) o := h1
   have after : ∀ (y : Qy) (b : Bool),((b = true ∧ o = some y) ∨ (b = false ∧ o = none)) → (b = true → X = y) ∧ (b = false → firstS os' (.mk k t n m) = X) := by
    rintro y b (⟨rfl,rfl⟩ | ⟨rfl,rfl⟩)
    ·exact ⟨fun _ => hX.symm,fun h => by cases h⟩
    ·exact ⟨fun h => (by cases h),fun _ => hX⟩
   cases cs with
   | nil =>
     refine ⟨_,h1,?_⟩
     rintro r ⟨y,b,rfl,hb⟩
     obtain ⟨a1,a2⟩ := after y b hb
     obtain ⟨k2,t2,n2,l2⟩ := y
     cases b with
     | true =>
       rw [a1 rfl]
       exact rfl
     | false => exact ⟨_,hw5,roundR (i + 1) ⟨hlt,os',h2,a2 rfl⟩ (by show rs.length - (i + 1) < rs.length - i; omega) rfl ⟨wR,wR,wR,wR,wR,trivial⟩ ⟨hO1 rfl,hO1 rfl,trivial⟩⟩
   | cons c cs =>
     refine ⟨_,h1,?_⟩
     rintro r ⟨y,b,rfl,hb⟩
     obtain ⟨a1,a2⟩ := after y b hb
     obtain ⟨k2,t2,n2,l2⟩ := y
     cases b with
     | true =>
       rw [a1 rfl]
       exact rfl
     | false => exact ⟨_,hw5,roundR (i + 1) ⟨hlt,os',h2,a2 rfl⟩ (by show rs.length - (i + 1) < rs.length - i; omega) rfl ⟨wR,wR,wR,wR,wR,trivial⟩ ⟨hO1 rfl,hO1 rfl,trivial⟩⟩
  ·have hge : i = rs.length := by
    have hi : i ≤ rs.length := hi
    omega
   subst hge
   rw [List.drop_length] at hos
   match os,hos with
   | [],_ =>
     have hX : Qy.mk k t n m = X := hX
     subst hX
     exact rfl
   | o :: os',h => exact h.elim
 ·obtain ⟨f3,f4⟩ := f2 hk
  rw [f4] at hos
  match os,hos with
  | o :: os',h => exact h.elim
  | [],_ =>
  refine ⟨_,f3,.slice none 0 0,by kernel_rfl,?_⟩
  have hX : firstS [] (Qy.mk k t n m) = .mk k t n m := rfl
  rw [hX]
  refine loopR 47 (fun _ : Unit => [(2,.ptr 2 0),(4,.ptr 4 0),(32,.p (.int .i64 (0 : Nat))),(33,.p (.int .i64 (0 : Nat)))])
   (fun _ => [(2,[.p (.int .i64 k),.p (.str t),.p (.int .i64 n),.tip 24 24 4 (encQyL m)]),(4,[.p (.int .i64 0),.p (.str []),.p (.int .i64 0),.full []])])
   (fun _ => True) (fun _ => 0) () trivial rfl ⟨wR,wR,wR,wR,trivial⟩ ⟨hO1 rfl,hO1 rfl,trivial⟩ ?_
  rintro _ _
  refine al_dec (fun h => absurd h (by decide)) (fun _ => ?_)
  exact rfl
end Qv

end
