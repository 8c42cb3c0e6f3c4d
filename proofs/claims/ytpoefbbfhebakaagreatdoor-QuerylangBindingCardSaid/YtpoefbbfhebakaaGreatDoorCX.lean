/- Several texts in one: The language of queries in plain terms: a printed query is read back and what follows. No condition. -/
import Derived.Test.YtpoefbbfhebakaaGreatDoorCN
set_option linter.unusedVariables false
set_option linter.unusedSimpArgs false

section
open Go Go.RowKit
namespace Qv
section
variable {α : Type}
def HdOK (l : List (Tk × α)) : Prop := ∃ e r,l = e :: r ∧ e.1.bad? = false
theorem okT_hd {l : List (Tk × α)} {K : List (Tk × α) → Option (PR α)} (h : HdOK l) : okT l K = K l := by
 obtain ⟨⟨t,a⟩,r,rfl,h⟩ := h
 exact okT_cons h
theorem tk_head {q : Qy} (h : VQ q) : ∃ t ts,tkQ q = t :: ts ∧ t.bad? = false := by
 cases h with
 | plain k hk => exact ⟨_,_,(textQ_plain k hk).2,rfl⟩
 | text k t hk => exact ⟨_,_,(textQ_text k t hk).2,rfl⟩
 | num k n hk hn => exact ⟨_,_,(textQ_num k n hk).2,rfl⟩
 | one k q hk _ => exact ⟨_,_,(textQ_one k q hk).2,rfl⟩
 | two k p q hk _ _ => exact ⟨_,_,(textQ_two k p q hk).2,rfl⟩
theorem hd_tk {q : Qy} (h : VQ q) {l : List (Tk × α)} (hl : kinds l = tkQ q) (r : List (Tk × α)) : HdOK (l ++ r) := by
 obtain ⟨t,ts,e,hb⟩ := tk_head h
 rw [e] at hl
 cases l with
 | nil => cases hl
 | cons x l =>
   injection hl with h1 _
   exact ⟨x,l ++ r,rfl,by rw [h1]; exact hb⟩
theorem kinds_split {l : List (Tk × α)} {t : Tk} {ts : List Tk} (h : kinds l = t :: ts) : ∃ a l2,l = (t,a) :: l2 ∧ kinds l2 = ts := by
 cases l with
 | nil => cases h
 | cons x l =>
   injection h with h1 h2
   obtain ⟨t',a⟩ := x
   obtain rfl : t' = t := h1
   exact ⟨a,l,rfl,h2⟩
theorem kinds_app2 {l : List (Tk × α)} {u v : List Tk} (h : kinds l = u ++ v) : ∃ l1 l2,l = l1 ++ l2 ∧ kinds l1 = u ∧ kinds l2 = v := by
 induction u generalizing l with
 | nil => exact ⟨[],l,rfl,rfl,h⟩
 | cons t u ih =>
   obtain ⟨a,l2,rfl,h2⟩ := kinds_split h
   obtain ⟨l1,l3,rfl,h3,h4⟩ := ih h2
   exact ⟨(t,a) :: l1,l3,rfl,by show t :: kinds l1 = _; rw [h3],h4⟩
theorem goT_wordS (f : Nat) (k : Nat) (a : α) (l : List (Tk × α)) (h : opersN k ≠ 2) (hl : HdOK l) : goT (f + 1) .unit ((.word k,a) :: l) = simpT (goT f .unit) k l := by
 simp only [goT,if_neg h]
 exact okT_hd hl
theorem unit_tk {q : Qy} (h : VQ q) : ∀ (l r : List (Tk × α)),kinds l = tkQ q → HdOK r → ∃ F,goT F .unit (l ++ r) = some (.ok q r) := by
 induction h with
 | plain k hk =>
   intro l r hl hr
   rw [(textQ_plain k hk).2] at hl
   obtain ⟨a,l2,rfl,h2⟩ := kinds_split hl
   obtain rfl : l2 = [] := by cases l2 with | nil => rfl | cons x l2 => cases h2
   refine ⟨1,?_⟩
   show goT 1 .unit ((.word k,a) :: r) = _
   rw [goT_wordS 0 k a r (by rcases hk with rfl | rfl <;> decide) hr]
   rcases hk with rfl | rfl <;> rfl
 | text k t hk =>
   intro l r hl hr
   rw [(textQ_text k t hk).2] at hl
   obtain ⟨a,l2,rfl,h2⟩ := kinds_split hl
   obtain ⟨b,l3,rfl,h3⟩ := kinds_split h2
   obtain rfl : l3 = [] := by cases l3 with | nil => rfl | cons x l3 => cases h3
   have hk2 : k = 3 ∨ k = 4 ∨ k = 5 ∨ k = 8 := by simpa [textualN] using hk
   refine ⟨1,?_⟩
   show goT 1 .unit ((.word k,a) :: (.str t,b) :: r) = _
   rw [goT_wordS 0 k a _ (by rcases hk2 with rfl | rfl | rfl | rfl <;> decide) ⟨_,_,rfl,rfl⟩]
   unfold simpT
   rw [if_neg (by rcases hk2 with rfl | rfl | rfl | rfl <;> decide),if_pos hk]
   exact okT_hd hr
 | num k n hk hn =>
   intro l r hl hr
   rw [(textQ_num k n hk).2] at hl
   obtain ⟨a,l2,rfl,h2⟩ := kinds_split hl
   obtain ⟨b,l3,rfl,h3⟩ := kinds_split h2
   obtain rfl : l3 = [] := by cases l3 with | nil => rfl | cons x l3 => cases h3
   have hk2 : k = 6 ∨ k = 7 := by simpa [numericN] using hk
   refine ⟨1,?_⟩
   show goT 1 .unit ((.word k,a) :: (.num n,b) :: r) = _
   rw [goT_wordS 0 k a _ (by rcases hk2 with rfl | rfl <;> decide) ⟨_,_,rfl,rfl⟩]
   unfold simpT
   rw [if_neg (by rcases hk2 with rfl | rfl <;> decide),if_neg (by rcases hk2 with rfl | rfl <;> decide),if_pos hk]
   exact okT_hd hr
 | one k q hk hq ih =>
   intro l r hl hr
   rw [(textQ_one k q hk).2] at hl
   obtain ⟨a,l2,rfl,h2⟩ := kinds_split hl
   obtain ⟨F,hF⟩ := ih l2 r h2 hr
   refine ⟨F + 1,?_⟩
   show goT (F + 1) .unit ((.word k,a) :: (l2 ++ r)) = _
   rw [goT_wordS F k a _ (by rw [hk]; decide) (hd_tk hq h2 r)]
   unfold simpT
   rw [if_pos hk,hF]
   rfl
 | two k p q hk hp hq ihp ihq =>
   intro l r hl hr
   rw [(textQ_two k p q hk).2] at hl
   obtain ⟨a,l2,rfl,h2⟩ := kinds_split hl
   obtain ⟨l3,l4,rfl,h3,h4⟩ := kinds_app2 h2
   obtain ⟨b,l5,rfl,h5⟩ := kinds_split h4
   obtain ⟨l6,l7,rfl,h6,h7⟩ := kinds_app2 h5
   obtain ⟨c,l8,rfl,h8⟩ := kinds_split h7
   obtain rfl : l8 = [] := by cases l8 with | nil => rfl | cons x l8 => cases h8
   obtain ⟨F1,g1⟩ := ihp l3 ((.word k,b) :: (l6 ++ (.rp,c) :: r)) h3 ⟨_,_,rfl,rfl⟩
   obtain ⟨F2,g2⟩ := ihq l6 ((.rp,c) :: r) h6 ⟨_,_,rfl,rfl⟩
   refine ⟨F1 + F2 + 7,?_⟩
   have e0 : (Tk.lp,a) :: (l3 ++ (Tk.word k,b) :: (l6 ++ [(Tk.rp,c)])) ++ r = (Tk.lp,a) :: (l3 ++ ((Tk.word k,b) :: (l6 ++ (Tk.rp,c) :: r))) := by simp
   rw [e0]
   have hX := hd_tk hp h3 ((Tk.word k,b) :: (l6 ++ (Tk.rp,c) :: r))
   have hY := hd_tk hq h6 ((Tk.rp,c) :: r)
   have fin : ∀ x,goT (F1 + F2 + 6) .disj (l3 ++ ((Tk.word k,b) :: (l6 ++ (Tk.rp,c) :: r))) = some (.ok x ((.rp,c) :: r)) → goT (F1 + F2 + 7) .unit ((Tk.lp,a) :: (l3 ++ ((Tk.word k,b) :: (l6 ++ (Tk.rp,c) :: r)))) = some (.ok x r) := by
    intro x hx
    show okT _ (fun l => bindT (goT (F1 + F2 + 6) .disj l) rparT) = _
    rw [okT_hd hX,hx]
    show okT r (fun l => some (PR.ok x l)) = _
    exact okT_hd hr
   refine fin _ ?_
   show bindT (goT (F1 + F2 + 5) .conj _) (fun q l => goT (F1 + F2 + 5) (.orL q) l) = _
   have nrp : ∀ w,¬ ∃ a' l',(Tk.rp,c) :: r = (Tk.word w,a') :: l' := by rintro w ⟨a',l',e⟩; cases e
   rcases oper2 hk with rfl | rfl
   ·have hc : goT (F1 + F2 + 5) .conj (l3 ++ ((Tk.word 10,b) :: (l6 ++ (Tk.rp,c) :: r))) = some (.ok (.mk 10 [] 0 [p,q]) ((.rp,c) :: r)) := by
     show bindT (goT (F1 + F2 + 4) .unit _) (fun q l => goT (F1 + F2 + 4) (.andL q) l) = _
     rw [goT_mono (by omega) g1]
     show okT (l6 ++ (Tk.rp,c) :: r) (fun l => bindT (goT (F1 + F2 + 3) .unit l) fun x l => goT (F1 + F2 + 3) (.andL (.mk 10 [] 0 [p,x])) l) = _
     rw [okT_hd hY,goT_mono (by omega) g2]
     exact andL_out (f := F1 + F2 + 2) (nrp 10)
    rw [hc]
    exact orL_out (f := F1 + F2 + 4) (nrp 11)
   ·have hc : goT (F1 + F2 + 5) .conj (l3 ++ ((Tk.word 11,b) :: (l6 ++ (Tk.rp,c) :: r))) = some (.ok p ((Tk.word 11,b) :: (l6 ++ (Tk.rp,c) :: r))) := by
     show bindT (goT (F1 + F2 + 4) .unit _) (fun q l => goT (F1 + F2 + 4) (.andL q) l) = _
     rw [goT_mono (by omega) g1]
     exact andL_out (f := F1 + F2 + 3) (l := (Tk.word 11,b) :: (l6 ++ (Tk.rp,c) :: r)) (by rintro ⟨a',l',e⟩; cases e)
    rw [hc]
    show okT (l6 ++ (Tk.rp,c) :: r) (fun l => bindT (goT (F1 + F2 + 4) .conj l) fun x l => goT (F1 + F2 + 4) (.orL (.mk 11 [] 0 [p,x])) l) = _
    rw [okT_hd hY]
    have hd : goT (F1 + F2 + 4) .conj (l6 ++ (Tk.rp,c) :: r) = some (.ok q ((Tk.rp,c) :: r)) := by
     show bindT (goT (F1 + F2 + 3) .unit _) (fun q l => goT (F1 + F2 + 3) (.andL q) l) = _
     rw [goT_mono (by omega) g2]
     exact andL_out (f := F1 + F2 + 2) (nrp 10)
    rw [hd]
    exact orL_out (f := F1 + F2 + 3) (nrp 11)
theorem allT_of {l : List (Tk × α)} {F : Nat} {q : Qy} {b : α} (hT : TokL l) (hd : HdOK l) (h : goT F .disj l = some (.ok q [(.stop,b)])) : allT l = some (.ok q []) := by
 have hne := allT_ok hT
 rw [allT_eq,okT_hd hd] at hne ⊢
 generalize 3 * l.length + 3 = G at hne ⊢
 cases hr : goT G .disj l with
 | none => rw [hr] at hne; exact absurd rfl hne
 | some r =>
   have h1 := goT_mono (Nat.le_max_left G F) hr
   have h2 := goT_mono (Nat.le_max_right G F) h
   rw [h1] at h2
   obtain rfl := Option.some.inj h2
   rfl
end
end Qv

end

section
open Go Go.RowKit
namespace Qv
end Qv

end

section
open Go Go.RowKit
namespace Qv
section
variable {α β : Type}
end
end Qv

end
