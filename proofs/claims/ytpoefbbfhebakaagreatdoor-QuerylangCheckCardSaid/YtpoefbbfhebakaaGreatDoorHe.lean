/- The reference's printing of queries: the contracts of show, Print and Size; the statement QuerylangCheck. No condition. -/
import Derived.Test.YtpoefbbfhebakaaGreatDoorHd
set_option linter.unusedVariables false
set_option linter.unusedSimpArgs false
open Go Go.Proofs Go.RowKit
namespace Qv
theorem show_ok (q : Qy) (h : VQ q) : (textQ q).length ≤ 2 ^ 30 → CallsTo C 61 [.agg (encQy q)] (fun r => r = .val (.str (textQ q))) := by
 have wrd : ∀ k : Nat,wordedF k = textualN k := worded_textual
 have nmb : ∀ k : Nat,numberedF k = numericN k := numbered_numeric
 induction h with
 | plain k hk =>
   intro hlen
   have h1 : textualN k = false := by rcases hk with rfl | rfl <;> rfl
   have h2 : numericN k = false := by rcases hk with rfl | rfl <;> rfl
   have hk13 : k ≤ 13 := by omega
   rw [(textQ_plain k hk).1]
   refine cTo' Tryz.func61 rfl rfl rfl ?_
   refine lex2 6 (by kernel_rfl) ?_
   refine ⟨_,words_ok,?_⟩
   refine ⟨by omega,[.str (wordB k)],words_get k hk13,rfl,?_⟩
   refine ⟨_,worded_ok k,fun r hr => ?_⟩
   subst hr
   rw [wrd,h1]
   refine ⟨_,numbered_ok k,fun r hr => ?_⟩
   subst hr
   rw [nmb,h2]
   refine al_eq (fun h => absurd h (by decide)) (fun _ => ?_)
   refine al_eq (fun h => absurd h (by decide)) (fun _ => ?_)
   exact rfl
 | text k t h1 =>
   intro hlen
   have hk13 : k ≤ 13 := kinds_of (.inl h1)
   rw [(textQ_text k t h1).1] at hlen ⊢
   have hq : t.length ≤ (quoteQ t).length := by
    have := escQ_len t
    simp [quoteQ]
    omega
   simp only [List.length_append,List.length_singleton] at hlen
   refine cTo' Tryz.func61 rfl rfl rfl ?_
   refine lex2 6 (by kernel_rfl) ?_
   refine ⟨_,words_ok,?_⟩
   refine ⟨by omega,[.str (wordB k)],words_get k hk13,rfl,?_⟩
   refine ⟨_,worded_ok k,fun r hr => ?_⟩
   subst hr
   rw [wrd,h1]
   refine ⟨by simp only [List.length_append,List.length_singleton]; omega,?_⟩
   refine ⟨_,quoteR_ok t (by omega),fun r hr => ?_⟩
   subst hr
   refine ⟨by simp only [List.length_append,List.length_singleton]; omega,?_⟩
   exact rfl
 | num k n h2 hn =>
   intro hlen
   have hk13 : k ≤ 13 := kinds_of (.inr (.inl h2))
   have h1 : textualN k = false := by
    have : k = 6 ∨ k = 7 := by simpa [numericN] using h2
    rcases this with rfl | rfl <;> rfl
   rw [(textQ_num k n h2).1] at hlen ⊢
   simp only [List.length_append,List.length_singleton] at hlen
   refine cTo' Tryz.func61 rfl rfl rfl ?_
   refine lex2 6 (by kernel_rfl) ?_
   refine ⟨_,words_ok,?_⟩
   refine ⟨by omega,[.str (wordB k)],words_get k hk13,rfl,?_⟩
   refine ⟨_,worded_ok k,fun r hr => ?_⟩
   subst hr
   rw [wrd,h1]
   refine ⟨_,numbered_ok k,fun r hr => ?_⟩
   subst hr
   rw [nmb,h2]
   refine ⟨by simp only [List.length_append,List.length_singleton]; omega,?_⟩
   refine ⟨_,decimal_ok n (by omega),fun r hr => ?_⟩
   subst hr
   refine ⟨by simp only [List.length_append,List.length_singleton]; omega,?_⟩
   exact rfl
 | one k q h3 hq ih =>
   intro hlen
   have hk : k = 9 ∨ k = 12 ∨ k = 13 := opersN_one.1 h3
   have hk13 : k ≤ 13 := by omega
   have h1 : textualN k = false := by rcases hk with rfl | rfl | rfl <;> rfl
   have h2 : numericN k = false := by rcases hk with rfl | rfl | rfl <;> rfl
   rw [(textQ_one k q h3).1] at hlen ⊢
   simp only [List.length_append,List.length_singleton] at hlen
   have ih := ih (by omega)
   obtain ⟨kx,tx,nx,lx⟩ := q
   refine cTo' Tryz.func61 rfl rfl rfl ?_
   refine lex2 6 (by kernel_rfl) ?_
   refine ⟨_,words_ok,?_⟩
   refine ⟨by omega,[.str (wordB k)],words_get k hk13,rfl,?_⟩
   refine ⟨_,worded_ok k,fun r hr => ?_⟩
   subst hr
   rw [wrd,h1]
   refine ⟨_,numbered_ok k,fun r hr => ?_⟩
   subst hr
   rw [nmb,h2]
   refine al_eq (fun _ => ?_) (fun h => absurd rfl h)
   refine ⟨by simp only [List.length_append,List.length_singleton]; omega,?_⟩
   refine ⟨by decide,[.int .i64 kx,.str tx,.int .i64 nx,.sl (encQyL lx)],rfl,rfl,?_⟩
   refine ⟨_,ih,fun r hr => ?_⟩
   subst hr
   refine ⟨by simp only [List.length_append,List.length_singleton]; omega,?_⟩
   exact rfl
 | two k p q h3 hp hq ih1 ih2 =>
   intro hlen
   have hk13 : k ≤ 13 := kinds_of (.inr (.inr (.inr (.inl h3))))
   have hk : k = 10 ∨ k = 11 := oper2 h3
   have h1 : textualN k = false := by rcases hk with rfl | rfl <;> rfl
   have h2 : numericN k = false := by rcases hk with rfl | rfl <;> rfl
   rw [(textQ_two k p q h3).1] at hlen ⊢
   simp only [List.length_append,List.length_singleton] at hlen
   have ih1 := ih1 (by omega)
   have ih2 := ih2 (by omega)
   obtain ⟨kx,tx,nx,lx⟩ := q
   obtain ⟨ky,ty,ny,ly⟩ := p
   refine cTo' Tryz.func61 rfl rfl rfl ?_
   refine lex2 6 (by kernel_rfl) ?_
   refine ⟨_,words_ok,?_⟩
   refine ⟨by omega,[.str (wordB k)],words_get k hk13,rfl,?_⟩
   refine ⟨_,worded_ok k,fun r hr => ?_⟩
   subst hr
   rw [wrd,h1]
   refine ⟨_,numbered_ok k,fun r hr => ?_⟩
   subst hr
   rw [nmb,h2]
   refine al_eq (fun h => absurd (show (((encQyL [Qy.mk ky ty ny ly,Qy.mk kx tx nx lx]).length : Nat) : Int) = 1 from h) (by rw [encQyL_len]; simp)) (fun _ => ?_)
   refine al_eq (fun _ => ?_) (fun h => absurd rfl h)
   refine lex2 18 (by kernel_rfl) ?_
   refine ⟨by decide,[.int .i64 ky,.str ty,.int .i64 ny,.sl (encQyL ly)],rfl,rfl,?_⟩
   refine ⟨_,ih1,?_⟩
   refine ⟨by simp only [List.length_append,List.length_singleton]; omega,?_⟩
   refine ⟨by simp only [List.length_append,List.length_singleton]; omega,?_⟩
   refine ⟨by simp only [List.length_append,List.length_singleton]; omega,?_⟩
   refine ⟨by simp only [List.length_append,List.length_singleton]; omega,?_⟩
   refine ⟨by decide,[.int .i64 kx,.str tx,.int .i64 nx,.sl (encQyL lx)],rfl,rfl,?_⟩
   refine ⟨_,ih2,?_⟩
   refine ⟨by simp only [List.length_append,List.length_singleton]; omega,?_⟩
   refine ⟨by simp only [List.length_append,List.length_singleton]; omega,?_⟩
   exact rfl
theorem printR_ok (q : Qy) (hs : szQ q) (hl : checkQ globB q = 0 → VQ q ∧ (textQ q).length ≤ 2 ^ 30) : CallsTo C 33 [.agg (encQy q)] (fun r => r = .val (printQ q)) := by
 obtain ⟨k,t,n,l⟩ := q
 refine cTo' Tryz.func33 rfl rfl rfl ?_
 refine ⟨_,checkR_ok (.mk k t n l) hs,fun r hr => ?_⟩
 subst hr
 unfold printQ
 refine al_ne (fun h => ?_) (fun h => ?_)
 ·have h : ¬ checkQ globB (.mk k t n l) = 0 := h
  rw [if_neg h]
  exact rfl
 ·have h : checkQ globB (.mk k t n l) = 0 := h
  rw [if_pos h]
  obtain ⟨h1,h2⟩ := hl h
  refine ⟨_,show_ok (.mk k t n l) h1 h2,fun r hr => ?_⟩
  subst hr
  exact rfl
theorem sizeR_ok (q : Qy) (hs : szQ q) : CallsTo C 34 [.agg (encQy q)] (fun r => r = .val (.int .i64 (if checkQ globB q = 0 then q.parts else 0 : Nat))) := by
 have hcn := count_ok q hs 200 12 (by decide) (by decide)
 have hp : checkQ globB q = 0 → countF q 200 12 = q.parts := fun h => by
  have hfit : fitsQ q 200 12 := by
   unfold checkQ at h
   apply Classical.byContradiction
   intro hn
   rw [if_neg hn] at h
   cases h
  exact (count_spec q 200 12).1 hfit
 obtain ⟨k,t,n,l⟩ := q
 refine cTo' Tryz.func34 rfl rfl rfl ?_
 refine ⟨_,checkR_ok (.mk k t n l) hs,fun r hr => ?_⟩
 subst hr
 refine al_ne (fun h => ?_) (fun h => ?_)
 ·have h : ¬ checkQ globB (.mk k t n l) = 0 := h
  rw [if_neg h]
  exact rfl
 ·have h : checkQ globB (.mk k t n l) = 0 := h
  rw [if_pos h]
  rw [hp h] at hcn
  refine ⟨_,hcn,fun r hr => ?_⟩
  subst hr
  exact rfl
theorem check_law_ok (q : Qy) (hs : szQ q) : CallsTo C 8 [.agg (encQy q)] (fun r => r = .val (.bool true)) := by
 have hg := greatQ_ok q hs
 have hl : greatQ q = false → checkQ globB q = 0 → VQ q ∧ (textQ q).length ≤ 2 ^ 30 := fun h hc => ⟨(small_text h hc).1,by have := (small_text h hc).2; omega⟩
 have hp : greatQ q = false → CallsTo C 32 [.agg (encQy q)] (fun r => r = .val (printQ q)) := fun h => print_ok q hs (hl h)
 have hr : greatQ q = false → CallsTo C 33 [.agg (encQy q)] (fun r => r = .val (printQ q)) := fun h => printR_ok q hs (hl h)
 have hpr : ∃ (s : Bytes) (e : Int),printQ q = .tup [.str s,.int .i64 e] := by
  unfold printQ
  split
  ·exact ⟨_,_,rfl⟩
  ·exact ⟨_,_,rfl⟩
 have c1 := check_ok q hs
 have c2 := checkR_ok q hs
 have s1 := size_ok q hs
 have s2 := sizeR_ok q hs
 obtain ⟨s,e,he⟩ := hpr
 rw [he] at hp hr
 generalize checkQ globB q = cc at c1 c2
 generalize hnn : ((if checkQ globB q = 0 then q.parts else 0 : Nat) : Int) = nn at s1 s2
 obtain ⟨k,t,n,l⟩ := q
 refine cTo' Tryz.func8 rfl rfl rfl ?_
 refine ⟨_,hg,fun r h => ?_⟩
 subst h
 cases hgr : greatQ (.mk k t n l) with
 | true =>
   refine ⟨_,awakeL_ok,fun r h => ?_⟩
   subst h
   exact rfl
 | false =>
   have hp := hp hgr
   have hr := hr hgr
   refine ⟨_,hp,fun r h => ?_⟩
   subst h
   refine ⟨_,hr,fun r h => ?_⟩
   subst h
   refine lex2 26 (by kernel_rfl) ?_
   refine ⟨_,c1,?_⟩
   refine ⟨_,c2,?_⟩
   refine al_eq (fun _ => ?_) (fun h => absurd rfl h)
   refine ⟨_,s1,?_⟩
   refine ⟨_,s2,?_⟩
   refine al_eq (fun _ => ?_) (fun h => absurd rfl h)
   refine al_eq (fun _ => ?_) (fun h => absurd rfl h)
   refine al_eq (fun _ => ?_) (fun h => absurd rfl h)
   refine ⟨_,awakeL_ok,?_⟩
   exact rfl
end Qv

