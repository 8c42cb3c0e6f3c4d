/- Several texts in one: The language of queries: the contracts of text and Print and what follows. No condition. -/
import Derived.Test.YtpoefbbfhebakaaGreatDoorCS
set_option linter.unusedVariables false
set_option linter.unusedSimpArgs false

section
open Go Go.Proofs Go.RowKit
namespace Qv
theorem kinds_of {k : Nat} (h : textualN k = true ∨ numericN k = true ∨ opersN k = 1 ∨ opersN k = 2 ∨ k = 1 ∨ k = 2) : k ≤ 13 := by
 rcases h with h | h | h | h | h | h
 ·have : k = 3 ∨ k = 4 ∨ k = 5 ∨ k = 8 := by simpa [textualN] using h
  omega
 ·have : k = 6 ∨ k = 7 := by simpa [numericN] using h
  omega
 ·have := opersN_one.1 h; omega
 ·unfold opersN at h
  split at h
  ·cases h
  ·split at h
   ·omega
   ·cases h
 ·omega
 ·omega
theorem text_ok (q : Qy) (h : VQ q) : (textQ q).length ≤ 2 ^ 30 → CallsTo C 60 [.agg (encQy q)] (fun r => r = .val (.str (textQ q))) := by
 induction h with
 | plain k hk =>
   intro hlen
   have h1 : textualN k = false := by rcases hk with rfl | rfl <;> rfl
   have h2 : numericN k = false := by rcases hk with rfl | rfl <;> rfl
   have h3 : opersN k = 0 := by rcases hk with rfl | rfl <;> rfl
   have hk13 : k ≤ 13 := by omega
   have e : textQ (.mk (k : Int) [] 0 []) = wordB k := by
    unfold textQ
    simp [h1,h2,h3]
   rw [e]
   refine cTo' Tryz.func60 rfl rfl rfl ?_
   refine ⟨k,rfl,by omega,_,words_at k hk13,?_⟩
   refine ⟨_,textual_ok k,fun r hr => ?_⟩
   subst hr
   rw [worded_textual,h1]
   refine ⟨_,numeric_ok k,fun r hr => ?_⟩
   subst hr
   rw [numbered_numeric,h2]
   refine ⟨_,operands_ok k,fun r hr => ?_⟩
   subst hr
   rw [opsN_oper,h3]
   refine al_eq (fun h => absurd h (by decide)) (fun _ => ?_)
   refine ⟨_,operands_ok k,fun r hr => ?_⟩
   subst hr
   rw [opsN_oper,h3]
   refine al_eq (fun h => absurd h (by decide)) (fun _ => ?_)
   exact rfl
 | text k t h1 =>
   intro hlen
   have hk13 : k ≤ 13 := kinds_of (.inl h1)
   have e : textQ (.mk (k : Int) t 0 []) = wordB k ++ [32] ++ quoteQ t := by
    unfold textQ
    simp [h1]
   rw [e] at hlen ⊢
   have hq : t.length ≤ (quoteQ t).length := by
    have := escQ_len t
    simp [quoteQ]
    omega
   simp only [List.length_append,List.length_singleton] at hlen
   refine cTo' Tryz.func60 rfl rfl rfl ?_
   refine ⟨k,rfl,by omega,_,words_at k hk13,?_⟩
   refine ⟨_,textual_ok k,fun r hr => ?_⟩
   subst hr
   rw [worded_textual,h1]
   refine ⟨by simp only [List.length_append,List.length_singleton]; omega,?_⟩
   refine ⟨_,quote_ok t (by omega),fun r hr => ?_⟩
   subst hr
   refine ⟨by simp only [List.length_append,List.length_singleton]; omega,?_⟩
   exact rfl
 | num k n h2 hn =>
   intro hlen
   have hk13 : k ≤ 13 := kinds_of (.inr (.inl h2))
   have h1 : textualN k = false := by
    have : k = 6 ∨ k = 7 := by simpa [numericN] using h2
    rcases this with rfl | rfl <;> rfl
   have e : textQ (.mk (k : Int) [] n []) = wordB k ++ [32] ++ Lib.itoa n := by
    unfold textQ
    simp [h1,h2]
   rw [e] at hlen ⊢
   simp only [List.length_append,List.length_singleton] at hlen
   refine cTo' Tryz.func60 rfl rfl rfl ?_
   refine ⟨k,rfl,by omega,_,words_at k hk13,?_⟩
   refine ⟨_,textual_ok k,fun r hr => ?_⟩
   subst hr
   rw [worded_textual,h1]
   refine ⟨_,numeric_ok k,fun r hr => ?_⟩
   subst hr
   rw [numbered_numeric,h2]
   refine ⟨by simp only [List.length_append,List.length_singleton]; omega,?_⟩
   refine ⟨_,itoaQ_ok n (by omega) (by omega),fun r hr => ?_⟩
   subst hr
   refine ⟨by simp only [List.length_append,List.length_singleton]; omega,?_⟩
   exact rfl
 | one k q h3 hq ih =>
   intro hlen
   have hk : k = 9 ∨ k = 12 ∨ k = 13 := opersN_one.1 h3
   have hk13 : k ≤ 13 := by omega
   have h1 : textualN k = false := by rcases hk with rfl | rfl | rfl <;> rfl
   have h2 : numericN k = false := by rcases hk with rfl | rfl | rfl <;> rfl
   have e : textQ (.mk (k : Int) [] 0 [q]) = wordB k ++ [32] ++ textQ q := by
    rw [textQ]
    simp [h1,h2,h3,textQL]
   rw [e] at hlen ⊢
   simp only [List.length_append,List.length_singleton] at hlen
   have ih := ih (by omega)
   obtain ⟨kx,tx,nx,lx⟩ := q
   refine cTo' Tryz.func60 rfl rfl rfl ?_
   refine ⟨k,rfl,by omega,_,words_at k hk13,?_⟩
   refine ⟨_,textual_ok k,fun r hr => ?_⟩
   subst hr
   rw [worded_textual,h1]
   refine ⟨_,numeric_ok k,fun r hr => ?_⟩
   subst hr
   rw [numbered_numeric,h2]
   refine ⟨_,operands_ok k,fun r hr => ?_⟩
   subst hr
   rw [opsN_oper,h3]
   refine al_eq (fun _ => ?_) (fun h => absurd rfl h)
   refine ⟨by simp only [List.length_append,List.length_singleton]; omega,?_⟩
   refine ⟨by decide,[.int .i64 kx,.str tx,.int .i64 nx,.sl (encQyL lx)],rfl,rfl,?_⟩
   refine ⟨_,ih,fun r hr => ?_⟩
   subst hr
   refine ⟨by simp only [List.length_append,List.length_singleton]; omega,?_⟩
   exact rfl
 | two k p q h3 hp hq ih1 ih2 =>
   intro hlen
   have hk13 : k ≤ 13 := kinds_of (.inr (.inr (.inr (.inl h3))))
   have hk : k = 10 ∨ k = 11 := by
    unfold opersN at h3
    split at h3
    ·cases h3
    ·split at h3
     ·assumption
     ·cases h3
   have h1 : textualN k = false := by rcases hk with rfl | rfl <;> rfl
   have h2 : numericN k = false := by rcases hk with rfl | rfl <;> rfl
   have e : textQ (.mk (k : Int) [] 0 [p,q]) = [40] ++ textQ p ++ [32] ++ wordB k ++ [32] ++ textQ q ++ [41] := by
    rw [textQ]
    simp [h1,h2,h3,textQL]
   rw [e] at hlen ⊢
   simp only [List.length_append,List.length_singleton] at hlen
   have ih1 := ih1 (by omega)
   have ih2 := ih2 (by omega)
   obtain ⟨kx,tx,nx,lx⟩ := q
   obtain ⟨ky,ty,ny,ly⟩ := p
   refine cTo' Tryz.func60 rfl rfl rfl ?_
   refine ⟨k,rfl,by omega,_,words_at k hk13,?_⟩
   refine ⟨_,textual_ok k,fun r hr => ?_⟩
   subst hr
   rw [worded_textual,h1]
   refine ⟨_,numeric_ok k,fun r hr => ?_⟩
   subst hr
   rw [numbered_numeric,h2]
   refine ⟨_,operands_ok k,fun r hr => ?_⟩
   subst hr
   rw [opsN_oper,h3]
   refine al_eq (fun h => absurd h (by decide)) (fun _ => ?_)
   refine ⟨_,operands_ok k,fun r hr => ?_⟩
   subst hr
   rw [opsN_oper,h3]
   refine al_eq (fun _ => ?_) (fun h => absurd rfl h)
   refine lex2 18 (by kernel_rfl) ?_
   refine ⟨by decide,[.int .i64 ky,.str ty,.int .i64 ny,.sl (encQyL ly)],rfl,rfl,?_⟩
   refine ⟨_,ih1,?_⟩
   refine ⟨by simp only [List.length_append,List.length_singleton]; omega,?_⟩
   refine ⟨by simp only [List.length_append,List.length_singleton]; omega,?_⟩
   refine ⟨by simp only [List.length_append,List.length_singleton]; omega,?_⟩
   refine ⟨by simp only [List.length_append,List.length_singleton]; omega,?_⟩
   refine ⟨by decide,[.int .i64 kx,.str tx,.int .i64 nx,.sl (encQyL lx)],rfl,rfl,?_⟩
   refine ⟨_,ih2,?_⟩
   refine ⟨by simp only [List.length_append,List.length_singleton]; omega,?_⟩
   refine ⟨by simp only [List.length_append,List.length_singleton]; omega,?_⟩
   exact rfl
def printQ (q : Qy) : AV := if checkQ globB q = 0 then .tup [.str (textQ q),.int .i64 0] else .tup [.str [],.int .i64 (checkQ globB q)]
theorem print_ok (q : Qy) (hs : szQ q) (hl : checkQ globB q = 0 → VQ q ∧ (textQ q).length ≤ 2 ^ 30) : CallsTo C 32 [.agg (encQy q)] (fun r => r = .val (printQ q)) := by
 obtain ⟨k,t,n,l⟩ := q
 refine cTo' Tryz.func32 rfl rfl rfl ?_
 refine ⟨_,check_ok (.mk k t n l) hs,fun r hr => ?_⟩
 subst hr
 unfold printQ
 refine al_ne (fun h => ?_) (fun h => ?_)
 ·have h : ¬ checkQ globB (.mk k t n l) = 0 := h
  rw [if_neg h]
  exact rfl
 ·have h : checkQ globB (.mk k t n l) = 0 := h
  rw [if_pos h]
  obtain ⟨h1,h2⟩ := hl h
  refine ⟨_,text_ok (.mk k t n l) h1 h2,fun r hr => ?_⟩
  subst hr
  exact rfl
end Qv

end

section
open Go Go.Proofs Go.RowKit
namespace Qv
def aw1 : Bytes := [110,111,116,32,97,117,116,104,111,114,32,34,97,110,110,34,32,97,110,100,32,112,97,116,104,32,34,115,114,99,47,42,42,34,32,111,114,32,98,101,102,111,114,101,32,53]
def aw2 : Bytes := [97,117,116,104,111,114,32,97,110,110]
def aw3 : Bytes := [40,40,110,111,116,32,97,117,116,104,111,114,32,34,97,110,110,34,32,97,110,100,32,112,97,116,104,32,34,115,114,99,47,42,42,34,41,32,111,114,32,98,101,102,111,114,101,32,53,41]
def awQ : Qy := .mk 11 [] 0 [.mk 10 [] 0 [.mk 9 [] 0 [.mk 3 [97,110,110] 0 []],.mk 5 [115,114,99,47,42,42] 0 []],.mk 6 [] 5 []]
theorem aw_text : textQ awQ = aw3 := by kernel_rfl
theorem aw_p1 : allT (toks aw1) = some (.ok awQ []) := by kernel_rfl
theorem aw_p2 : (match allT (toks aw2) with | some (.err a) => some (offT aw2 a) | _ => none) = some 7 := by kernel_rfl
theorem aw_check : checkQ globB awQ = 0 := by kernel_rfl
theorem aw_parts : awQ.parts = 6 := by kernel_rfl
theorem aw_r1 : parseQ aw1 = parsed awQ 0 0 := by
 unfold parseQ
 rw [if_neg (by decide),aw_p1]
 simp only
 rw [if_pos aw_check]
theorem aw_r2 : parseQ aw2 = parsed zeroQ 7 3 := by
 unfold parseQ
 rw [if_neg (by decide)]
 have h := aw_p2
 cases hr : allT (toks aw2) with
 | none => rw [hr] at h; cases h
 | some r =>
   rw [hr] at h
   cases r with
   | ok q l => cases h
   | err a =>
     have h : offT aw2 a = 7 := Option.some.inj h
     simp only [h]
theorem aw_sz : szQ awQ := parse_sz (by decide) aw_p1
theorem awakeL_ok : CallsTo C 31 [] (fun r => r = .val (.bool true)) := by
 have h1 := parseQ_ok aw1 (by decide)
 rw [aw_r1] at h1
 have h1 : CallsTo C 35 [.str aw1] (fun r => r = .val (.tup [.agg [.int .i64 11,.str [],.int .i64 0,.sl (encQyL [.mk 10 [] 0 [.mk 9 [] 0 [.mk 3 [97,110,110] 0 []],.mk 5 [115,114,99,47,42,42] 0 []],.mk 6 [] 5 []])],.int .i64 0,.int .i64 0])) := h1
 have h2 := parseQ_ok aw2 (by decide)
 rw [aw_r2] at h2
 have h2 : CallsTo C 35 [.str aw2] (fun r => r = .val (.tup [.agg [.int .i64 0,.str [],.int .i64 0,.sl []],.int .i64 7,.int .i64 3])) := h2
 have h3 := print_ok awQ aw_sz (fun h => ⟨vq_of _ _ (by have := aw_check; unfold checkQ at this; rw [if_pos (by decide)] at this; exact this),by rw [aw_text]; decide⟩)
 have e3 : printQ awQ = .tup [.str aw3,.int .i64 0] := by
  unfold printQ
  rw [if_pos aw_check,aw_text]
 rw [e3] at h3
 have h4 := size_ok awQ aw_sz
 rw [if_pos aw_check,aw_parts] at h4
 refine cTo' Tryz.func31 rfl rfl rfl ?_
 refine ⟨_,h1,fun r hr => ?_⟩
 subst hr
 refine ⟨_,h3,fun r hr => ?_⟩
 subst hr
 refine ⟨_,h2,fun r hr => ?_⟩
 subst hr
 refine ⟨none,?_⟩
 refine al_eq (fun _ => ?_) (fun h => absurd rfl h)
 refine al_eq (fun _ => ?_) (fun h => absurd rfl h)
 refine al_eq (fun _ => ?_) (fun h => absurd rfl h)
 refine al_eq (fun _ => ?_) (fun h => absurd rfl h)
 refine al_eq (fun _ => ?_) (fun h => absurd rfl h)
 refine ⟨_,h4,fun r hr => ?_⟩
 subst hr
 refine al_eq (fun _ => ?_) (fun h => absurd rfl h)
 exact rfl
end Qv

end
