/- The statement QuerylangBinding, its plain part: the seven texts, their lengths, and what reading them yields. No condition. -/
import Derived.Test.YtpoefbbfhebakaaGreatDoorCc
import Derived.Test.YtpoefbbfhebakaaGreatDoorCa
set_option linter.unusedVariables false
set_option linter.unusedSimpArgs false
open Go Go.Proofs Go.RowKit
namespace Qv
theorem wordB_len3 {k : Nat} (h : k = 10 ∨ k = 11) : (wordB k).length ≤ 3 := by rcases h with rfl | rfl <;> decide
theorem text_len2 {q : Qy} (h : VQ q) : longF q = false → (textQ q).length ≤ 309 * q.parts + 302 := by
 have hp : ∀ (k : Int) (t : Bytes) (n : Int) (l : List Qy),(Qy.mk k t n l).parts = partsL l + 1 := fun _ _ _ _ => rfl
 have hl : ∀ (k : Int) (t : Bytes) (n : Int) (l : List Qy),longF (.mk k t n l) = (longL l || decide (300 < t.length)) := fun _ _ _ _ => rfl
 induction h with
 | plain k hk =>
   intro _
   rw [(textQ_plain k hk).1,hp]
   have := wordB_len k
   omega
 | text k t hk =>
   intro hL
   rw [hl] at hL
   simp only [Bool.or_eq_false_iff,decide_eq_false_iff_not] at hL
   rw [(textQ_text k t hk).1,hp]
   have := wordB_len k
   have h2 := escQ_len t
   have h3 : cntS t ≤ t.length := List.length_filter_le _ _
   simp only [quoteQ,List.length_append,List.length_singleton]
   omega
 | num k n hk hn =>
   intro _
   rw [(textQ_num k n hk).1,hp]
   have := wordB_len k
   have h2 := Lib.itoa_length_le (n : Int) (by omega) (by omega)
   simp only [List.length_append,List.length_singleton]
   omega
 | one k q hk hq ih =>
   intro hL
   rw [hl] at hL
   have hL : longF q = false := by
    simp only [Bool.or_eq_false_iff] at hL
    have := hL.1
    rw [longL_cons] at this
    simp only [Bool.or_eq_false_iff] at this
    exact this.1
   have := ih hL
   rw [(textQ_one k q hk).1,hp]
   have h1 := wordB_len k
   have h2 : partsL [q] = q.parts + 0 := rfl
   simp only [List.length_append,List.length_singleton]
   omega
 | two k p q hk hp' hq ih1 ih2 =>
   intro hL
   rw [hl] at hL
   simp only [Bool.or_eq_false_iff] at hL
   have hL := hL.1
   rw [longL_cons,longL_cons] at hL
   simp only [Bool.or_eq_false_iff] at hL
   have g1 := ih1 hL.1
   have g2 := ih2 hL.2.1
   rw [(textQ_two k p q hk).1,hp]
   have h1 := wordB_len3 (oper2 hk)
   have h2 : partsL [p,q] = p.parts + (q.parts + 0) := rfl
   simp only [List.length_append,List.length_singleton]
   omega
theorem small_text2 {q : Qy} (hg : greatQ q = false) (hc : checkQ globB q = 0) : VQ q ∧ (textQ q).length ≤ 18842 := by
 have hv := check_vq hc
 unfold greatQ at hg
 simp only [Bool.or_eq_false_iff,Bool.not_eq_false',decide_eq_true_eq] at hg
 have h1 := text_len2 hv hg.2
 have h2 : q.parts ≤ 60 := hg.1.1
 exact ⟨hv,by omega⟩
def BindP (s : Bytes) (w : Qy) : Prop := s.length ≤ 65536 ∧ szQ w ∧ allT (toks s) = some (.ok w [])
theorem bind_parse {s : Bytes} {w : Qy} (h : BindP s w) : parseQ s = if checkQ globB w = 0 then parsed w 0 0 else parsed zeroQ 0 (checkQ globB w) := by
 unfold parseQ
 rw [if_neg (by have := h.1; omega),h.2.2]
section
variable {a b c : Qy} (ha : VQ a) (hb : VQ b) (hc : VQ c) (sa : szQ a) (sb : szQ b) (sc : szQ c) (la : (textQ a).length ≤ 18842) (lb : (textQ b).length ≤ 18842) (lc : (textQ c).length ≤ 18842)
include ha hb sa sb la lb
theorem bindP5 {k : Nat} (hk : opersN k = 1) : BindP (wordB k ++ [32] ++ textQ a ++ [32,97,110,100,32] ++ textQ b) (andQ (oneQ k a) b) := by
 have := wordB_len k
 exact ⟨by simp only [List.length_append,List.length_cons,List.length_nil]; omega,sz_two (sz_one sa) sb,bind5 ha hb hk⟩
theorem bindP6 {k : Nat} (hk : opersN k = 1) : BindP (textQ b ++ [32,111,114,32] ++ wordB k ++ [10] ++ textQ a) (orQ b (oneQ k a)) := by
 have := wordB_len k
 exact ⟨by simp only [List.length_append,List.length_cons,List.length_nil]; omega,sz_two sb (sz_one sa),bind6 ha hb hk⟩
include hc sc lc
theorem bindP1 : BindP (textQ a ++ [32,97,110,100,32] ++ textQ b ++ [32,111,114,32] ++ textQ c) (orQ (andQ a b) c) :=
 ⟨by simp only [List.length_append,List.length_cons,List.length_nil]; omega,sz_two (sz_two sa sb) sc,bind1 ha hb hc⟩
theorem bindP2 : BindP (textQ a ++ [32,111,114,32] ++ textQ b ++ [32,97,110,100,32] ++ textQ c) (orQ a (andQ b c)) :=
 ⟨by simp only [List.length_append,List.length_cons,List.length_nil]; omega,sz_two sa (sz_two sb sc),bind2 ha hb hc⟩
theorem bindP3 : BindP (textQ a ++ [32,97,110,100,32] ++ textQ b ++ [32,97,110,100,32] ++ textQ c) (andQ (andQ a b) c) :=
 ⟨by simp only [List.length_append,List.length_cons,List.length_nil]; omega,sz_two (sz_two sa sb) sc,bind3' ha hb hc⟩
theorem bindP4 : BindP (textQ a ++ [32,111,114,32] ++ textQ b ++ [32,111,114,32] ++ textQ c) (orQ (orQ a b) c) :=
 ⟨by simp only [List.length_append,List.length_cons,List.length_nil]; omega,sz_two (sz_two sa sb) sc,bind4 ha hb hc⟩
theorem bindP7 : BindP ([40] ++ textQ a ++ [32,111,114,32] ++ textQ b ++ [41,97,110,100,40] ++ textQ c ++ [41]) (andQ (orQ a b) c) :=
 ⟨by simp only [List.length_append,List.length_cons,List.length_nil]; omega,sz_two (sz_two sa sb) sc,bind7 ha hb hc⟩
end
end Qv

