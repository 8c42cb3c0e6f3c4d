/- The statement QuerylangRoundTrip: a printed query is read back. No condition. -/
import Derived.Test.YtpoefbbfhebakaaGreatDoorHT
import Derived.Test.YtpoefbbfhebakaaGreatDoorHW
import Derived.Test.YtpoefbbfhebakaaGreatDoorHX
import Derived.Lib.ItoaLen
set_option linter.unusedVariables false
set_option linter.unusedSimpArgs false
open Go Go.Proofs Go.RowKit
namespace Qv
theorem wordB_len (k : Nat) : (wordB k).length ≤ 7 := by
 match k with
 | 0 | 1 | 2 | 3 | 4 | 5 | 6 | 7 | 8 | 9 | 10 | 11 | 12 | 13 => decide
 | k + 14 => exact Nat.zero_le _
theorem text_len {q : Qy} (h : VQ q) : longF q = false → (textQ q).length ≤ 700 * q.parts := by
 have hp : ∀ (k : Int) (t : Bytes) (n : Int) (l : List Qy),(Qy.mk k t n l).parts = partsL l + 1 := fun _ _ _ _ => rfl
 have hl : ∀ (k : Int) (t : Bytes) (n : Int) (l : List Qy),longF (.mk k t n l) = (longL l || decide (300 < t.length)) := fun _ _ _ _ => rfl
 induction h with
 | plain k hk =>
   intro _
   rw [(textQ_plain k hk).1,hp]
   have := wordB_len k
   omega
 | text k t hk =>
   intro hL
   rw [hl] at hL
   simp only [Bool.or_eq_false_iff,decide_eq_false_iff_not] at hL
   rw [(textQ_text k t hk).1,hp]
   have := wordB_len k
   have h2 := escQ_len t
   have h3 : cntS t ≤ t.length := List.length_filter_le _ _
   simp only [quoteQ,List.length_append,List.length_singleton]
   omega
 | num k n hk hn =>
   intro _
   rw [(textQ_num k n hk).1,hp]
   have := wordB_len k
   have h2 := Lib.itoa_length_le (n : Int) (by omega) (by omega)
   simp only [List.length_append,List.length_singleton]
   omega
 | one k q hk hq ih =>
   intro hL
   rw [hl] at hL
   have hL : longF q = false := by
    simp only [Bool.or_eq_false_iff] at hL
    have := hL.1
    rw [longL_cons] at this
    simp only [Bool.or_eq_false_iff] at this
    exact this.1
   have := ih hL
   rw [(textQ_one k q hk).1,hp]
   have h1 := wordB_len k
   have h2 : partsL [q] = q.parts + 0 := rfl
   simp only [List.length_append,List.length_singleton]
   omega
 | two k p q hk hp' hq ih1 ih2 =>
   intro hL
   rw [hl] at hL
   simp only [Bool.or_eq_false_iff] at hL
   have hL := hL.1
   rw [longL_cons,longL_cons] at hL
   simp only [Bool.or_eq_false_iff] at hL
   have g1 := ih1 hL.1
   have g2 := ih2 hL.2.1
   rw [(textQ_two k p q hk).1,hp]
   have h1 := wordB_len k
   have h2 : partsL [p,q] = p.parts + (q.parts + 0) := rfl
   simp only [List.length_append,List.length_singleton]
   omega
theorem small_text {q : Qy} (hg : greatQ q = false) (hc : checkQ globB q = 0) : VQ q ∧ (textQ q).length ≤ 42000 := by
 have hv := check_vq hc
 unfold greatQ at hg
 simp only [Bool.or_eq_false_iff,Bool.not_eq_false',decide_eq_true_eq] at hg
 have h1 := text_len hv hg.2
 have h2 : q.parts ≤ 60 := hg.1.1
 exact ⟨hv,by omega⟩
end Qv

