/- The statement QuerylangRoundTrip: a printed query is read back. No condition. -/
import Derived.Test.YtpoefbbfhebakaaGreatDoorPT
import Derived.Test.YtpoefbbfhebakaaGreatDoorPW
import Derived.Test.YtpoefbbfhebakaaGreatDoorPX
import Derived.Lib.ItoaLen
set_option linter.unusedVariables false
set_option linter.unusedSimpArgs false
open Go Go.Proofs Go.RowKit
namespace Qv
theorem wordB_len (k : Nat) : (wordB k).length ≤ 7 := by
 match k with
 | 0 | 1 | 2 | 3 | 4 | 5 | 6 | 7 | 8 | 9 | 10 | 11 | 12 | 13 => decide
 | k + 14 => exact Nat.zero_le _
theorem text_len {q : Qy} (h : VQ q) : longF q = false → (textQ q).length ≤ 700 * q.parts := by
 have hp : ∀ (k : Int) (t : Bytes) (n : Int) (l : List Qy),(Qy.mk k t n l).parts = partsL l + 1 := fun _ _ _ _ => rfl
 have hl : ∀ (k : Int) (t : Bytes) (n : Int) (l : List Qy),longF (.mk k t n l) = (longL l || decide (300 < t.length)) := fun _ _ _ _ => rfl
 induction h with
 | plain k hk =>
   intro _
   rw [(textQ_plain k hk).1,hp]
   have := wordB_len k
   omega
 | text k t hk =>
   intro hL
   rw [hl] at hL
   simp only [Bool.or_eq_false_iff,decide_eq_false_iff_not] at hL
   rw [(textQ_text k t hk).1,hp]
   have := wordB_len k
   have h2 := escQ_len t
   have h3 : cntS t ≤ t.length := List.length_filter_le _ _
   simp only [quoteQ,List.length_append,List.length_singleton]
   omega
 | num k n hk hn =>
   intro _
   rw [(textQ_num k n hk).1,hp]
   have := wordB_len k
   have h2 := Lib.itoa_length_le (n : Int) (by omega) (by omega)
   simp only [List.length_append,List.length_singleton]
   omega
 | one k q hk hq ih =>
   intro hL
   rw [hl] at hL
   have hL : longF q = false := by
    simp only [Bool.or_eq_false_iff] at hL
    have := hL.1
    rw [longL_cons] at this
    simp only [Bool.or_eq_false_iff] at this
    exact this.1
   have := ih hL
   rw [(textQ_one k q hk).1,hp]
   have h1 := wordB_len k
   have h2 : partsL [q] = q.parts + 0 := rfl
   simp only [List.length_append,List.length_singleton]
   omega
 | two k p q hk hp' hq ih1 ih2 =>
   intro hL
   rw [hl] at hL
   simp only [Bool.or_eq_false_iff] at hL
   have hL := hL.1
   rw [longL_cons,longL_cons] at hL
   simp only [Bool.or_eq_false_iff] at hL
   have g1 := ih1 hL.1
   have g2 := ih2 hL.2.1
   rw [(textQ_two k p q hk).1,hp]
   have h1 := wordB_len k
   have h2 : partsL [p,q] = p.parts + (q.parts + 0) := rfl
   simp only [List.length_append,List.length_singleton]
   omega
theorem small_text {q : Qy} (hg : greatQ q = false) (hc : checkQ globB q = 0) : VQ q ∧ (textQ q).length ≤ 42000 := by
 have hv := check_vq hc
 unfold greatQ at hg
 simp only [Bool.or_eq_false_iff,Bool.not_eq_false',decide_eq_true_eq] at hg
 have h1 := text_len hv hg.2
 have h2 : q.parts ≤ 60 := hg.1.1
 exact ⟨hv,by omega⟩
theorem parse_text {q : Qy} (hv : VQ q) (hl : (textQ q).length ≤ 65536) (hc : checkQ globB q = 0) : parseQ (textQ q) = parsed q 0 0 := by
 unfold parseQ
 rw [if_neg (by omega),read_back hv]
 exact if_pos hc
theorem roundtrip_law_ok (q : Qy) (hs : szQ q) : CallsTo C 10 [.agg (encQy q)] (fun r => r = .val (.bool true)) := by
 have hg := greatQ_ok q hs
 have hpr : greatQ q = false → CallsTo C 32 [.agg (encQy q)] (fun r => r = .val (printQ q)) := fun h => print_ok q hs fun hc => ⟨(small_text h hc).1,by have := (small_text h hc).2; omega⟩
 have hck := check_ok q hs
 have hsz := size_ok q hs
 have hsm := sameQ_ok q hs q hs
 rw [sameQ_refl] at hsm
 obtain ⟨k,t,n,l⟩ := q
 refine cTo' Tryz.func10 rfl rfl rfl ?_
 refine ⟨_,hg,fun r hr => ?_⟩
 subst hr
 cases hgr : greatQ (.mk k t n l) with
 | true =>
   refine ⟨_,awakeL_ok,fun r hr => ?_⟩
   subst hr
   exact rfl
 | false =>
   have hpr := hpr hgr
   by_cases hc : checkQ globB (.mk k t n l) = 0
   ·obtain ⟨hv,hlen⟩ := small_text hgr hc
    have e : printQ (.mk k t n l) = .tup [.str (textQ (.mk k t n l)),.int .i64 0] := if_pos hc
    rw [e] at hpr
    rw [hc] at hck
    rw [if_pos hc] at hsz
    have hp := parseQ_ok (textQ (.mk k t n l)) (by omega)
    rw [parse_text hv (by omega) hc] at hp
    have hp : CallsTo C 35 [.str (textQ (.mk k t n l))] (fun r => r = .val (.tup [.agg (encQy (.mk k t n l)),.int .i64 0,.int .i64 0])) := hp
    have hpos : 0 < (Qy.mk k t n l).parts := Nat.succ_pos _
    refine ⟨_,hpr,fun r hr => ?_⟩
    subst hr
    refine al_ne (fun h => absurd rfl h) (fun _ => ?_)
    refine ⟨_,hp,fun r hr => ?_⟩
    subst hr
    refine ⟨none,?_⟩
    refine al_eq (fun _ => ?_) (fun h => absurd rfl h)
    refine al_eq (fun _ => ?_) (fun h => absurd rfl h)
    refine ⟨_,hsm,fun r hr => ?_⟩
    subst hr
    refine ⟨_,hck,fun r hr => ?_⟩
    subst hr
    refine al_eq (fun _ => ?_) (fun h => absurd rfl h)
    refine ⟨_,hsz,fun r hr => ?_⟩
    subst hr
    refine al_dec (fun _ => ?_) (fun h => absurd (by omega) h)
    refine ⟨_,awakeL_ok,fun r hr => ?_⟩
    subst hr
    exact rfl
   ·have e : printQ (.mk k t n l) = .tup [.str [],.int .i64 (checkQ globB (.mk k t n l))] := if_neg hc
    rw [e] at hpr
    rw [if_neg hc] at hsz
    refine ⟨_,hpr,fun r hr => ?_⟩
    subst hr
    refine al_ne (fun _ => ?_) (fun h => absurd h hc)
    refine ⟨none,?_⟩
    refine al_eq (fun _ => ?_) (fun h => absurd rfl h)
    refine ⟨_,hck,fun r hr => ?_⟩
    subst hr
    refine al_eq (fun _ => ?_) (fun h => absurd rfl h)
    refine ⟨_,hsz,fun r hr => ?_⟩
    subst hr
    refine al_eq (fun _ => ?_) (fun h => absurd rfl h)
    refine ⟨_,awakeL_ok,fun r hr => ?_⟩
    subst hr
    exact rfl
end Qv

