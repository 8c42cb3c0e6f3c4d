/- The statement QuerylangLayout: blanks around a text and parentheses around it change nothing. No condition. -/
import Derived.Test.YtpoefbbfhebakaaGreatDoorBZ
import Derived.Test.YtpoefbbfhebakaaGreatDoorBX
set_option linter.unusedVariables false
set_option linter.unusedSimpArgs false
open Go Go.Proofs Go.RowKit
namespace Qv
def encBools (bs : List Bool) : AV := .sl (bs.map fun b => [.bool b])
def blF (bs : List Bool) : Bytes := bs.map fun b => if b = true then 10 else 32
theorem blF_bl (bs : List Bool) : (blF bs).all isBl = true := by
 induction bs with
 | nil => rfl
 | cons b bs ih =>
   show (isBl (if b = true then 10 else 32) && (blF bs).all isBl) = true
   rw [ih,Bool.and_true]
   cases b <;> rfl
theorem blF_len (bs : List Bool) : (blF bs).length = bs.length := List.length_map ..
theorem blanks_ok (bs : List Bool) (h : bs.length ≤ 20) : CallsTo C 37 [encBools bs] (fun r => r = .val (.str (blF bs))) := by
 refine cTo' Tryz.func37 rfl rfl rfl ?_
 refine loopR 19 (fun k : Nat => [(3,.p (.str (blF (bs.take k)))),(6,.p (encBools bs)),(7,.p (.int .i64 ((bs.map fun b => [AV.bool b]).length : Int))),(8,.p (.int .i64 k))]) (fun _ => [])
  (fun k => k ≤ bs.length) (fun k => bs.length - k) 0 (Nat.zero_le _) rfl ⟨wR,wR,wR,wR,trivial⟩ trivial ?_
 rintro k hk
 have hk : k ≤ bs.length := hk
 have hw5 : IntKind.i64.wrap ((k : Int) + 1) = ((k + 1 : Nat) : Int) := by rw [wrap64 (by omega) (by omega)]; omega
 refine al_lt (fun hlt => ?_) (fun hge => ?_)
 ·have hlt : k < bs.length := hlt
  obtain ⟨b,hb⟩ : ∃ b,bs[k]? = some b := ⟨_,List.getElem?_eq_getElem hlt⟩
  have htk : blF (bs.take (k + 1)) = blF (bs.take k) ++ [if b = true then 10 else 32] := by
   unfold blF
   rw [List.take_add_one,hb,List.map_append]
   rfl
  have hl : (blF (bs.take k)).length ≤ 20 := by rw [blF_len,List.length_take]; omega
  refine ⟨by omega,[.bool b],(show (bs.map fun b => [AV.bool b])[((k : Nat) : Int).toNat]? = some [.bool b] by rw [Int.toNat_natCast,List.getElem?_map,hb]; rfl),rfl,?_⟩
  cases b with
  | true =>
    refine ⟨by show (blF (bs.take k)).length + 1 < 2 ^ 62; omega,?_⟩
    refine ⟨_,hw5,?_⟩
    exact roundR (k + 1) (show k + 1 ≤ bs.length from hlt) (by show bs.length - (k + 1) < bs.length - k; omega) rfl ⟨by rw [htk]; exact wR,wR,wR,wR,trivial⟩ trivial
  | false =>
    refine ⟨by show (blF (bs.take k)).length + 1 < 2 ^ 62; omega,?_⟩
    refine ⟨_,hw5,?_⟩
    exact roundR (k + 1) (show k + 1 ≤ bs.length from hlt) (by show bs.length - (k + 1) < bs.length - k; omega) rfl ⟨by rw [htk]; exact wR,wR,wR,wR,trivial⟩ trivial
 ·have hge : ¬ k < bs.length := hge
  obtain rfl : k = bs.length := by omega
  rw [List.take_length]
  exact rfl
theorem parse_any (s : Bytes) (h : s.length ≤ 65536) : ∃ (k : Int) (t : Bytes) (n : Int) (l : List Qy) (i : Nat) (c : Int),parseQ s = parsed (.mk k t n l) i c ∧ szQ (.mk k t n l) := by
 rcases parse_cases2 s h with ⟨⟨k,t,n,l⟩,-,hq,-,e⟩ | ⟨i,c,-,e⟩
 ·exact ⟨k,t,n,l,_,_,e,hq⟩
 ·exact ⟨0,[],0,[],i,c,e,sz_zero⟩
theorem layout_plain (s pre post : Bytes) (hs : s.length ≤ 300) (hp : pre.all isBl = true) (hp1 : pre.length ≤ 20) (hq : post.all isBl = true) (hq1 : post.length ≤ 20) :
 ∃ (k : Int) (t : Bytes) (n : Int) (l : List Qy) (i i1 : Nat) (c : Int) (k2 : Int) (t2 : Bytes) (n2 : Int) (l2 : List Qy) (i2 : Nat) (c2 : Int),
   parseQ s = parsed (.mk k t n l) i c ∧ parseQ (pre ++ s ++ post) = parsed (.mk k t n l) i1 c ∧ parseQ ([40] ++ s ++ [41]) = parsed (.mk k2 t2 n2 l2) i2 c2 ∧ szQ (.mk k t n l) ∧ szQ (.mk k2 t2 n2 l2) ∧
   (c = 0 → c2 = 0 ∧ sameQ (.mk k t n l) (.mk k2 t2 n2 l2) = true) ∧ (c = 3 → i ≤ s.length ∧ (i1 = i + pre.length ∨ (i = 0 ∧ i1 = 0) ∨ (i = s.length ∧ i1 = pre.length + s.length + post.length))) := by
 have ht1 : toks (pre ++ s ++ post) = toks (s ++ post) := by rw [List.append_assoc]; exact toks_bl hp
 have hrel := toks_post hq s.length s (Nat.le_refl _)
 have hk : (toks s).map Prod.fst = (toks (s ++ post)).map Prod.fst := by
  have := congrArg (List.map Prod.fst) hrel
  rw [List.map_map,List.map_map] at this
  exact this.symm
 have hlen : (pre ++ s ++ post).length = pre.length + s.length + post.length := by simp; omega
 obtain ⟨s1,s2⟩ := same_read hk
 obtain ⟨k2,t2,n2,l2,i2,c2,e2,z2⟩ := parse_any ([40] ++ s ++ [41]) (by simp; omega)
 obtain ⟨res,hres⟩ : ∃ res,allT (toks s) = some res := Option.ne_none_iff_exists'.1 (allT_ok (toks_ok _ s (Nat.le_refl _)))
 cases res with
 | ok q lr =>
   have hlr : lr = [] := by
    have h := hres
    rw [allT_eq] at h
    match toks s,h with
    | (t,a) :: l,h =>
      have hb : t.bad? = false := by cases t <;> first | rfl | cases h
      rw [okT_cons hb] at h
      cases hr : goT (3 * ((t,a) :: l).length + 3) .disj ((t,a) :: l) with
      | none => rw [hr] at h; cases h
      | some r =>
        rw [hr] at h
        cases r with
        | err a2 => cases h
        | ok q2 l1 =>
          have h : endK q2 l1 = some (.ok q lr) := h
          match l1,h with
          | (t1,b) :: l1,h => cases t1 <;> first | (injection h with h; injection h with _ h; exact h.symm) | cases h
   subst hlr
   have r1 := s1 q hres
   have r2 := paren_read hres
   have hsz := parse_sz (by omega) hres
   have p1 : parseQ (pre ++ s ++ post) = if checkQ globB q = 0 then parsed q 0 0 else parsed zeroQ 0 (checkQ globB q) := by
    unfold parseQ
    rw [if_neg (by omega),ht1,r1]
   have p0 : parseQ s = if checkQ globB q = 0 then parsed q 0 0 else parsed zeroQ 0 (checkQ globB q) := by
    unfold parseQ
    rw [if_neg (by omega),hres]
   have p2 : parseQ ([40] ++ s ++ [41]) = if checkQ globB q = 0 then parsed q 0 0 else parsed zeroQ 0 (checkQ globB q) := by
    unfold parseQ
    rw [if_neg (by simp; omega),r2]
   by_cases hc : checkQ globB q = 0
   ·rw [if_pos hc] at p0 p1 p2
    obtain ⟨k,t,n,l⟩ := q
    exact ⟨k,t,n,l,0,0,0,k,t,n,l,0,0,p0,p1,p2,hsz,hsz,fun _ => ⟨rfl,sameQ_refl _⟩,fun h => by cases h⟩
   ·rw [if_neg hc] at p0 p1 p2
    exact ⟨0,[],0,[],0,0,_,k2,t2,n2,l2,i2,c2,p0,p1,e2,sz_zero,z2,fun h => absurd h hc,fun _ => ⟨Nat.zero_le _,.inr (.inl ⟨rfl,rfl⟩)⟩⟩
 | err a =>
   obtain ⟨i,e,e',g1,g2,g3,g4⟩ := s2 a hres
   have p0 : parseQ s = parsed zeroQ (offT s a) 3 := by
    unfold parseQ
    rw [if_neg (by omega),hres]
   have p1 : parseQ (pre ++ s ++ post) = parsed zeroQ (offT (pre ++ s ++ post) e'.2) 3 := by
    unfold parseQ
    rw [if_neg (by omega),ht1,g4]
   refine ⟨0,[],0,[],_,_,3,k2,t2,n2,l2,i2,c2,p0,p1,e2,sz_zero,z2,fun h => (by cases h),fun _ => ⟨Nat.sub_le _ _,?_⟩⟩
   have h1 : ((toks (s ++ post)).map fun e => (e.1,e.2.1))[i]? = some (e'.1,e'.2.1) := by rw [List.getElem?_map,g2]; rfl
   rw [hrel,List.getElem?_map,g1] at h1
   have h1 : some (e.1,shB post e.1 e.2.1) = some (e'.1,e'.2.1) := h1
   injection h1 with h1
   injection h1 with h2 h3
   unfold offT
   rw [g3,← h3,hlen]
   by_cases hst : e.1 = .stop
   ·have := stop_end s.length s (Nat.le_refl _) e (List.mem_of_getElem? g1) hst
    rw [this,hst]
    exact .inr (.inr ⟨rfl,rfl⟩)
   ·have hsh : shB post e.1 e.2.1 = e.2.1 ++ post := by
     obtain ⟨t,u⟩ := e
     cases t <;> first | rfl | exact absurd rfl hst
    have hle : e.2.1.length ≤ s.length := by
     obtain ⟨A,B,hAB⟩ : ∃ A B,toks s = A ++ e :: B := List.append_of_mem (List.mem_of_getElem? g1)
     obtain ⟨x,ps,x1,-⟩ := seg_toks s.length s (Nat.le_refl _) A e B hAB
     rw [x1,List.length_append]
     omega
    rw [hsh,List.length_append]
    exact .inl (by omega)
theorem trim_nil (cut : Bytes) : CallsTo C 38 [.str [],.str cut] (fun r => r = .val (.str [])) := by
 refine cTo' Tryz.func38 rfl rfl rfl ?_
 refine ⟨none,?_⟩
 refine al_eq (fun _ => ?_) (fun h => absurd rfl h)
 exact rfl
set_option maxHeartbeats 1000000 in
theorem layout_law_ok (s : Bytes) (b1 b2 : List Bool) (hs : s.length ≤ 2 ^ 60) (hb1 : b1.length ≤ 2 ^ 60) (hb2 : b2.length ≤ 2 ^ 60) : CallsTo C 12 [.str s,encBools b1,encBools b2] (fun r => r = .val (.bool true)) := by
 refine cTo' Tryz.func12 rfl rfl rfl ?_
 have hl1 : (b1.map fun b => [AV.bool b]).length = b1.length := List.length_map ..
 have hl2 : (b2.map fun b => [AV.bool b]).length = b2.length := List.length_map ..
 refine ⟨some (fun vs => vs = [.p (.bool (decide (300 < s.length ∨ 20 < b1.length ∨ 20 < b2.length)))]),keepA (.p (.bool (decide (300 < s.length ∨ 20 < b1.length ∨ 20 < b2.length)))) 29 rfl ?_ ?_⟩
 ·refine al_dec (fun h => ?_) (fun h => ?_)
  ·have h : (s.length : Int) > 300 := h
   exact fin_b true (decide_eq_true (.inl (by omega)))
  ·have h : ¬ (s.length : Int) > 300 := h
   refine al_dec (fun h2 => ?_) (fun h2 => ?_)
   ·have h2 : ((b1.map fun b => [AV.bool b]).length : Int) > 20 := h2
    exact fin_b true (decide_eq_true (.inr (.inl (by omega))))
   ·have h2 : ¬ ((b1.map fun b => [AV.bool b]).length : Int) > 20 := h2
    refine al_dec (fun h3 => ?_) (fun h3 => ?_)
    ·have h3 : ((b2.map fun b => [AV.bool b]).length : Int) > 20 := h3
     exact fin_b true (decide_eq_true (.inr (.inr (by omega))))
    ·have h3 : ¬ ((b2.map fun b => [AV.bool b]).length : Int) > 20 := h3
     exact fin_b false (decide_eq_false (by omega))
 by_cases hbig : 300 < s.length ∨ 20 < b1.length ∨ 20 < b2.length
 ·rw [decide_eq_true hbig]
  refine ⟨_,awakeL_ok,fun r hr => ?_⟩
  subst hr
  exact rfl
 rw [decide_eq_false hbig]
 obtain ⟨k,t,n,l,i,i1,c,k2,t2,n2,l2,i2,c2,e0,e1,e2,z0,z2,h0,h3⟩ := layout_plain s (blF b1) (blF b2) (by omega) (blF_bl b1) (by rw [blF_len]; omega) (blF_bl b2) (by rw [blF_len]; omega)
 rw [blF_len,blF_len] at h3
 have p0 := parseQ_ok s (by omega)
 rw [e0] at p0
 have p0 : CallsTo C 35 [.str s] (fun r => r = .val (.tup [.agg (encQy (.mk k t n l)),.int .i64 i,.int .i64 c])) := p0
 have p1 := parseQ_ok (blF b1 ++ s ++ blF b2) (by simp [blF_len]; omega)
 rw [e1] at p1
 have p1 : CallsTo C 35 [.str (blF b1 ++ s ++ blF b2)] (fun r => r = .val (.tup [.agg (encQy (.mk k t n l)),.int .i64 i1,.int .i64 c])) := p1
 have p2 := parseQ_ok ([40] ++ s ++ [41]) (by simp; omega)
 rw [e2] at p2
 have p2 : CallsTo C 35 [.str ([40] ++ s ++ [41])] (fun r => r = .val (.tup [.agg (encQy (.mk k2 t2 n2 l2)),.int .i64 i2,.int .i64 c2])) := p2
 have hsm := sameQ_ok (.mk k t n l) z0 (.mk k t n l) z0
 rw [sameQ_refl] at hsm
 have hsm2 := sameQ_ok (.mk k t n l) z0 (.mk k2 t2 n2 l2) z2
 refine ⟨_,p0,fun r hr => ?_⟩
 subst hr
 refine ⟨_,blanks_ok b1 (by omega),fun r hr => ?_⟩
 subst hr
 refine ⟨by rw [blF_len]; omega,?_⟩
 refine ⟨_,blanks_ok b2 (by omega),fun r hr => ?_⟩
 subst hr
 refine ⟨by rw [List.length_append,blF_len,blF_len]; omega,?_⟩
 refine ⟨_,p1,fun r hr => ?_⟩
 subst hr
 refine ⟨by show 1 + s.length < 2 ^ 62; omega,?_⟩
 refine ⟨by rw [List.length_append]; show 1 + s.length + 1 < 2 ^ 62; omega,?_⟩
 refine ⟨_,p2,fun r hr => ?_⟩
 subst hr
 refine ⟨none,?_⟩
 refine al_ne (fun h => absurd rfl h) (fun _ => ?_)
 refine ⟨_,hsm,fun r hr => ?_⟩
 subst hr
 refine al_not ?_
 have rest : True := trivial
 refine al_eq (fun hc => ?_) (fun hc => ?_)
 ·have hc : c = 0 := hc
  obtain ⟨hc2,hs2⟩ := h0 hc
  subst hc; subst hc2
  rw [hs2] at hsm2
  refine al_ne (fun h => absurd rfl h) (fun _ => ?_)
  refine ⟨_,hsm2,fun r hr => ?_⟩
  subst hr
  refine al_not ?_
  refine ⟨none,?_⟩
  refine al_ne (fun _ => ?_) (fun h => absurd h (by decide))
  refine ⟨_,awakeL_ok,fun r hr => ?_⟩
  subst hr
  exact rfl
 have hc : ¬ c = 0 := hc
 refine ⟨none,?_⟩
 refine al_ne (fun _ => ?_) (fun hc3 => ?_)
 ·refine ⟨_,awakeL_ok,fun r hr => ?_⟩
  subst hr
  exact rfl
 have hc3 : c = 3 := hc3
 obtain ⟨hi,h3⟩ := h3 hc3
 have hw : IntKind.i64.wrap ((i : Int) + ((b1.map fun b => [AV.bool b]).length : Int)) = ((i + b1.length : Nat) : Int) := by rw [hl1,wrap64 (by omega) (by omega)]; omega
 refine ⟨_,hw,?_⟩
 refine al_eq (fun _ => ?_) (fun hA => ?_)
 ·refine ⟨_,awakeL_ok,fun r hr => ?_⟩
  subst hr
  exact rfl
 have hA : ¬ (i1 : Int) = ((i + b1.length : Nat) : Int) := hA
 have h3 := h3.resolve_left (by omega)
 have tail : True := trivial
 refine al_eq (fun hi0 => ?_) (fun hi0 => ?_)
 ·have hi0 : (i : Int) = 0 := hi0
  refine al_eq (fun _ => ?_) (fun hj0 => ?_)
  ·refine ⟨_,awakeL_ok,fun r hr => ?_⟩
   subst hr
   exact rfl
  ·have hj0 : ¬ (i1 : Int) = 0 := hj0
   obtain ⟨rfl,rfl⟩ := h3.resolve_left (by omega)
   refine al_dec (fun _ => ?_) (fun h => absurd (Int.le_refl _) h)
   have hmx : (if ((s.length : Nat) : Int) > 0 then ((s.length : Nat) : Int) else 0) = ((s.length : Nat) : Int) := by split <;> omega
   refine ⟨_,hmx,?_⟩
   refine ⟨s.length,rfl,Nat.le_refl _,Nat.le_refl _,s.drop s.length,by rw [List.take_length],?_⟩
   rw [List.drop_length]
   refine ⟨_,trim_nil [32,10],fun r hr => ?_⟩
   subst hr
   refine al_eq (fun _ => ?_) (fun h => absurd rfl h)
   have hw1 : IntKind.i64.wrap (((b1.map fun b => [AV.bool b]).length : Int) + (s.length : Int)) = ((b1.length + s.length : Nat) : Int) := by rw [hl1,wrap64 (by omega) (by omega)]; omega
   have hw2 : IntKind.i64.wrap (((b1.length + s.length : Nat) : Int) + ((b2.map fun b => [AV.bool b]).length : Int)) = ((b1.length + s.length + b2.length : Nat) : Int) := by rw [hl2,wrap64 (by omega) (by omega)]; omega
   refine ⟨_,hw1,?_⟩
   refine ⟨_,hw2,?_⟩
   refine al_eq (fun _ => ?_) (fun h => absurd rfl h)
   refine ⟨_,awakeL_ok,fun r hr => ?_⟩
   subst hr
   exact rfl
 ·have hi0 : ¬ (i : Int) = 0 := hi0
  obtain ⟨rfl,rfl⟩ := h3.resolve_left (by omega)
  refine al_dec (fun _ => ?_) (fun h => absurd (Int.le_refl _) h)
  have hmx : (if ((s.length : Nat) : Int) > 0 then ((s.length : Nat) : Int) else 0) = ((s.length : Nat) : Int) := by split <;> omega
  refine ⟨_,hmx,?_⟩
  refine ⟨s.length,rfl,Nat.le_refl _,Nat.le_refl _,s.drop s.length,by rw [List.take_length],?_⟩
  rw [List.drop_length]
  refine ⟨_,trim_nil [32,10],fun r hr => ?_⟩
  subst hr
  refine al_eq (fun _ => ?_) (fun h => absurd rfl h)
  have hw1 : IntKind.i64.wrap (((b1.map fun b => [AV.bool b]).length : Int) + (s.length : Int)) = ((b1.length + s.length : Nat) : Int) := by rw [hl1,wrap64 (by omega) (by omega)]; omega
  have hw2 : IntKind.i64.wrap (((b1.length + s.length : Nat) : Int) + ((b2.map fun b => [AV.bool b]).length : Int)) = ((b1.length + s.length + b2.length : Nat) : Int) := by rw [hl2,wrap64 (by omega) (by omega)]; omega
  refine ⟨_,hw1,?_⟩
  refine ⟨_,hw2,?_⟩
  refine al_eq (fun _ => ?_) (fun h => absurd rfl h)
  refine ⟨_,awakeL_ok,fun r hr => ?_⟩
  subst hr
  exact rfl
end Qv

