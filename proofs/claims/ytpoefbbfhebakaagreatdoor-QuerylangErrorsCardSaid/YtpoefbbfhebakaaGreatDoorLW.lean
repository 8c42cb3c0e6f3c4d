/- The statement QuerylangErrors: what lies before a syntax error reads to its end. No condition. -/
import Derived.Test.YtpoefbbfhebakaaGreatDoorLT
import Derived.Test.YtpoefbbfhebakaaGreatDoorLN
set_option linter.unusedVariables false
set_option linter.unusedSimpArgs false
open Go Go.Proofs Go.RowKit
namespace Qv
theorem vq_kind {q : Qy} (h : VQ q) : 1 ≤ q.kind := by
 cases h with
 | plain k hk => show (1 : Int) ≤ k; omega
 | text k t hk =>
   have : k = 3 ∨ k = 4 ∨ k = 5 ∨ k = 8 := by simpa [textualN] using hk
   show (1 : Int) ≤ k; omega
 | num k n hk _ =>
   have : k = 6 ∨ k = 7 := by simpa [numericN] using hk
   show (1 : Int) ≤ k; omega
 | one k q hk _ => have := opersN_one.1 hk; show (1 : Int) ≤ k; omega
 | two k p q hk _ _ =>
   show (1 : Int) ≤ k
   unfold opersN at hk
   split at hk
   ·cases hk
   ·split at hk
    ·omega
    ·cases hk
theorem check_vq {q : Qy} (h : checkQ globB q = 0) : VQ q := by
 unfold checkQ at h
 split at h
 ·exact vq_of _ _ h
 ·cases h
theorem parse_cases (s : Bytes) (h : s.length ≤ 65536) : (∃ a,allT (toks s) = some (.err a) ∧ parseQ s = parsed zeroQ (offT s a) 3) ∨
 (∃ q,checkQ globB q = 0 ∧ parseQ s = parsed q 0 0) ∨ (∃ c,c ≠ 0 ∧ parseQ s = parsed zeroQ 0 c) := by
 obtain ⟨res,hres⟩ : ∃ res,allT (toks s) = some res := Option.ne_none_iff_exists'.1 (allT_ok (toks_ok _ s (Nat.le_refl _)))
 unfold parseQ
 rw [if_neg (by omega),hres]
 cases res with
 | err a => exact .inl ⟨a,rfl,rfl⟩
 | ok q l =>
   by_cases hc : checkQ globB q = 0
   ·exact .inr (.inl ⟨q,hc,if_pos hc⟩)
   ·exact .inr (.inr ⟨_,hc,if_neg hc⟩)
theorem errors_plain (s : Bytes) (h : s.length ≤ 300) : ∃ (k : Int) (t : Bytes) (n : Int) (l : List Qy) (i : Nat) (c : Int),parseQ s = parsed (.mk k t n l) i c ∧ (c ≠ 3 → c ≠ 0 ∨ 0 < k) ∧
 (c = 3 → k = 0 ∧ i ≤ s.length ∧ (i = 0 ∨ ∃ (k2 : Int) (t2 : Bytes) (n2 : Int) (l2 : List Qy) (i2 : Nat) (c2 : Int),parseQ (s.take i) = parsed (.mk k2 t2 n2 l2) i2 c2 ∧ (c2 ≠ 3 ∨ i2 = i ∨ i2 = 0))) := by
 rcases parse_cases s (by omega) with ⟨a,ha,e⟩ | ⟨⟨k,t,n,l⟩,hq,e⟩ | ⟨c,hc,e⟩
 ·refine ⟨0,[],0,[],offT s a,3,e,fun h => absurd rfl h,fun _ => ⟨rfl,Nat.sub_le _ _,.inr ?_⟩⟩
  obtain ⟨p,e1,l2,g1,g2,g3⟩ := allT_prefix ha
  obtain ⟨x,ps,x1,x2,x3,x4⟩ := seg_toks s.length s (Nat.le_refl _) p e1 l2 g1
  have hx : s.take (offT s a) = x := by
   unfold offT
   rw [g2]
   conv => lhs; rw [x1]
   rw [show (x ++ e1.2.1).length - e1.2.1.length = x.length by rw [List.length_append]; omega]
   exact List.take_left
  have hxl : offT s a = x.length := by
   unfold offT
   rw [g2,x1,List.length_append]
   omega
  rw [hx]
  obtain ⟨p',y1,y2⟩ := x2 [] (fun _ c hc => by cases hc)
  rw [List.append_nil] at y1
  have hk : kinds p' = kinds p := by
   have z1 := congrArg (List.map Prod.fst) y2
   have z2 := congrArg (List.map Prod.fst) x3
   rw [List.map_map,List.map_map] at z1 z2
   unfold kinds
   exact z1.trans z2.symm
  have h0 : toks [] = [(.stop,([],[]))] := rfl
  rw [h0] at y1
  have hxs : x.length ≤ 300 := by rw [x1,List.length_append] at h; omega
  rcases g3 p' ([],[]) hk (y1 ▸ toks_ok _ x (Nat.le_refl _)) with r | ⟨q,r⟩
  ·refine ⟨0,[],0,[],x.length,3,?_,.inr (.inl hxl.symm)⟩
   unfold parseQ
   rw [if_neg (by omega),y1,r]
   rfl
  ·rcases parse_cases x (by omega) with ⟨b,hb,e2⟩ | ⟨⟨k2,t2,n2,l2⟩,hq2,e2⟩ | ⟨c2,hc2,e2⟩
   ·rw [y1,r] at hb; cases hb
   ·exact ⟨k2,t2,n2,l2,0,0,e2,.inl (by decide)⟩
   ·exact ⟨0,[],0,[],0,c2,e2,.inr (.inr rfl)⟩
 ·refine ⟨k,t,n,l,0,0,e,fun _ => .inr ?_,fun h => by cases h⟩
  have := vq_kind (check_vq hq)
  have : (1 : Int) ≤ k := this
  omega
 ·exact ⟨0,[],0,[],0,c,e,fun _ => .inl hc,fun _ => ⟨rfl,Nat.zero_le _,.inl rfl⟩⟩
theorem errors_law_ok (s : Bytes) (hs : s.length ≤ 2 ^ 62) : CallsTo C 14 [.str s] (fun r => r = .val (.bool true)) := by
 refine cTo' Tryz.func14 rfl rfl rfl ?_
 refine al_dec (fun h => ?_) (fun h => ?_)
 ·refine ⟨_,awakeL_ok,fun r hr => ?_⟩
  subst hr
  exact rfl
 have h : ¬ (s.length : Int) > 300 := h
 have hl : s.length ≤ 300 := by omega
 obtain ⟨k,t,n,l,i,c,e,h1,h2⟩ := errors_plain s hl
 have hp := parseQ_ok s (by omega)
 rw [e] at hp
 have hp : CallsTo C 35 [.str s] (fun r => r = .val (.tup [.agg (encQy (.mk k t n l)),.int .i64 i,.int .i64 c])) := hp
 refine ⟨_,hp,fun r hr => ?_⟩
 subst hr
 refine al_ne (fun hc => ?_) (fun hc => ?_)
 ·have hc : c ≠ 3 := hc
  have h1 := h1 hc
  refine ⟨none,?_⟩
  refine al_ne (fun hc0 => ?_) (fun hc0 => ?_)
  ·refine ⟨_,awakeL_ok,fun r hr => ?_⟩
   subst hr
   exact rfl
  ·have hc0 : c = 0 := hc0
   have hk : 0 < k := by rcases h1 with h1 | h1; exact absurd hc0 h1; exact h1
   refine al_dec (fun _ => ?_) (fun hn => absurd hk hn)
   refine ⟨_,awakeL_ok,fun r hr => ?_⟩
   subst hr
   exact rfl
 ·have hc : c = 3 := hc
  subst hc
  obtain ⟨rfl,hi,h3⟩ := h2 rfl
  refine al_eq (fun hi0 => ?_) (fun hi0 => ?_)
  ·refine ⟨none,?_⟩
   refine al_eq (fun _ => ?_) (fun h => absurd rfl h)
   refine ⟨_,awakeL_ok,fun r hr => ?_⟩
   subst hr
   exact rfl
  ·have hi0 : ¬ (i : Int) = 0 := hi0
   obtain ⟨k2,t2,n2,l2,i2,c2,e2,h4⟩ := h3.resolve_left (by omega)
   refine ⟨none,?_⟩
   refine al_dec (fun hn => absurd hn (by show ¬ (i : Int) < 0; omega)) (fun _ => ?_)
   refine al_dec (fun hn => absurd hn (by show ¬ (i : Int) > s.length; omega)) (fun _ => ?_)
   refine al_ne (fun hn => absurd rfl hn) (fun _ => ?_)
   have hp2 := parseQ_ok (s.take i) (by rw [List.length_take]; omega)
   rw [e2] at hp2
   have hp2 : CallsTo C 35 [.str (s.take i)] (fun r => r = .val (.tup [.agg (encQy (.mk k2 t2 n2 l2)),.int .i64 i2,.int .i64 c2])) := hp2
   refine ⟨i,rfl,Nat.zero_le _,hi,s.take i,rfl,?_⟩
   refine ⟨_,hp2,fun r hr => ?_⟩
   subst hr
   refine ⟨none,?_⟩
   have fin : ∀ {K : Ret → Prop},K (.val (.bool true)) → K (.val (.bool true)) := fun h => h
   refine al_ne (fun hc2 => ?_) (fun hc2 => ?_)
   ·refine ⟨_,awakeL_ok,fun r hr => ?_⟩
    subst hr
    exact rfl
   ·have hc2 : c2 = 3 := hc2
    refine al_eq (fun hi2 => ?_) (fun hi2 => ?_)
    ·refine ⟨_,awakeL_ok,fun r hr => ?_⟩
     subst hr
     exact rfl
    ·have hi2 : ¬ (i2 : Int) = i := hi2
     refine al_eq (fun hi3 => ?_) (fun hi3 => ?_)
     ·refine ⟨_,awakeL_ok,fun r hr => ?_⟩
      subst hr
      exact rfl
     ·have hi3 : ¬ (i2 : Int) = 0 := hi3
      exfalso
      rcases h4 with h4 | h4 | h4
      ·exact h4 hc2
      ·omega
      ·omega
end Qv

