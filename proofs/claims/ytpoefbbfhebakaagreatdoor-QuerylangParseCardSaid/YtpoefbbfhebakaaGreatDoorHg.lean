/- Several texts in one: The reference's reader of queries: the contracts of blank, letter, word, fail and kind and what follows. No condition. -/
import Derived.Test.YtpoefbbfhebakaaGreatDoorHd
import Derived.Test.YtpoefbbfhebakaaGreatDoorHf
set_option linter.unusedVariables false
set_option linter.unusedSimpArgs false

section
open Go Go.Proofs Go.RowKit
namespace Qv
def Suf (s u : Bytes) : Prop := ∃ p,s = p ++ u
def offR (s u : Bytes) : Nat := s.length - u.length
def encR (s u : Bytes) (b : Bool) : List AV := [.str s,.int .i64 (offR s u : Int),.bool b]
theorem Suf.refl (s : Bytes) : Suf s s := ⟨[],rfl⟩
theorem Suf.tail {s : Bytes} {c : UInt8} {r : Bytes} (h : Suf s (c :: r)) : Suf s r := by
 obtain ⟨p,rfl⟩ := h
 exact ⟨p ++ [c],by simp⟩
theorem Suf.app {s p u : Bytes} (h : Suf s (p ++ u)) : Suf s u := by
 obtain ⟨q,rfl⟩ := h
 exact ⟨q ++ p,by simp⟩
theorem Suf.len {s u : Bytes} (h : Suf s u) : u.length ≤ s.length := by
 obtain ⟨p,rfl⟩ := h
 simp
theorem Suf.at {s : Bytes} {c : UInt8} {r : Bytes} (h : Suf s (c :: r)) : s[offR s (c :: r)]? = some c := by
 obtain ⟨p,rfl⟩ := h
 unfold offR
 have : (p ++ c :: r).length - (c :: r).length = p.length := by simp
 rw [this]
 simp
theorem Suf.drop {s u : Bytes} (h : Suf s u) : s.drop (offR s u) = u := by
 obtain ⟨p,rfl⟩ := h
 unfold offR
 have : (p ++ u).length - u.length = p.length := by simp
 rw [this,List.drop_left]
theorem Suf.unbl {s u : Bytes} (h : Suf s u) : Suf s (unbl u) := by
 obtain ⟨b,-,e⟩ := split_bl u
 rw [e] at h
 exact h.app
theorem Suf.dropW {s u : Bytes} (h : Suf s u) : Suf s (u.dropWhile letterB) := by
 have e : u = u.takeWhile letterB ++ u.dropWhile letterB := (List.takeWhile_append_dropWhile).symm
 rw [e] at h
 exact h.app
theorem offR_nil (s : Bytes) : offR s [] = s.length := Nat.sub_zero _
theorem offR_lt {s : Bytes} {c : UInt8} {r : Bytes} (h : Suf s (c :: r)) : offR s (c :: r) < s.length := by
 have := h.len
 unfold offR
 simp at this ⊢
 omega
theorem offR_tail {s : Bytes} {c : UInt8} {r : Bytes} (h : Suf s (c :: r)) : offR s r = offR s (c :: r) + 1 := by
 have := h.len
 unfold offR
 simp at this ⊢
 omega
theorem offR_le (s u : Bytes) : offR s u ≤ s.length := Nat.sub_le _ _
theorem offR_app {s p u : Bytes} (h : Suf s (p ++ u)) : offR s u = offR s (p ++ u) + p.length := by
 have := h.len
 unfold offR
 simp at this ⊢
 omega
theorem unbl_cons (c : UInt8) (r : Bytes) : unbl (c :: r) = if isBl c = true then unbl r else c :: r := by
 show (c :: r).dropWhile isBl = _
 rw [List.dropWhile_cons]
 rfl
theorem isBl_iff (c : UInt8) : isBl c = true ↔ c = 32 ∨ c = 10 := by simp [isBl]
theorem blankR_ok (s : Bytes) (hs : s.length ≤ 2 ^ 40) (u : Bytes) (b : Bool) (hu : Suf s u) : CallsTo C 64 [.agg (encR s u b)] (fun r => r = .val (.agg (encR s (unbl u) b))) := by
 refine cTo' Tryz.func64 rfl rfl rfl ?_
 generalize hV : unbl u = V
 refine loopR 30 (fun x : Bytes => [(1,.ptr 1 0),(2,.ptr 2 0)]) (fun x => [(1,mapP (encR s x b)),(2,mapP [.str [],.int .i64 0,.bool false])]) (fun x => Suf s x ∧ unbl x = V) (fun x => x.length) u ⟨hu,hV⟩ rfl ⟨wR,wR,trivial⟩ ⟨hO1 rfl,hO1 rfl,trivial⟩ ?_
 rintro x ⟨h1,h2⟩
 cases x with
 | nil =>
   have e : offR s [] = s.length := offR_nil s
   refine ⟨none,?_⟩
   refine al_dec (fun h => absurd (show (offR s [] : Int) < (s.length : Int) from h) (by omega)) (fun _ => ?_)
   rw [← h2]
   exact rfl
 | cons c r =>
   have hlt := offR_lt h1
   have ht := offR_tail h1
   have hw : IntKind.i64.wrap ((offR s (c :: r) : Int) + 1) = (offR s r : Int) := by rw [wrap64 (by omega) (by omega)]; omega
   rw [unbl_cons] at h2
   refine ⟨none,?_⟩
   refine al_dec (fun _ => ?_) (fun h => absurd (show (offR s (c :: r) : Int) < (s.length : Int) by omega) h)
   refine ⟨by omega,c,idx_str rfl h1.at,?_⟩
   refine al_eq (fun h => ?_) (fun h3 => ?_)
   ·have h : c = 32 := u8_eq (d := 32) h
    rw [if_pos ((isBl_iff c).2 (.inl h))] at h2
    exact ⟨_,hw,roundR r ⟨h1.tail,h2⟩ (by show r.length < r.length + 1; omega) rfl ⟨wR,wR,trivial⟩ ⟨hO1 rfl,hO1 rfl,trivial⟩⟩
   ·have h3 : ¬ (c.toNat : Int) = 32 := h3
    refine ⟨by omega,c,idx_str rfl h1.at,?_⟩
    refine al_eq (fun h => ?_) (fun h4 => ?_)
    ·have h : c = 10 := u8_eq (d := 10) h
     rw [if_pos ((isBl_iff c).2 (.inr h))] at h2
     exact ⟨_,hw,roundR r ⟨h1.tail,h2⟩ (by show r.length < r.length + 1; omega) rfl ⟨wR,wR,trivial⟩ ⟨hO1 rfl,hO1 rfl,trivial⟩⟩
    ·have h4 : ¬ (c.toNat : Int) = 10 := h4
     rw [if_neg (by rw [isBl_iff]; rintro (rfl | rfl); exact h3 rfl; exact h4 rfl)] at h2
     rw [← h2]
     exact rfl
theorem letterR_ok (c : UInt8) : CallsTo C 157 [.int .u8 c.toNat] (fun r => r = .val (.bool (letterB c))) := by
 rw [letterB_eq]
 refine cTo' Tryz.func157 rfl rfl rfl ?_
 refine ⟨none,?_⟩
 refine al_dec (fun h1 => ?_) (fun h1 => ?_)
 ·rw [decide_eq_true (show 97 ≤ (c.toNat : Int) from h1)]
  refine al_dec (fun h2 => ?_) (fun h2 => ?_)
  ·rw [decide_eq_true (show (c.toNat : Int) ≤ 122 from h2)]
   exact rfl
  ·rw [decide_eq_false (show ¬ (c.toNat : Int) ≤ 122 from h2),decide_eq_false (show ¬ (c.toNat : Int) ≤ 57 from fun h => by have : ¬ (c.toNat : Int) ≤ 122 := h2; omega)]
   refine al_dec (fun h3 => ?_) (fun h3 => ?_)
   ·refine al_dec (fun h4 => absurd h4 ?_) (fun h4 => ?_)
    ·intro h4
     have h4 : (c.toNat : Int) ≤ 57 := h4
     have : ¬ (c.toNat : Int) ≤ 122 := h2
     omega
    ·simp only [Bool.and_false,Bool.or_false]
     exact rfl
   ·exact absurd h3 (by have : 97 ≤ (c.toNat : Int) := h1; show ¬ ¬ (48 : Int) ≤ (c.toNat : Int); omega)
 ·rw [decide_eq_false (show ¬ 97 ≤ (c.toNat : Int) from h1)]
  refine al_dec (fun h3 => ?_) (fun h3 => ?_)
  ·rw [decide_eq_true (show 48 ≤ (c.toNat : Int) from h3)]
   refine al_dec (fun h4 => ?_) (fun h4 => ?_)
   ·rw [decide_eq_true (show (c.toNat : Int) ≤ 57 from h4)]
    exact rfl
   ·rw [decide_eq_false (show ¬ (c.toNat : Int) ≤ 57 from h4)]
    exact rfl
  ·rw [decide_eq_false (show ¬ 48 ≤ (c.toNat : Int) from h3)]
   exact rfl
theorem wordR_ok (s : Bytes) (hs : s.length ≤ 2 ^ 40) (u : Bytes) (b : Bool) (hu : Suf s u) : CallsTo C 119 [.agg (encR s u b)] (fun r => r = .val (.str (u.takeWhile letterB))) := by
 refine cTo' Tryz.func119 rfl rfl rfl ?_
 refine loopR 26 (fun x : Bytes => [(1,.ptr 1 0),(3,.p (.int .i64 (offR s x)))]) (fun _ => [(1,mapP (encR s u b))]) (fun x => Suf s x ∧ ∃ p,u = p ++ x ∧ ∀ c,c ∈ p → letterB c = true) (fun x => x.length) u ⟨hu,[],rfl,fun c hc => by cases hc⟩ rfl ⟨wR,wR,trivial⟩ ⟨hO1 rfl,trivial⟩ ?_
 rintro x ⟨h1,p,h2,h3⟩
 have fin : sepB x → ∀ (lo hi : Nat),lo = offR s u → hi = offR s x → (s.take hi).drop lo = u.takeWhile letterB ∧ lo ≤ hi ∧ hi ≤ s.length := fun hz lo hi e1 e2 => by
  have hu' := hu
  rw [h2] at hu'
  have e3 := offR_app hu'
  rw [← h2] at e3
  obtain ⟨t1,t2⟩ := take_sep h3 hz
  have := offR_le s x
  refine ⟨?_,by omega,by omega⟩
  rw [e1,e2,e3,List.drop_take,hu.drop,Nat.add_sub_cancel_left,h2,t1,List.take_left]
 cases x with
 | nil =>
   have e : offR s [] = s.length := offR_nil s
   obtain ⟨f1,f2,f3⟩ := fin (fun c hc => by cases hc) _ _ rfl rfl
   refine ⟨none,?_⟩
   refine al_dec (fun h => absurd (show (offR s [] : Int) < (s.length : Int) from h) (by omega)) (fun _ => ?_)
   refine ⟨offR s [],rfl,offR s u,rfl,f2,f3,_,f1,?_⟩
   exact rfl
 | cons c r =>
   have hlt := offR_lt h1
   have ht := offR_tail h1
   have hw : IntKind.i64.wrap ((offR s (c :: r) : Int) + 1) = (offR s r : Int) := by rw [wrap64 (by omega) (by omega)]; omega
   refine ⟨none,?_⟩
   refine al_dec (fun _ => ?_) (fun h => absurd (show (offR s (c :: r) : Int) < (s.length : Int) by omega) h)
   refine ⟨by omega,c,idx_str rfl h1.at,?_⟩
   refine ⟨_,letterR_ok c,fun q hq => ?_⟩
   subst hq
   cases hc : letterB c with
   | true =>
     refine ⟨_,hw,roundR r ⟨h1.tail,p ++ [c],by rw [h2]; simp,fun d hd => ?_⟩ (by show r.length < r.length + 1; omega) rfl ⟨wR,wR,trivial⟩ ⟨hO1 rfl,trivial⟩⟩
     rcases List.mem_append.1 hd with hd | hd
     ·exact h3 d hd
     ·rw [List.mem_singleton.1 hd]; exact hc
   | false =>
     obtain ⟨f1,f2,f3⟩ := fin (fun d hd => by obtain rfl := Option.some.inj hd; exact hc) _ _ rfl rfl
     refine ⟨offR s (c :: r),rfl,offR s u,rfl,f2,f3,_,f1,?_⟩
     exact rfl
theorem failR_ok (s u : Bytes) (b : Bool) : CallsTo C 175 [.agg (encR s u b)] (fun r => r = .val (.agg (encR s u true))) := by
 refine cTo' Tryz.func175 rfl rfl rfl ?_
 exact rfl
theorem kindR_ok (w : Bytes) : CallsTo C 176 [.str w] (fun r => r = .val (.int .i64 (kindR w : Nat))) := by
 refine cTo' Tryz.func176 rfl rfl rfl ?_
 refine ⟨_,words_ok,fun q hq => ?_⟩
 subst hq
 have hX : findW w 1 (wordsB.drop 1) = wordIx w := rfl
 unfold kindR
 generalize wordIx w = X at hX ⊢
 refine loopR 19 (fun k : Nat => [(0,.p (.str w)),(3,.p (encS wordsB)),(4,.p (.int .i64 (k + 1 : Nat)))]) (fun _ => []) (fun k => k ≤ 13 ∧ findW w (k + 1) ((wordsB.drop 1).drop k) = X) (fun k => 13 - k) 0 ⟨by omega,hX⟩ rfl ⟨wR,wR,wR,trivial⟩ trivial ?_
 rintro k ⟨hk,hf⟩
 have hw : IntKind.i64.wrap (((k + 1 : Nat) : Int) + 1) = ((k + 1 + 1 : Nat) : Int) := by rw [wrap64 (by omega) (by omega)]; omega
 refine al_dec (fun hlt => ?_) (fun hge => ?_)
 ·have hlt : ((k + 1 : Nat) : Int) < ((14 : Nat) : Int) := hlt
  have hkl : k < (wordsB.drop 1).length := by show k < 13; omega
  have hget : (wordsB.drop 1)[k] = wordB (k + 1) := by
   have : ∀ k : Fin 13,(wordsB.drop 1)[k.val]? = some (wordB (k.val + 1)) := by decide +kernel
   have h2 := this ⟨k,hkl⟩
   rw [List.getElem?_eq_getElem hkl] at h2
   exact Option.some.inj h2
  rw [List.drop_eq_getElem_cons hkl,findW,hget] at hf
  refine ⟨by omega,_,words_get (k + 1) (by omega),rfl,?_⟩
  refine al_eq (fun e => ?_) (fun hne => ?_)
  ·have e : wordB (k + 1) = w := e
   rw [if_pos e] at hf
   subst hf
   exact rfl
  ·have hne : ¬ wordB (k + 1) = w := hne
   rw [if_neg hne] at hf
   exact ⟨_,hw,roundR (k + 1) ⟨by omega,hf⟩ (by show 13 - (k + 1) < 13 - k; omega) rfl ⟨wR,wR,wR,trivial⟩ trivial⟩
 ·have hge : ¬ ((k + 1 : Nat) : Int) < ((14 : Nat) : Int) := hge
  obtain rfl : k = 13 := by omega
  have hf : none = X := hf
  subst hf
  exact rfl
end Qv

end

section
open Go Go.Proofs Go.RowKit
namespace Qv
theorem textR_ok (s : Bytes) (hs : s.length ≤ 2 ^ 40) (u : Bytes) (hu : Suf s u) : CallsTo C 177 [.agg (encR s u false)] (fun q => q = .val (.tup [.str (textR u).1,.agg (encR s (textR u).2.1 (textR u).2.2)])) := by
 have hv := hu.unbl
 refine cTo' Tryz.func177 rfl rfl rfl ?_
 refine ⟨_,blankR_ok s hs u false hu,fun q hq => ?_⟩
 subst hq
 cases hV : unbl u with
 | nil =>
   have hT : textR u = ([],[],true) := by unfold textR; rw [hV]
   have e : offR s [] = s.length := offR_nil s
   have hw : IntKind.i64.wrap ((offR s [] : Int) + 1) = (offR s [] : Int) + 1 := wrap64 (by omega) (by omega)
   refine ⟨_,hw,?_⟩
   refine ⟨none,?_⟩
   refine al_eq (fun _ => ?_) (fun h => absurd (show (offR s [] : Int) = (s.length : Int) by omega) h)
   refine ⟨_,failR_ok s [] false,fun q hq => ?_⟩
   subst hq
   rw [hT]
   exact rfl
 | cons c r =>
   rw [hV] at hv
   have hlt := offR_lt hv
   have ht := offR_tail hv
   have hw : IntKind.i64.wrap ((offR s (c :: r) : Int) + 1) = (offR s r : Int) := by rw [wrap64 (by omega) (by omega)]; omega
   refine ⟨_,hw,?_⟩
   refine ⟨none,?_⟩
   refine al_eq (fun h => absurd (show (offR s (c :: r) : Int) = (s.length : Int) from h) (by omega)) (fun _ => ?_)
   refine ⟨by omega,c,idx_str rfl hv.at,?_⟩
   refine al_ne (fun h => ?_) (fun h => ?_)
   ·have h : ¬ (c.toNat : Int) = 34 := h
    have hT : textR u = ([],c :: r,true) := by
     unfold textR
     rw [hV]
     exact if_neg (by rintro rfl; exact h rfl)
    refine ⟨_,failR_ok s (c :: r) false,fun q hq => ?_⟩
    subst hq
    rw [hT]
    exact rfl
   have hc : c = 34 := u8_eq (d := 34) h
   subst hc
   have hT1 : strGo r = none → textR u = ([],34 :: r,true) := fun h => by
    unfold textR
    rw [hV]
    simp only [if_true,h]
   have hT2 : ∀ p,strGo r = some p → textR u = (p.1,p.2,false) := fun p h => by
    unfold textR
    rw [hV]
    simp only [if_true,h]
   refine loopR 90 (fun x : Bytes × Bytes => [(1,.ptr 1 0),(3,.ptr 3 0),(4,.tip 8 5 1 (encB x.2)),(5,.p (.int .i64 (offR s x.1)))]) (fun _ => [(1,mapP (encR s (34 :: r) false)),(3,mapP [.str [],.int .i64 0,.bool false])])
    (fun x => Suf s x.1 ∧ x.2.length + x.1.length ≤ s.length ∧ strGo r = (strGo x.1).map fun p => (x.2 ++ p.1,p.2)) (fun x => x.1.length) (r,[]) ⟨hv.tail,by have := hv.len; simp at this ⊢; omega,by cases strGo r <;> rfl⟩ rfl ⟨wR,wR,wR,wR,trivial⟩ ⟨hO1 rfl,hO1 rfl,trivial⟩ ?_
   rintro ⟨x,out⟩ ⟨h1,h0,h2⟩
   have h1 : Suf s x := h1
   have h0 : out.length + x.length ≤ s.length := h0
   have h2 : strGo r = (strGo x).map fun p => (out ++ p.1,p.2) := h2
   have bad : strGo x = none → (fun q => q = Ret.val (.tup [.str (textR u).1,.agg (encR s (textR u).2.1 (textR u).2.2)])) (.val (.tup [.str [],.agg (encR s (34 :: r) true)])) := fun h => by
    rw [h] at h2
    rw [hT1 h2]
   refine ⟨none,?_⟩
   cases x with
   | nil =>
     have e : offR s [] = s.length := offR_nil s
     refine al_dec (fun h => absurd (show (offR s [] : Int) < (s.length : Int) from h) (by omega)) (fun _ => ?_)
     refine al_eq (fun _ => ?_) (fun h => absurd (show (offR s [] : Int) = (s.length : Int) by omega) h)
     refine ⟨_,failR_ok s (34 :: r) false,fun q hq => ?_⟩
     subst hq
     exact bad rfl
   | cons d x =>
     have hlt1 := offR_lt h1
     have ht1 := offR_tail h1
     have hw1 : IntKind.i64.wrap ((offR s (d :: x) : Int) + 1) = (offR s x : Int) := by rw [wrap64 (by omega) (by omega)]; omega
     rw [strGo_cons] at h2 bad
     simp only [List.length_cons] at h0
     refine al_dec (fun _ => ?_) (fun h => absurd (show (offR s (d :: x) : Int) < (s.length : Int) by omega) h)
     refine ⟨by omega,d,idx_str rfl h1.at,?_⟩
     refine al_ne (fun h => ?_) (fun h => ?_)
     ·have h34 : ¬ d = 34 := by rintro rfl; exact h rfl
      rw [if_neg h34] at h2 bad
      refine ⟨by omega,d,idx_str rfl h1.at,?_⟩
      have put : ∀ (o2 : Bytes),encB out ++ [[.int .u8 (d.toNat : Int)]] = encB (out ++ [d]) := fun _ => (encB_app out [d]).symm
      refine al_eq (fun h5 => ?_) (fun h5 => ?_)
      ·have h92 : d = 92 := u8_eq (d := 92) h5
       rw [if_pos h92] at h2 bad
       refine ⟨_,hw1,?_⟩
       refine ⟨none,?_⟩
       cases x with
       | nil =>
         have e : offR s [] = s.length := offR_nil s
         refine al_eq (fun _ => ?_) (fun h => absurd (show (offR s [] : Int) = (s.length : Int) by omega) h)
         refine ⟨_,failR_ok s (34 :: r) false,fun q hq => ?_⟩
         subst hq
         exact bad rfl
       | cons e x =>
         have h3 := h1.tail
         have hlt2 := offR_lt h3
         have ht2 := offR_tail h3
         have hw2 : IntKind.i64.wrap ((offR s (e :: x) : Int) + 1) = (offR s x : Int) := by rw [wrap64 (by omega) (by omega)]; omega
         simp only at h2 bad
         simp only [List.length_cons] at h0
         refine al_eq (fun h => absurd (show (offR s (e :: x) : Int) = (s.length : Int) from h) (by omega)) (fun _ => ?_)
         refine ⟨by omega,e,idx_str rfl h3.at,?_⟩
         have go : (e = 34 ∨ e = 92) → strGo r = (strGo x).map (fun p => ((out ++ [e]) ++ p.1,p.2)) := fun he => by
          rw [if_pos he] at h2
          rw [h2]
          cases strGo x with
          | none => rfl
          | some p => simp
         have put : encB out ++ [[.int .u8 (e.toNat : Int)]] = encB (out ++ [e]) := (encB_app out [e]).symm
         refine al_ne (fun h6 => ?_) (fun h6 => ?_)
         ·have h6 : ¬ e = 34 := by rintro rfl; exact h6 rfl
          refine ⟨by omega,e,idx_str rfl h3.at,?_⟩
          refine al_ne (fun h7 => ?_) (fun h7 => ?_)
          ·have h7 : ¬ e = 92 := by rintro rfl; exact h7 rfl
           refine ⟨_,failR_ok s (34 :: r) false,fun q hq => ?_⟩
           subst hq
           exact bad (if_neg (by rintro (h | h); exact h6 h; exact h7 h))
          ·have h7 : e = 92 := u8_eq (d := 92) h7
           refine ⟨by omega,e,idx_str rfl h3.at,?_⟩
           refine ⟨encB_one out,all_one rfl,by rw [encB_len]; show (out.length + 1) * 1 ≤ _; omega,encB (out ++ [e]),put,?_⟩
           exact ⟨_,hw2,roundR (x,out ++ [e]) ⟨h3.tail,by simp; omega,go (.inr h7)⟩ (by show x.length < x.length + 1 + 1; omega) rfl ⟨wR,wR,wR,wR,trivial⟩ ⟨hO1 rfl,hO1 rfl,trivial⟩⟩
         ·have h6 : e = 34 := u8_eq (d := 34) h6
          refine ⟨by omega,e,idx_str rfl h3.at,?_⟩
          refine ⟨encB_one out,all_one rfl,by rw [encB_len]; show (out.length + 1) * 1 ≤ _; omega,encB (out ++ [e]),put,?_⟩
          exact ⟨_,hw2,roundR (x,out ++ [e]) ⟨h3.tail,by simp; omega,go (.inl h6)⟩ (by show x.length < x.length + 1 + 1; omega) rfl ⟨wR,wR,wR,wR,trivial⟩ ⟨hO1 rfl,hO1 rfl,trivial⟩⟩
      ·have h92 : ¬ d = 92 := by rintro rfl; exact h5 rfl
       rw [if_neg h92] at h2 bad
       have go : strGo r = (strGo x).map (fun p => ((out ++ [d]) ++ p.1,p.2)) := by
        rw [h2]
        cases strGo x with
        | none => rfl
        | some p => simp
       refine ⟨by omega,d,idx_str rfl h1.at,?_⟩
       refine ⟨encB_one out,all_one rfl,by rw [encB_len]; show (out.length + 1) * 1 ≤ _; omega,encB (out ++ [d]),put [],?_⟩
       exact ⟨_,hw1,roundR (x,out ++ [d]) ⟨h1.tail,by simp; omega,go⟩ (by show x.length < x.length + 1; omega) rfl ⟨wR,wR,wR,wR,trivial⟩ ⟨hO1 rfl,hO1 rfl,trivial⟩⟩
     ·have h34 : d = 34 := u8_eq (d := 34) h
      rw [if_pos h34] at h2
      have h2 : strGo r = some (out,x) := by rw [h2]; simp
      have hT := hT2 _ h2
      refine al_eq (fun h => absurd (show (offR s (d :: x) : Int) = (s.length : Int) from h) (by omega)) (fun _ => ?_)
      refine ⟨_,hw1,?_⟩
      refine lex2 4 (by kernel_rfl) ?_
      rw [hT]
      refine ⟨.p (.str out),⟨out,rfl,rfl⟩,?_⟩
      exact rfl
theorem numberR_ok (s : Bytes) (hs : s.length ≤ 2 ^ 40) (u : Bytes) (hu : Suf s u) : CallsTo C 178 [.agg (encR s u false)] (fun q => q = .val (.tup [.int .i64 ((numberR u).1 : Nat),.agg (encR s (numberR u).2.1 (numberR u).2.2)])) := by
 have hv := hu.unbl
 refine cTo' Tryz.func178 rfl rfl rfl ?_
 refine ⟨_,blankR_ok s hs u false hu,fun q hq => ?_⟩
 subst hq
 refine ⟨_,wordR_ok s hs (unbl u) false hv,fun q hq => ?_⟩
 subst hq
 have hN1 : numR ((unbl u).takeWhile letterB) = none → numberR u = (0,unbl u,true) := fun h => by unfold numberR; rw [h]
 have hN2 : ∀ n,numR ((unbl u).takeWhile letterB) = some n → numberR u = (n,(unbl u).dropWhile letterB,false) := fun n h => by unfold numberR; rw [h]
 have hL := takeAllT (unbl u)
 have hlen : ((unbl u).takeWhile letterB).length ≤ s.length := by
  have h1 := hv.len
  have h2 := (List.takeWhile_sublist letterB (l := unbl u)).length_le
  omega
 have hoff : offR s ((unbl u).dropWhile letterB) = offR s (unbl u) + ((unbl u).takeWhile letterB).length := by
  have e : unbl u = (unbl u).takeWhile letterB ++ (unbl u).dropWhile letterB := (List.takeWhile_append_dropWhile).symm
  have h := hv
  rw [e] at h
  have := offR_app h
  rw [← e] at this
  exact this
 have hle := offR_le s ((unbl u).dropWhile letterB)
 generalize (unbl u).dropWhile letterB = R at hN2 hoff hle
 generalize (unbl u).takeWhile letterB = W at hN1 hN2 hL hlen hoff
 have hR : numR W = match numGo (W.head? == some 48) false 0 W with
  | some n => if W = [] ∨ 1099511627776 < n then none else some n
  | none => none := rfl
 have hX : numGo (W.head? == some 48) (decide (0 < 0)) 0 (W.drop 0) = numGo (W.head? == some 48) false 0 W := rfl
 generalize numGo (W.head? == some 48) false 0 W = X at hX hR
 have bad : numR W = none → (fun q => q = Ret.val (.tup [.int .i64 ((numberR u).1 : Nat),.agg (encR s (numberR u).2.1 (numberR u).2.2)])) (.val (.tup [.int .i64 0,.agg (encR s (unbl u) true)])) := fun h => by
  rw [hN1 h]
  rfl
 refine loopR 60 (fun x : Nat × Nat => [(1,.ptr 1 0),(3,.ptr 3 0),(4,.p (.str W)),(5,.p (.int .i64 x.2)),(6,.p (.int .i64 x.1))]) (fun _ => [(1,mapP (encR s (unbl u) false)),(3,mapP [.str [],.int .i64 0,.bool false])])
  (fun x => x.1 ≤ W.length ∧ x.2 ≤ 2 ^ 50 ∧ numGo (W.head? == some 48) (decide (0 < x.1)) x.2 (W.drop x.1) = X) (fun x => W.length - x.1) (0,0) ⟨Nat.zero_le _,Nat.zero_le _,hX⟩ rfl ⟨wR,wR,wR,wR,wR,trivial⟩ ⟨hO1 rfl,hO1 rfl,trivial⟩ ?_
 clear hX
 rintro ⟨i,n⟩ ⟨hi,hn,hX⟩
 have hi : i ≤ W.length := hi
 have hn : n ≤ 2 ^ 50 := hn
 have hX : numGo (W.head? == some 48) (decide (0 < i)) n (W.drop i) = X := hX
 refine al_dec (fun hlt => ?_) (fun hge => ?_)
 ·have hlt : i < W.length := by
   have : (i : Int) < (W.length : Int) := hlt
   omega
  obtain ⟨c,hc⟩ : ∃ c,W[i]? = some c := ⟨_,List.getElem?_eq_getElem hlt⟩
  have hcl := hL c (List.mem_of_getElem? hc)
  have h48 : 48 ≤ c.toNat := by
   simp only [letterB,Bool.or_eq_true,Bool.and_eq_true,decide_eq_true_eq,UInt8.le_iff_toNat_le] at hcl
   have e1 : (97 : UInt8).toNat = 97 := rfl
   have e2 : (48 : UInt8).toNat = 48 := rfl
   omega
  rw [drop_at hc] at hX
  have hX : (if 57 < c.toNat ∨ (decide (0 < i) = true ∧ (W.head? == some 48) = true) ∨ 1099511627776 < n then none else numGo (W.head? == some 48) true (n * 10 + (c.toNat - 48)) (W.drop (i + 1))) = X := hX
  have hwi : IntKind.i64.wrap ((i : Int) + 1) = ((i + 1 : Nat) : Int) := by rw [wrap64 (by omega) (by omega)]; omega
  have no : (57 < c.toNat ∨ (decide (0 < i) = true ∧ (W.head? == some 48) = true) ∨ 1099511627776 < n) → numR W = none := fun h => by
   rw [if_pos h] at hX
   rw [hR,← hX]
  obtain ⟨c0,h0⟩ : ∃ c0,W[0]? = some c0 := ⟨_,List.getElem?_eq_getElem (by omega)⟩
  have hh : W.head? = some c0 := by rw [List.head?_eq_getElem?]; exact h0
  rw [hh] at no hX
  have fail : (57 < c.toNat ∨ (decide (0 < i) = true ∧ (some c0 == some 48) = true) ∨ 1099511627776 < n) → ∃ R0,CallsTo C 175 [.agg (encR s (unbl u) false)] R0 ∧ (∀ q,R0 q → q = .val (.agg (encR s (unbl u) true))) := fun _ => ⟨_,failR_ok s (unbl u) false,fun q h => h⟩
  refine ⟨none,?_⟩
  refine ⟨by omega,c,idx_str rfl hc,?_⟩
  refine al_dec (fun h1 => ?_) (fun h1 => ?_)
  ·have h1 : (c.toNat : Int) > 57 := h1
   refine ⟨_,failR_ok s (unbl u) false,fun q hq => ?_⟩
   subst hq
   exact bad (no (.inl (by omega)))
  have h1 : ¬ (c.toNat : Int) > 57 := h1
  have hm : IntKind.i64.wrap ((n : Int) * 10) = ((n * 10 : Nat) : Int) := by rw [wrap64 (by omega) (by omega)]; omega
  have hs8 : IntKind.u8.wrap ((c.toNat : Int) - 48) = ((c.toNat - 48 : Nat) : Int) := by rw [wrapU8 (by omega) (by omega)]; omega
  have hcv : IntKind.i64.wrap ((c.toNat - 48 : Nat) : Int) = ((c.toNat - 48 : Nat) : Int) := wrap64 (by omega) (by omega)
  have had : n ≤ 1099511627776 → IntKind.i64.wrap (((n * 10 : Nat) : Int) + ((c.toNat - 48 : Nat) : Int)) = ((n * 10 + (c.toNat - 48) : Nat) : Int) := fun _ => by rw [wrap64 (by omega) (by omega)]; omega
  have go : ¬ (57 < c.toNat ∨ (decide (0 < i) = true ∧ (some c0 == some 48) = true) ∨ 1099511627776 < n) → numGo (W.head? == some 48) (decide (0 < i + 1)) (n * 10 + (c.toNat - 48)) (W.drop (i + 1)) = X := fun h => by
   rw [if_neg h] at hX
   rw [hh,decide_eq_true (show 0 < i + 1 by omega)]
   exact hX
  refine al_dec (fun h2 => ?_) (fun h2 => ?_)
  ·have h2 : (i : Int) > 0 := h2
   refine ⟨by decide,c0,h0,?_⟩
   refine al_eq (fun h3 => ?_) (fun h3 => ?_)
   ·have h3 : c0 = 48 := u8_eq (d := 48) h3
    refine ⟨_,failR_ok s (unbl u) false,fun q hq => ?_⟩
    subst hq
    exact bad (no (.inr (.inl ⟨decide_eq_true (by omega),by rw [h3]; rfl⟩)))
   ·have h3 : ¬ c0 = 48 := by rintro rfl; exact h3 rfl
    refine al_dec (fun h4 => ?_) (fun h4 => ?_)
    ·have h4 : (n : Int) > 1099511627776 := h4
     refine ⟨_,failR_ok s (unbl u) false,fun q hq => ?_⟩
     subst hq
     exact bad (no (.inr (.inr (by omega))))
    ·have h4 : ¬ (n : Int) > 1099511627776 := h4
     refine ⟨_,hm,?_⟩
     refine ⟨by omega,c,idx_str rfl hc,?_⟩
     refine ⟨_,hs8,?_⟩
     refine ⟨_,hcv,?_⟩
     refine ⟨_,had (by omega),?_⟩
     exact ⟨_,hwi,roundR (i + 1,n * 10 + (c.toNat - 48)) ⟨hlt,by show n * 10 + (c.toNat - 48) ≤ 2 ^ 50; omega,go (by simp [h3]; omega)⟩ (by show W.length - (i + 1) < W.length - i; omega) rfl ⟨wR,wR,wR,wR,wR,trivial⟩ ⟨hO1 rfl,hO1 rfl,trivial⟩⟩
  ·have h2 : ¬ (i : Int) > 0 := h2
   refine al_dec (fun h4 => ?_) (fun h4 => ?_)
   ·have h4 : (n : Int) > 1099511627776 := h4
    refine ⟨_,failR_ok s (unbl u) false,fun q hq => ?_⟩
    subst hq
    exact bad (no (.inr (.inr (by omega))))
   ·have h4 : ¬ (n : Int) > 1099511627776 := h4
    refine ⟨_,hm,?_⟩
    refine ⟨by omega,c,idx_str rfl hc,?_⟩
    refine ⟨_,hs8,?_⟩
    refine ⟨_,hcv,?_⟩
    refine ⟨_,had (by omega),?_⟩
    exact ⟨_,hwi,roundR (i + 1,n * 10 + (c.toNat - 48)) ⟨hlt,by show n * 10 + (c.toNat - 48) ≤ 2 ^ 50; omega,go (by simp; omega)⟩ (by show W.length - (i + 1) < W.length - i; omega) rfl ⟨wR,wR,wR,wR,wR,trivial⟩ ⟨hO1 rfl,hO1 rfl,trivial⟩⟩
 ·have hge : ¬ (i : Int) < (W.length : Int) := hge
  obtain rfl : i = W.length := by omega
  rw [List.drop_length] at hX
  have hX : some n = X := hX
  rw [← hX] at hR
  have hR : numR W = if W = [] ∨ 1099511627776 < n then none else some n := hR
  refine ⟨none,?_⟩
  refine al_eq (fun h => ?_) (fun h => ?_)
  ·have h : W = [] := h
   refine ⟨_,failR_ok s (unbl u) false,fun q hq => ?_⟩
   subst hq
   exact bad (by rw [hR,if_pos (.inl h)])
  ·have h : ¬ W = [] := h
   refine al_dec (fun h4 => ?_) (fun h4 => ?_)
   ·have h4 : (n : Int) > 1099511627776 := h4
    refine ⟨_,failR_ok s (unbl u) false,fun q hq => ?_⟩
    subst hq
    exact bad (by rw [hR,if_pos (.inr (by omega))])
   ·have h4 : ¬ (n : Int) > 1099511627776 := h4
    have hT := hN2 n (by rw [hR,if_neg (by rintro (h' | h'); exact h h'; omega)])
    have hw : IntKind.i64.wrap ((offR s (unbl u) : Int) + (W.length : Int)) = (offR s R : Int) := by rw [wrap64 (by omega) (by omega)]; omega
    refine ⟨_,hw,?_⟩
    refine lex2 3 (by kernel_rfl) ?_
    rw [hT]
    exact rfl
end Qv

end
