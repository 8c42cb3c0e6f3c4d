/- The reference's printing of queries: the contracts of words, Decimal, Quote, show, Print and Size. No condition. -/
import Derived.Test.YtpoefbbfhebakaaGreatDoorHT
import Derived.Test.YtpoefbbfhebakaaGreatDoorHN
import Derived.Test.YtpoefbbfhebakaaGreatDoorHY
import Derived.Test.YtpoefbbfhebakaaGreatDoorHZ
set_option linter.unusedVariables false
set_option linter.unusedSimpArgs false
open Go Go.Proofs Go.RowKit
namespace Qv
theorem words_ok : CallsTo C 110 [] (fun r => r = .val (encS wordsB)) := by
 refine cTo' Tryz.func110 rfl rfl rfl ?_
 exact .inr rfl
theorem words_get (k : Nat) (h : k ≤ 13) : (wordsB.map enc1)[((k : Nat) : Int).toNat]? = some [.str (wordB k)] := by
 rw [Int.toNat_natCast]
 have : ∀ k : Fin 14,(wordsB.map fun s => s)[k.val]? = some (wordB k.val) := by decide +kernel
 have h2 := this ⟨k,by omega⟩
 rw [List.map_id'] at h2
 rw [List.getElem?_map,h2]
 rfl
def encB (bs : Bytes) : List (List AV) := bs.map fun b => [AV.int .u8 (b.toNat : Int)]
theorem encB_app (a b : Bytes) : encB (a ++ b) = encB a ++ encB b := List.map_append
theorem encB_one (bs : Bytes) : ∀ zs,zs ∈ encB bs → zs.length = 1 := all_enc1 bs
theorem encB_len (bs : Bytes) : (encB bs).length = bs.length := List.length_map ..
theorem itoa_one (u : Nat) (h : u < 10) : Lib.itoa (u : Int) = [UInt8.ofNat (48 + u)] := by
 unfold Lib.itoa
 rw [if_neg (by omega)]
 show Lib.decDigits (Int.toNat (u : Int)) = _
 rw [Int.toNat_natCast,Lib.decDigits,dif_pos h]
theorem itoa_more (u : Nat) (h : ¬ u < 10) : Lib.itoa (u : Int) = Lib.itoa ((u / 10 : Nat) : Int) ++ [UInt8.ofNat (48 + u % 10)] := by
 unfold Lib.itoa
 rw [if_neg (by omega),if_neg (by omega)]
 show Lib.decDigits (Int.toNat (u : Int)) = Lib.decDigits (Int.toNat ((u / 10 : Nat) : Int)) ++ _
 rw [Int.toNat_natCast,Int.toNat_natCast]
 conv => lhs; rw [Lib.decDigits]
 rw [dif_neg h]
theorem decimal_ok (u : Nat) (hu : u ≤ 2 ^ 60) : CallsTo C 114 [.int .i64 (u : Int)] (fun r => r = .val (.str (Lib.itoa u))) := by
 induction u using Nat.strongRecOn with
 | _ u ih =>
 have dig : ∀ d : Nat,d < 10 → ((48 + d : Nat) : Int) = ((UInt8.ofNat (48 + d)).toNat : Int) := fun d hd => by simp; omega
 refine cTo' Tryz.func114 rfl rfl rfl ?_
 refine al_dec (fun h => absurd h (by omega)) (fun _ => ?_)
 refine al_dec (fun h => ?_) (fun h => ?_)
 ·have hu : u < 10 := by omega
  refine ⟨_,(show IntKind.i64.wrap (48 + (u : Int)) = ((48 + u : Nat) : Int) from by rw [wrap64 (by omega) (by omega)]; omega),?_⟩
  refine ⟨((48 + u : Nat) : Int),wrapU8 (by omega) (by omega),?_⟩
  refine ⟨[UInt8.ofNat (48 + u)],(by show [[AV.int .u8 ((48 + u : Nat) : Int)]] = [[AV.int .u8 ((UInt8.ofNat (48 + u)).toNat : Int)]]; rw [dig u hu]),?_⟩
  show Ret.val _ = _
  rw [itoa_one u hu]
 ·have hu' : ¬ u < 10 := by omega
  have l1 := Lib.itoa_length_le ((u / 10 : Nat) : Int) (by omega) (by omega)
  refine lex2 11 (by kernel_rfl) ?_
  refine ⟨by decide,((u / 10 : Nat) : Int),(by rw [show ((u : Int).tdiv 10) = ((u / 10 : Nat) : Int) from rfl]; exact wrap64 (by omega) (by omega)),?_⟩
  refine ⟨_,ih (u / 10) (by omega) (by omega),?_⟩
  refine ⟨by decide,((u % 10 : Nat) : Int),rfl,?_⟩
  refine ⟨_,(show IntKind.i64.wrap (48 + ((u % 10 : Nat) : Int)) = ((48 + u % 10 : Nat) : Int) from by rw [wrap64 (by omega) (by omega)]; omega),?_⟩
  refine ⟨.p (.int .u8 ((48 + u % 10 : Nat) : Int)),⟨_,wrapU8 (by omega) (by omega),rfl⟩,?_⟩
  refine ⟨_,rfl,?_⟩
  refine ⟨.p (.str [UInt8.ofNat (48 + u % 10)]),⟨[UInt8.ofNat (48 + u % 10)],(by show [[AV.int .u8 ((48 + u % 10 : Nat) : Int)]] = [[AV.int .u8 ((UInt8.ofNat (48 + u % 10)).toNat : Int)]]; rw [dig _ (by omega)]),rfl⟩,?_⟩
  refine ⟨by simp only [List.length_append,List.length_singleton]; omega,?_⟩
  show Ret.val _ = _
  rw [itoa_more u hu']
theorem escQ_snocR (t : Bytes) (c : UInt8) : escQ (t ++ [c]) = escQ t ++ (if c = 34 ∨ c = 92 then [92,c] else [c]) := by
 induction t with
 | nil =>
   by_cases h : c = 34 ∨ c = 92 <;> simp [escQ,h]
 | cons d t ih => rw [List.cons_append,escQ,escQ,ih]; split <;> simp
theorem quoteR_ok (t : Bytes) (ht : t.length ≤ 2 ^ 30) : CallsTo C 112 [.str t] (fun r => r = .val (.str (quoteQ t))) := by
 refine cTo' Tryz.func112 rfl rfl rfl ?_
 refine loopR 35 (fun k : Nat => [(0,.p (.str t)),(3,.tip 5 5 1 (encB ([34] ++ escQ (t.take k)))),(4,.p (.int .i64 k))]) (fun _ => []) (fun k => k ≤ t.length) (fun k => t.length - k) 0 (Nat.zero_le _) rfl ⟨wR,wR,wR,trivial⟩ trivial ?_
 rintro k hk
 have hk : k ≤ t.length := hk
 have hw : IntKind.i64.wrap ((k : Int) + 1) = ((k + 1 : Nat) : Int) := by rw [wrap64 (by omega) (by omega)]; omega
 have hL : ([34] ++ escQ (t.take k)).length ≤ 2 * t.length + 1 := by
  have := escQ_le (t.take k)
  have h2 : (t.take k).length ≤ t.length := List.length_take_le' _ _
  simp only [List.length_append,List.length_singleton]
  omega
 refine al_dec (fun hlt => ?_) (fun hge => ?_)
 ·have hlt : k < t.length := by
   have : (k : Int) < (t.length : Int) := hlt
   omega
  obtain ⟨c,hc⟩ : ∃ c,t[k]? = some c := ⟨_,List.getElem?_eq_getElem hlt⟩
  have htk : escQ (t.take (k + 1)) = escQ (t.take k) ++ (if c = 34 ∨ c = 92 then [92,c] else [c]) := by rw [List.take_add_one,hc]; exact escQ_snocR _ _
  generalize hA : [34] ++ escQ (t.take k) = A at hL
  have e1 : encB A ++ [[.int .u8 92]] = encB (A ++ [92]) := (encB_app A [92]).symm
  have e2 : (c = 34 ∨ c = 92) → encB (A ++ [92]) ++ [[.int .u8 (c.toNat : Int)]] = encB ([34] ++ escQ (t.take (k + 1))) := fun h => by
   have : [34] ++ escQ (t.take (k + 1)) = (A ++ [92]) ++ [c] := by rw [htk,if_pos h,← hA]; simp
   rw [this,encB_app _ [c]]
   rfl
  have e3 : ¬ (c = 34 ∨ c = 92) → encB A ++ [[.int .u8 (c.toNat : Int)]] = encB ([34] ++ escQ (t.take (k + 1))) := fun h => by
   have : [34] ++ escQ (t.take (k + 1)) = A ++ [c] := by rw [htk,if_neg h,← hA]; simp
   rw [this,encB_app _ [c]]
   rfl
  have b1 : (encB A).length = A.length := encB_len A
  have b2 : (encB (A ++ [92])).length = A.length + 1 := by rw [encB_len]; simp
  refine ⟨none,?_⟩
  refine ⟨by omega,c,idx_str rfl hc,?_⟩
  refine al_eq (fun h => ?_) (fun h1 => ?_)
  ·have h : c = 34 ∨ c = 92 := .inl (u8_eq (d := 34) h)
   refine ⟨encB_one A,all_one rfl,by rw [b1]; show (A.length + 1) * 1 ≤ _; omega,encB (A ++ [92]),e1,?_⟩
   refine ⟨by omega,c,idx_str rfl hc,?_⟩
   refine ⟨encB_one _,all_one rfl,by rw [b2]; show (A.length + 1 + 1) * 1 ≤ _; omega,encB ([34] ++ escQ (t.take (k + 1))),e2 h,?_⟩
   exact ⟨_,hw,roundR (k + 1) hlt (by show t.length - (k + 1) < t.length - k; omega) rfl ⟨wR,wR,wR,trivial⟩ trivial⟩
  ·have h1 : ¬ (c.toNat : Int) = 34 := h1
   refine ⟨by omega,c,idx_str rfl hc,?_⟩
   refine al_eq (fun h => ?_) (fun h2 => ?_)
   ·have h : c = 34 ∨ c = 92 := .inr (u8_eq (d := 92) h)
    refine ⟨encB_one A,all_one rfl,by rw [b1]; show (A.length + 1) * 1 ≤ _; omega,encB (A ++ [92]),e1,?_⟩
    refine ⟨by omega,c,idx_str rfl hc,?_⟩
    refine ⟨encB_one _,all_one rfl,by rw [b2]; show (A.length + 1 + 1) * 1 ≤ _; omega,encB ([34] ++ escQ (t.take (k + 1))),e2 h,?_⟩
    exact ⟨_,hw,roundR (k + 1) hlt (by show t.length - (k + 1) < t.length - k; omega) rfl ⟨wR,wR,wR,trivial⟩ trivial⟩
   ·have h2 : ¬ (c.toNat : Int) = 92 := h2
    have h : ¬ (c = 34 ∨ c = 92) := by rintro (rfl | rfl); exact h1 rfl; exact h2 rfl
    refine ⟨by omega,c,idx_str rfl hc,?_⟩
    refine ⟨encB_one A,all_one rfl,by rw [b1]; show (A.length + 1) * 1 ≤ _; omega,encB ([34] ++ escQ (t.take (k + 1))),e3 h,?_⟩
    exact ⟨_,hw,roundR (k + 1) hlt (by show t.length - (k + 1) < t.length - k; omega) rfl ⟨wR,wR,wR,trivial⟩ trivial⟩
 ·have hge : k = t.length := by
   have : ¬ (k : Int) < (t.length : Int) := hge
   omega
  subst hge
  rw [List.take_length] at hL
  have e4 : encB ([34] ++ escQ t) ++ [[.int .u8 34]] = encB ([34] ++ escQ t ++ [34]) := (encB_app ([34] ++ escQ t) [34]).symm
  rw [List.take_length]
  refine ⟨encB_one _,all_one rfl,by rw [encB_len]; show (_ + 1) * 1 ≤ _; omega,encB ([34] ++ escQ t ++ [34]),e4,?_⟩
  refine ⟨[34] ++ escQ t ++ [34],rfl,?_⟩
  exact rfl
end Qv

