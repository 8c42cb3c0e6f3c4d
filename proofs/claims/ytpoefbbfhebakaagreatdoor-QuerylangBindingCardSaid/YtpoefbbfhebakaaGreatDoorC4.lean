/- Several texts in one: The reader of a class read from a place on and what follows. No condition. -/
import Derived.Test.YtpoefbbfhebakaaGreatDoorC2
import Derived.Test.YtpoefbbfhebakaaGreatDoorC3
set_option linter.unusedVariables false
set_option linter.unusedSimpArgs false

section
open Go Go.Proofs Go.RowKit
namespace Qv
def Atom.tbl (a : Atom) : List Bool := (List.range 256).map fun i => a.fit (UInt8.ofNat i)
end Qv

end

section
open Go Go.Proofs Go.RowKit
namespace Qv
theorem allOne_bools (set : List Bool) : allOne (mapP (set.map AV.bool)) = true := by
 induction set with
 | nil => rfl
 | cons b l ih => exact ih
end Qv

end

section
open Go Go.Proofs Go.RowKit
namespace Qv
end Qv

end

section
open Go Go.Proofs Go.RowKit
namespace Qv
def asciiF (s : Bytes) : List Bool := s.foldl (fun set c => set.set c.toNat true) (List.replicate 256 false)
theorem asciiF_len (s : Bytes) : (asciiF s).length = 256 := by
 unfold asciiF
 have : ∀ (s : Bytes) (set : List Bool),(s.foldl (fun set c => set.set c.toNat true) set).length = set.length := fun s => by
  induction s with
  | nil => intro set; rfl
  | cons c s ih => intro set; rw [List.foldl_cons,ih,List.length_set]
 rw [this,List.length_replicate]
def i75 : TInfo := ⟨256,256,.array 256 4,List.replicate 256 (.bool false)⟩
section
attribute [local irreducible] evReturn
set_option maxRecDepth 100000 in
set_option maxHeartbeats 2000000 in
theorem asciiSet_ok (s : Bytes) (hs : s.length ≤ 2 ^ 30) (ha : ∀ c,c ∈ s → c.toNat < 128) : CallsTo C 67 [.str s] (fun r => r = .val (.tup [.agg ((asciiF s).map AV.bool),.bool true])) := by
 refine callsTo_of_evO ⟨[],[],false,[],[],[]⟩ [8] Tryz.func67 rfl rfl rfl ?_
 refine loopR 21 (fun k : Nat => [(0,.p (.str s)),(2,.ptr 2 0),(4,.p (.int .i64 k))]) (fun k => [(2,encSet (asciiF (s.take k)))]) (fun k => k ≤ s.length) (fun k => s.length - k) 0 (Nat.zero_le _) rfl ⟨wR,wR,wR,trivial⟩ ⟨hO1 (by kernel_rfl),trivial⟩ ?_
 intro k hk
 have hk : k ≤ s.length := hk
 have hw : IntKind.i64.wrap ((k : Int) + 1) = ((k + 1 : Nat) : Int) := by rw [wrap64 (by omega) (by omega)]; omega
 refine al_dec (fun hlt => ?_) (fun hge => ?_)
 ·have hlt : k < s.length := by
   have : (k : Int) < (s.length : Int) := hlt
   omega
  obtain ⟨c,hc⟩ : ∃ c,s[k]? = some c := ⟨_,List.getElem?_eq_getElem hlt⟩
  have hac := ha c (List.mem_of_getElem? hc)
  refine ⟨by omega,c,idx_str rfl hc,?_⟩
  refine al_dec (fun h => ?_) (fun h => ?_)
  ·have h : (c.toNat : Int) ≥ 128 := h
   omega
  ·have hcl : c.toNat < (asciiF (s.take k)).length := by rw [asciiF_len]; omega
   have ht : s.take (k + 1) = s.take k ++ [c] := by
    rw [List.take_add_one,hc]; rfl
   have hnx : asciiF (s.take (k + 1)) = (asciiF (s.take k)).set c.toNat true := by
    rw [ht]
    simp [asciiF]
   refine ⟨c.toNat,rfl,by omega,true,_,rfl,?_⟩
   refine ⟨_,_,_,encSet_split hcl,by rw [encSet_length,List.length_take,Nat.min_eq_left (by omega)]; show c.toNat = 0 + c.toNat * 1; omega,_,encSet_set hcl,?_⟩
   exact ⟨_,hw,roundR (k + 1) hlt (by show s.length - (k + 1) < s.length - k; omega) rfl ⟨wR,wR,wR,trivial⟩ ⟨hO1 (by rw [hnx]; rfl),trivial⟩⟩
 ·have hge : k = s.length := by
   have : ¬ (k : Int) < (s.length : Int) := hge
   omega
  subst hge
  rw [List.take_length]
  have hl := asciiF_len s
  generalize asciiF s = set at hl ⊢
  have hml : (encSet set).length = i75.size := by rw [encSet_length,hl]; rfl
  refine cutR 21 [(2,.ptr 2 0)] [(2,encSet set)] rfl ⟨wR,trivial⟩ ⟨hO1 rfl,trivial⟩ ?_
  refine evRegion_load (i := i75) _ _ 75 (.tmp 2) 2 (encSet set) rfl rfl rfl rfl rfl rfl rfl rfl hml ?_
  refine evOps_store (i := i75) 75 (.tmp 2) (.tmp 20) 2 (encSet set) (encSet set) rfl rfl rfl rfl rfl rfl hml hml (allOne_bools set) ?_
  refine evReturn_cell (i := i75) 2 75 3 2 (encSet set) (set.map AV.bool) (.bool true) ?_ ?_ ?_ ?_ ?_ ?_ ?_ ?_ ?_ ?_
  ·rfl
  ·rfl
  ·rfl
  ·rfl
  ·rfl
  ·exact hml
  ·exact toAVs_mapP _
  ·exact encC_all set
  ·rfl
  ·rfl
end
theorem asciiHas_ok (set : List Bool) (c : UInt8) (hl : set.length = 256) : CallsTo C 120 [.imp (set.map AV.bool),.int .u8 c.toNat] (fun r => r = .val (.bool (set.getD c.toNat false))) := by
 have hc : c.toNat < 256 := c.toNat_lt
 obtain ⟨b,hb⟩ : ∃ b,set[c.toNat]? = some b := ⟨_,List.getElem?_eq_getElem (by omega)⟩
 have hg : set.getD c.toNat false = b := by simp [List.getD,hb]
 refine cTo' Tryz.func120 rfl rfl rfl ?_
 refine ⟨c.toNat,rfl,hc,_,drop_set hb,?_⟩
 rw [hg]
 exact rfl
def inSet (set : List Bool) (c : UInt8) : Bool := set.getD c.toNat false
theorem trimL_ok (s : Bytes) (set : List Bool) (hl : set.length = 256) : CallsTo C 68 [.str s,.imp (set.map AV.bool)] (fun r => ∃ k,k ≤ s.length ∧ r = .val (.str (s.drop k)) ∧ (∀ i c,i < k → s[i]? = some c → inSet set c = true) ∧ ∀ c,s[k]? = some c → inSet set c = false) := by
 refine cTo' Tryz.func68 rfl rfl rfl ?_
 refine loopR 16 (fun k : Nat => [(0,.p (.str (s.drop k))),(1,.p (.imp (set.map AV.bool)))]) (fun _ => []) (fun k => k ≤ s.length ∧ ∀ i c,i < k → s[i]? = some c → inSet set c = true) (fun k => s.length - k) 0 ⟨Nat.zero_le _,fun i c h => absurd h (by omega)⟩ rfl ⟨wR,wR,trivial⟩ trivial ?_
 rintro k ⟨hk,hall⟩
 refine al_dec (fun hlt => ?_) (fun hge => ?_)
 ·have hlt : k < s.length := by
   have : ((s.drop k).length : Int) > 0 := hlt
   rw [List.length_drop] at this
   omega
  obtain ⟨c,hc⟩ : ∃ c,s[k]? = some c := ⟨_,List.getElem?_eq_getElem hlt⟩
  refine ⟨by omega,c,by show (s.drop k)[0]? = some c; rw [List.getElem?_drop]; exact hc,?_⟩
  refine ⟨_,asciiHas_ok set c hl,fun r hr => ?_⟩
  subst hr
  refine al_not ?_
  cases hq : set.getD c.toNat false with
  | false =>
    refine ⟨k,hk,rfl,hall,fun d hd => ?_⟩
    rw [hc] at hd
    obtain rfl := Option.some.inj hd
    exact hq
  | true =>
    refine ⟨1,rfl,by rw [List.length_drop]; omega,Nat.le_refl _,s.drop (k + 1),by rw [List.take_length,List.drop_drop],?_⟩
    refine roundR (k + 1) ⟨hlt,fun i d hi hd => ?_⟩ (by omega) rfl ⟨wR,wR,trivial⟩ trivial
    by_cases hik : i = k
    ·subst hik
     rw [hc] at hd
     obtain rfl := Option.some.inj hd
     exact hq
    ·exact hall i d (by omega) hd
 ·have hge : k = s.length := by
   have : ¬ ((s.drop k).length : Int) > 0 := hge
   rw [List.length_drop] at this
   omega
  exact ⟨k,hk,rfl,hall,fun c hc => by rw [List.getElem?_eq_none (by omega)] at hc; cases hc⟩
theorem trimR_ok (s : Bytes) (set : List Bool) (hl : set.length = 256) (hs : s.length ≤ 2 ^ 40) : CallsTo C 69 [.str s,.imp (set.map AV.bool)] (fun r => ∃ k,k ≤ s.length ∧ r = .val (.str (s.take k)) ∧ (∀ i c,k ≤ i → s[i]? = some c → inSet set c = true) ∧ ∀ c,0 < k → s[k - 1]? = some c → inSet set c = false) := by
 refine cTo' Tryz.func69 rfl rfl rfl ?_
 refine loopR 22 (fun k : Nat => [(0,.p (.str (s.take k))),(1,.p (.imp (set.map AV.bool)))]) (fun _ => []) (fun k => k ≤ s.length ∧ ∀ i c,k ≤ i → s[i]? = some c → inSet set c = true) (fun k => k) s.length ⟨Nat.le_refl _,fun i c h h2 => by rw [List.getElem?_eq_none h] at h2; cases h2⟩ rfl ⟨Weak.eq (by rw [List.take_length]; rfl),wR,trivial⟩ trivial ?_
 rintro k ⟨hk,hall⟩
 have htl : (s.take k).length = k := by rw [List.length_take,Nat.min_eq_left hk]
 refine al_dec (fun hlt => ?_) (fun hge => ?_)
 ·have hlt : 0 < k := by
   have : ((s.take k).length : Int) > 0 := hlt
   rw [htl] at this
   omega
  obtain ⟨c,hc⟩ : ∃ c,s[k - 1]? = some c := ⟨_,List.getElem?_eq_getElem (by omega)⟩
  have hw : IntKind.i64.wrap (((s.take k).length : Int) - 1) = ((k - 1 : Nat) : Int) := by rw [htl,wrap64 (by omega) (by omega)]; omega
  refine ⟨_,hw,by omega,c,by show (s.take k)[k - 1]? = some c; rw [List.getElem?_take,if_pos (by omega)]; exact hc,?_⟩
  refine ⟨_,asciiHas_ok set c hl,fun r hr => ?_⟩
  subst hr
  refine al_not ?_
  cases hq : set.getD c.toNat false with
  | false =>
    refine ⟨k,hk,rfl,hall,fun d _ hd => ?_⟩
    rw [hc] at hd
    obtain rfl := Option.some.inj hd
    exact hq
  | true =>
    refine ⟨_,hw,k - 1,rfl,Nat.zero_le _,by rw [htl]; omega,s.take (k - 1),by rw [List.drop_zero,List.take_take,Nat.min_eq_left (by omega)],?_⟩
    refine roundR (k - 1) ⟨by omega,fun i d hi hd => ?_⟩ (by omega) rfl ⟨wR,wR,trivial⟩ trivial
    by_cases hik : i = k - 1
    ·subst hik
     rw [hc] at hd
     obtain rfl := Option.some.inj hd
     exact hq
    ·exact hall i d (by omega) hd
 ·have hge : k = 0 := by
   have : ¬ ((s.take k).length : Int) > 0 := hge
   rw [htl] at this
   omega
  exact ⟨k,hk,rfl,hall,fun c h => absurd h (by omega)⟩
end Qv

end
