/- Several texts in one: The reader of a class read from a place on and what follows. No condition. -/
import Derived.Test.YtpoefbbfhebakaaGreatDoorH2
import Derived.Test.YtpoefbbfhebakaaGreatDoorH3
set_option linter.unusedVariables false
set_option linter.unusedSimpArgs false

section
open Go Go.Proofs Go.RowKit
namespace Qv
theorem peekF_drop (s : Bytes) (n m : Nat) : peekF (s.drop n) m = peekF s (n + m) := by
 simp only [peekF,List.getElem?_drop]
theorem plainK_drop (s : Bytes) (n m : Nat) : plainK (s.drop n) m + n = plainK s (n + m) := by
 simp only [plainK,List.getElem?_drop]
 split <;> omega
theorem plainF_drop (s : Bytes) (n m : Nat) : plainF s (n + m) = ((plainF (s.drop n) m).1,(plainF (s.drop n) m).2.1,n + (plainF (s.drop n) m).2.2) := by
 have hk := plainK_drop s n m
 simp only [plainF,List.getElem?_drop,← hk]
 rw [Nat.add_comm n]
 cases hq : s[plainK (s.drop n) m + n]? with
 | none => simp only; rw [Nat.add_comm]
 | some c => simp only; rw [show n + (plainK (s.drop n) m + 1) = plainK (s.drop n) m + n + 1 from by omega]
theorem hiF_drop (s : Bytes) (lo : UInt8) (ok : Bool) (n m : Nat) : hiF s lo ok (n + m) = ((hiF (s.drop n) lo ok m).1,(hiF (s.drop n) lo ok m).2.1,n + (hiF (s.drop n) lo ok m).2.2) := by
 unfold hiF
 rw [peekF_drop,peekF_drop,← Nat.add_assoc]
 split
 ·rw [Nat.add_assoc,plainF_drop]
 ·rfl
theorem clsGo_drop (s : Bytes) (n : Nat) : ∀ (f m : Nat) (set : List Bool) (k : Nat),clsGo s f (n + m) set k = (clsGo (s.drop n) f m set k).map fun x => (x.1,x.2.1,n + x.2.2)
 | 0,_,_,_ => rfl
 | f + 1,m,set,k => by
   simp only [clsGo,List.getElem?_drop,plainF_drop s n m]
   rw [hiF_drop]
   cases hq : s[n + m]? with
   | none => rfl
   | some c =>
     simp only
     by_cases hc : c = 93
     ·rw [if_pos hc,if_pos hc]
      simp [Nat.add_assoc]
     ·rw [if_neg hc,if_neg hc]
      split
      ·rfl
      ·exact clsGo_drop s n f _ _ _
theorem clsGo_fuel (s : Bytes) : ∀ (f f' n : Nat) (set : List Bool) (k : Nat),n ≤ s.length → s.length + 1 - n ≤ f → s.length + 1 - n ≤ f' → clsGo s f n set k = clsGo s f' n set k
 | 0,f',n,set,k,hn,h,h' => by omega
 | f + 1,0,n,set,k,hn,h,h' => by omega
 | f + 1,f' + 1,n,set,k,hn,h,h' => by
   simp only [clsGo]
   cases hq : s[n]? with
   | none => rfl
   | some c =>
     simp only
     by_cases hc : c = 93
     ·rw [if_pos hc,if_pos hc]
     ·rw [if_neg hc,if_neg hc]
      split
      ·rfl
      ·rename_i hno
       have h1 := plainF_le s n hn
       have h2 := hiF_le s (plainF s n).1 (plainF s n).2.1 (plainF s n).2.2 h1.2.1
       have h3 : (hiF s (plainF s n).1 (plainF s n).2.1 (plainF s n).2.2).2.1 = true := by
        cases hz : (hiF s (plainF s n).1 (plainF s n).2.1 (plainF s n).2.2).2.1 with
        | true => rfl
        | false => exact absurd (.inl hz) hno
       have h4 := h1.2.2 (hiF_ok h3)
       exact clsGo_fuel s f f' _ _ _ h2.2 (by omega) (by omega)
theorem clsF_drop (s : Bytes) (n : Nat) (hn : n < s.length) : clsF s (n + 1) = (clsF (s.drop n) 1).map fun x => (x.1,x.2.1,x.2.2.1,n + x.2.2.2) := by
 have hl : (s.drop n).length = s.length - n := List.length_drop
 have hneg : negF s (n + 1) = negF (s.drop n) 1 := by simp only [negF,peekF_drop]
 rw [clsF_eq,clsF_eq,hneg]
 have h0 : (if negF (s.drop n) 1 = true then n + 1 + 1 else n + 1) = n + (if negF (s.drop n) 1 = true then 1 + 1 else 1) := by split <;> omega
 rw [h0]
 have hle : n + (if negF (s.drop n) 1 = true then 1 + 1 else 1) ≤ s.length := by
  by_cases hg : negF (s.drop n) 1 = true
  ·have : 1 < (s.drop n).length := by
    refine peekF_lt ?_
    have h0 : (peekF (s.drop n) 1).1 = 33 := by simpa [negF] using hg
    cases hq : (s.drop n)[1]? with
    | none => rw [peekF_none hq] at h0; exact absurd h0 (by decide)
    | some c => rw [peekF_some hq]
   rw [if_pos hg]; omega
  ·rw [if_neg hg]; omega
 generalize (if negF (s.drop n) 1 = true then 1 + 1 else 1) = m at hle ⊢
 rw [clsGo_fuel s (s.length + 1) ((s.drop n).length + 1) (n + m) _ _ hle (by omega) (by omega),clsGo_drop]
 cases clsGo (s.drop n) ((s.drop n).length + 1) m (List.replicate 256 false) 0 with
 | none => rfl
 | some x => rfl
def Atom.isLit : Atom → Bool
 | .lit _ => true
 | _ => false
def Atom.tbl (a : Atom) : List Bool := (List.range 256).map fun i => a.fit (UInt8.ofNat i)
def elC (st fx : Bool) (tb : List Bool) : List AV := .bool st :: .bool fx :: tb.map AV.bool
def Atom.ref (a : Atom) : List AV := elC a.isStar a.isLit a.tbl
theorem tbl_len (a : Atom) : a.tbl.length = 256 := by simp [Atom.tbl]
theorem ref_len (a : Atom) : a.ref.length = 258 := by simp [Atom.ref,elC,tbl_len]
theorem tbl_star : Atom.star.tbl = List.replicate 256 false := by
 apply List.ext_getElem
 ·rw [tbl_len,List.length_replicate]
 ·intro i h1 h2
  rw [List.getElem_replicate]
  simp only [Atom.tbl,List.getElem_map,Atom.fit]
theorem u8_lt {i : Nat} (h : i < 256) : (UInt8.ofNat i).toNat = i := by simp; omega
theorem tbl_any : Atom.any.tbl = (List.range 256).map fun i => decide (i ≠ 47) := by
 apply List.map_congr_left
 intro i hi
 have hi := List.mem_range.1 hi
 show (UInt8.ofNat i != 47) = _
 by_cases h : i = 47
 ·subst h; rfl
 ·have : UInt8.ofNat i ≠ 47 := fun e => h (by have := congrArg UInt8.toNat e; rw [u8_lt hi] at this; exact this)
  simp [this,h]
theorem tbl_lit (c : UInt8) : (Atom.lit c).tbl = (List.replicate 256 false).set c.toNat true := by
 apply List.ext_getElem
 ·rw [tbl_len,List.length_set,List.length_replicate]
 ·intro i h1 h2
  have hi : i < 256 := by rw [tbl_len] at h1; exact h1
  rw [List.getElem_set]
  simp only [Atom.tbl,List.getElem_map,List.getElem_range,Atom.fit,List.getElem_replicate]
  by_cases h : c.toNat = i
  ·rw [if_pos h,← h]
   simp
  ·rw [if_neg h]
   have : UInt8.ofNat i ≠ c := fun e => h (by rw [← e,u8_lt hi])
   simpa using this
end Qv

end

section
open Go Go.Proofs Go.RowKit
namespace Qv
def refOnes (l : List Atom) : List (List AV) := l.map Atom.ref
def Comp.ref (c : Comp) : List AV := [.bool c.deep,.sl (refOnes c.ones)]
def refCompR : Option Comp → AV → Prop
 | some c,r => r = .tup [.agg c.ref,.bool true]
 | none,r => ∃ c : Comp,r = .tup [.agg c.ref,.bool false]
theorem elC_len {st fx : Bool} {set : List Bool} (h : set.length = 256) : (mapP (elC st fx set)).length = 258 := by simp [elC,h,mapP_eq]
theorem allOne_bools (set : List Bool) : allOne (mapP (set.map AV.bool)) = true := by
 induction set with
 | nil => rfl
 | cons b l ih => exact ih
theorem elC_one (st fx : Bool) (set : List Bool) : allOne (mapP (elC st fx set)) = true := allOne_bools set
theorem elC_split {st fx : Bool} {set : List Bool} {i : Nat} (h : i < set.length) : mapP (elC st fx set) = ([FV.p (.bool st),FV.p (.bool fx)] ++ encSet (set.take i)) ++ ([FV.p (.bool set[i])] ++ encSet (set.drop (i + 1))) := by
 show [FV.p (.bool st),FV.p (.bool fx)] ++ encSet set = _
 conv => lhs; rw [encSet_split h]
 simp
theorem elC_set {st fx : Bool} {set : List Bool} {i : Nat} {b : Bool} (h : i < set.length) : ([FV.p (.bool st),FV.p (.bool fx)] ++ encSet (set.take i)) ++ ([FV.p (.bool b)] ++ encSet (set.drop (i + 1))) = mapP (elC st fx (set.set i b)) := by
 rw [List.append_assoc,encSet_set h]
 rfl
theorem elC_at {st fx : Bool} {set : List Bool} {i : Nat} (h : i < set.length) : ([FV.p (.bool st),FV.p (.bool fx)] ++ encSet (set.take i)).length = 2 + i * 1 := by
 rw [List.length_append,encSet_length,List.length_take,Nat.min_eq_left (by omega)]
 show 2 + i = _
 omega
def anyF (k : Nat) : List Bool := (List.range 256).map fun i => decide (i < k) && decide (i ≠ 47)
theorem anyF_len (k : Nat) : (anyF k).length = 256 := by simp [anyF]
theorem anyF_zero : anyF 0 = List.replicate 256 false := by
 apply List.ext_getElem
 ·rw [anyF_len,List.length_replicate]
 ·intro i h1 h2
  rw [List.getElem_replicate]
  simp [anyF]
theorem anyF_end : anyF 256 = Atom.any.tbl := by
 rw [tbl_any]
 apply List.map_congr_left
 intro i hi
 rw [decide_eq_true (List.mem_range.1 hi),Bool.true_and]
theorem anyF_next (k : Nat) (hk : k < 256) (v : Bool) (hv : v = decide (k ≠ 47)) : (anyF k).set k v = anyF (k + 1) := by
 subst hv
 apply List.ext_getElem
 ·rw [List.length_set,anyF_len,anyF_len]
 ·intro i h1 h2
  rw [List.getElem_set]
  simp only [anyF,List.getElem_map,List.getElem_range]
  by_cases h : k = i
  ·subst h
   have e : decide (k < k + 1) = true := decide_eq_true (by omega)
   rw [if_pos rfl,e,Bool.true_and]
  ·rw [if_neg h]
   by_cases hlt : i < k
   ·have e1 : decide (i < k) = true := decide_eq_true hlt
    have e2 : decide (i < k + 1) = true := decide_eq_true (by omega)
    rw [e1,e2]
   ·have e1 : decide (i < k) = false := decide_eq_false hlt
    have e2 : decide (i < k + 1) = false := decide_eq_false (by omega)
    rw [e1,e2]
theorem refOnes_one (l : List Atom) : ∀ zs,zs ∈ refOnes l → zs.length = 258 := fun zs hz => by
 obtain ⟨a,-,rfl⟩ := List.mem_map.1 hz
 exact ref_len a
abbrev rpSlots (s : Bytes) (i : Nat) (more : List (Nat × FV)) : List (Nat × FV) :=
 (0,.p (.str s)) :: (2,.ptr 2 0) :: (4,.ptr 4 0) :: (5,.p (.int .i64 i)) :: more
abbrev rpObjs (ones : List Atom) : List (Nat × List FV) := [(2,[.p (.bool false),.full []]),(4,[.p (.bool false),.tip 66 199 258 (refOnes ones)])]
abbrev rpObjs6 (ones : List Atom) (st fx : Bool) (tb : List Bool) : List (Nat × List FV) := (6,mapP (elC st fx tb)) :: rpObjs ones
set_option maxRecDepth 100000 in
set_option maxHeartbeats 4000000 in
theorem refParse_ok (s : Bytes) (hs : s.length ≤ 2 ^ 30) : CallsTo C 189 [.str s] (fun r => ∃ x,r = .val x ∧ refCompR (compF s) x) := by
 refine callsTo_of_evO ⟨[],[],false,[],[],[]⟩ [8,12,15,23,25] Tryz.func189 rfl rfl rfl ?_
 refine al_eq (fun h => ?_) (fun h => ?_)
 ·have h : s = [42,42] := h
  have hc : compF s = some ⟨true,[]⟩ := by
   unfold compF
   rw [if_neg (by rw [h]; simp),if_pos h]
  rw [hc]
  exact ⟨_,rfl,rfl⟩
 have h : s ≠ [42,42] := h
 have hc : compF s = if s = [] then none else match onesGo s (s.length + 1) 0 [] with
  | none => none
  | some l => some ⟨false,l⟩ := by
  unfold compF
  rw [if_neg h]
  rfl
 rw [hc]
 clear hc h
 generalize hY : onesGo s (s.length + 1) 0 [] = Y
 refine loopR 75 (fun x : Nat × List Atom => rpSlots s x.1 []) (fun x => rpObjs x.2) (fun x => x.1 ≤ s.length ∧ x.2.length ≤ x.1 ∧ ∃ f,s.length + 1 - x.1 ≤ f ∧ onesGo s f x.1 x.2 = Y) (fun x => s.length - x.1)
  (0,[]) ⟨Nat.zero_le _,Nat.le_refl _,_,Nat.le_refl _,hY⟩ rfl ⟨wR,wR,wR,wR,trivial⟩ ⟨hO1 rfl,hasO_two (x := .p (.bool false)) (y := .full []) rfl (wR) (Weak.full_tip _ _ _),trivial⟩ ?_
 clear hY
 rintro ⟨n,ones⟩ ⟨hn,hol,f,hf,hY⟩
 have hn : n ≤ s.length := hn
 have hol : ones.length ≤ n := hol
 have hf : s.length + 1 - n ≤ f := hf
 have hY : onesGo s f n ones = Y := hY
 obtain ⟨f,rfl⟩ : ∃ f',f = f' + 1 := ⟨f - 1,by omega⟩
 refine al_dec (fun hlt => ?_) (fun hge => ?_)
 ·have hlt : n < s.length := by
   have : (n : Int) < (s.length : Int) := hlt
   omega
  have hne : s ≠ [] := fun e => by rw [e] at hlt; simp at hlt
  rw [if_neg hne]
  obtain ⟨tb,htb⟩ : ∃ tb,List.replicate 256 false = tb := ⟨_,rfl⟩
  have htl : tb.length = 256 := by rw [← htb,List.length_replicate]
  refine cutR 75 (rpSlots s n [(6,.ptr 6 0)]) (rpObjs6 ones false false tb) rfl ⟨wR,wR,wR,wR,wR,trivial⟩ ⟨hO1 (by rw [← htb]; kernel_rfl),hO1 rfl,hO1 rfl,trivial⟩ ?_
  obtain ⟨c,hq⟩ : ∃ c,s[n]? = some c := ⟨_,List.getElem?_eq_getElem hlt⟩
  refine ⟨by omega,c,idx_str rfl hq,?_⟩
  refine share (T := ?T) (fun H => ?main) ?rest
  case main =>
   refine al_eq (fun h42 => ?_) (fun h42 => ?_)
   ·have h42 : c = 42 := u8_eq h42
    refine cutR 75 (rpSlots s n [(6,.ptr 6 0),(7,.p (.int .i64 1))]) (rpObjs6 ones false false tb) rfl ⟨wR,wR,wR,wR,wR,wR,trivial⟩ ⟨hO1 rfl,hO1 rfl,hO1 rfl,trivial⟩ ?_
    refine evRegion_ops _ rfl rfl ?_
    refine evOps_step (.ptr 6 0) rfl (fun _ h => h) ?_
    refine evOps_storeP 4 (.tmp 38) (.const (.bool true)) 6 0 [.p (.bool true)] (mapP (elC false false tb)) (mapP (elC true false tb)) rfl rfl rfl rfl rfl rfl rfl rfl rfl ?_
    obtain ⟨st,e1⟩ : ∃ x,x = true := ⟨_,rfl⟩
    obtain ⟨fx,e2⟩ : ∃ x,x = false := ⟨_,rfl⟩
    obtain ⟨tb2,e3⟩ : ∃ x,x = tb := ⟨_,rfl⟩
    obtain ⟨w,e4⟩ : ∃ x : Nat,x = 1 := ⟨_,rfl⟩
    have hall : tb2.length = 256 ∧ w ≤ s.length - n ∧ (w = 0 → oneF s n = none) ∧ (w ≠ 0 → ∃ a,oneF s n = some (a,n + w) ∧ elC st fx tb2 = a.ref) := by
     refine ⟨by rw [e3]; exact htl,by omega,fun h => by omega,fun _ => ⟨.star,by rw [e4]; simp only [oneF,hq,h42,if_true],?_⟩⟩
     rw [e1,e2,e3,← htb,← tbl_star]
     rfl
    refine cutR 75 (rpSlots s n [(6,.ptr 6 0),(7,.p (.int .i64 w))]) (rpObjs6 ones st fx tb2) rfl ⟨wR,wR,wR,wR,wR,Weak.eq (by rw [e4]; rfl),trivial⟩ ⟨hO1 (by rw [e1,e2,e3]; rfl),hO1 rfl,hO1 rfl,trivial⟩ ?_
    clear e1 e2 e3 e4
    revert st fx tb2 w
    exact H.out
   ·have h42 : c ≠ 42 := fun e => h42 (by rw [e]; rfl)
    refine al_eq (fun h63 => ?_) (fun h63 => ?_)
    ·have h63 : c = 63 := u8_eq h63
     refine loopR 75 (fun k : Nat => rpSlots s n [(6,.ptr 6 0),(7,.p (.int .i64 ((1 : Nat) : Int))),(8,.p (.int .i64 k))]) (fun k => rpObjs6 ones false false (anyF k)) (fun k => k ≤ 256) (fun k => 256 - k) 0 (Nat.zero_le _) rfl ⟨wR,wR,wR,wR,wR,wR,wR,trivial⟩ ⟨hO1 (by rw [anyF_zero,htb]; rfl),hO1 rfl,hO1 rfl,trivial⟩ ?_
     intro k hk
     have hk : k ≤ 256 := hk
     refine al_dec (fun hlt3 => ?_) (fun hge3 => ?_)
     ·have hlt3 : k < 256 := by
       have : (k : Int) < 256 := hlt3
       omega
      have hkl : k < (anyF k).length := by rw [anyF_len]; exact hlt3
      have hw : IntKind.i64.wrap ((k : Int) + 1) = ((k + 1 : Nat) : Int) := by rw [wrap64 (by omega) (by omega)]; omega
      refine ⟨fun t ht => ?_⟩
      have ht : t = ((k : Int) != 47) := ht
      have hv : t = decide (k ≠ 47) := by
       rw [ht]
       by_cases h : k = 47
       ·subst h; rfl
       ·rw [decide_eq_true h]
        simp only [bne_iff_ne,ne_eq]
        omega
      refine ⟨k,rfl,hlt3,true,_,rfl,_,_,_,elC_split hkl,elC_at hkl,_,elC_set hkl,?_⟩
      refine ⟨_,hw,roundR (k + 1) hlt3 (by show 256 - (k + 1) < 256 - k; omega) rfl ⟨wR,wR,wR,wR,wR,wR,wR,trivial⟩ ⟨hO1 (by rw [← anyF_next k hlt3 t hv]; rfl),hO1 rfl,hO1 rfl,trivial⟩⟩
     ·have hk : k = 256 := by
       have : ¬ (k : Int) < 256 := hge3
       omega
      subst hk
      refine cutR 75 (rpSlots s n [(6,.ptr 6 0),(7,.p (.int .i64 ((1 : Nat) : Int)))]) (rpObjs6 ones false false (anyF 256)) rfl ⟨wR,wR,wR,wR,wR,wR,trivial⟩ ⟨hO1 rfl,hO1 rfl,hO1 rfl,trivial⟩ ?_
      refine H.out false false (anyF 256) 1 ⟨anyF_len _,by omega,fun h => by omega,fun _ => ⟨.any,by subst h63; simp only [oneF,hq]; rfl,?_⟩⟩
      rw [anyF_end]
      rfl
    ·have h63 : c ≠ 63 := fun e => h63 (by rw [e]; rfl)
     refine al_eq (fun h91 => ?_) (fun h91 => ?_)
     ·have h91 : c = 91 := u8_eq h91
      refine ⟨n,rfl,hn,Nat.le_refl _,_,take_all s n,?_⟩
      have hdl : (s.drop n).length = s.length - n := List.length_drop
      refine ⟨_,(refClass_ok (s.drop n) (by omega) (by omega)).opn,?_⟩
      rintro r ⟨x,rfl,hx⟩
      have hcd := clsF_drop s n hlt
      have hone : oneF s n = match clsF s (n + 1) with
       | some (set,neg,true,n') => some (.cls set neg,n')
       | _ => none := by
       subst h91
       simp only [oneF,hq]
       rfl
      have hall : ∃ (set : List Bool) (w : Nat),x = .tup [.agg (elC false false set),.int .i64 w] ∧ set.length = 256 ∧ w ≤ s.length - n ∧ (w = 0 → oneF s n = none) ∧ (w ≠ 0 → ∃ a,oneF s n = some (a,n + w) ∧ elC false false set = a.ref) := by
       have bad : (∃ set : List Bool,set.length = 256 ∧ x = .tup [.agg (encC set),.int .i64 (0 : Nat)]) → oneF s n = none → ∃ (set : List Bool) (w : Nat),x = .tup [.agg (elC false false set),.int .i64 w] ∧ set.length = 256 ∧ w ≤ s.length - n ∧ (w = 0 → oneF s n = none) ∧ (w ≠ 0 → ∃ a,oneF s n = some (a,n + w) ∧ elC false false set = a.ref) := by
        rintro ⟨set,h1,h2⟩ h3
        exact ⟨set,0,h2,h1,Nat.zero_le _,fun _ => h3,fun h => absurd rfl h⟩
       rcases hcls : clsF (s.drop n) 1 with _ | ⟨set,neg,ok,n'⟩
       ·rw [hcls] at hx hcd
        have hcd : clsF s (n + 1) = none := hcd
        exact bad hx (by rw [hone,hcd])
       ·rw [hcls] at hx hcd
        have hcd : clsF s (n + 1) = some (set,neg,ok,n + n') := hcd
        cases ok with
        | false => exact bad hx (by rw [hone,hcd])
        | true =>
          have hx : x = .tup [.agg (encC (refSet set neg)),.int .i64 n'] := hx
          have hle := clsF_le hcls
          have hle2 : n' ≤ (s.drop n).length := hle.2.1
          refine ⟨refSet set neg,n',hx,by simp [refSet],by omega,fun h => by have := hle.1; omega,fun _ => ⟨.cls set neg,by rw [hone,hcd],rfl⟩⟩
      clear hx hcd hone h91
      obtain ⟨set,w,rfl,hsl,hw0,hw1,hw2⟩ := hall
      refine gotK_val ?_
      refine evOps_step (.p (.tup [.agg (elC false false set),.int .i64 w])) rfl (fun _ h => h) ?_
      refine evOps_step (.p (.agg (elC false false set))) rfl (fun _ h => h) ?_
      refine evOps_step (.p (.int .i64 w)) rfl (fun _ h => h) ?_
      refine evOps_storeP 199 (.tmp 6) (.tmp 57) 6 0 (mapP (elC false false set)) (mapP (elC false false tb)) (mapP (elC false false set)) rfl rfl rfl rfl rfl rfl (elC_len hsl) (elC_one _ _ _) (setRange_all _ _ (by rw [elC_len htl,elC_len hsl])) ?_
      refine cutR 75 (rpSlots s n [(6,.ptr 6 0),(7,.p (.int .i64 w))]) (rpObjs6 ones false false set) rfl ⟨wR,wR,wR,wR,wR,wR,trivial⟩ ⟨hO1 rfl,hO1 rfl,hO1 rfl,trivial⟩ ?_
      exact H.out false false set w ⟨hsl,hw0,hw1,hw2⟩
     ·have h91 : c ≠ 91 := fun e => h91 (by rw [e]; rfl)
      have hdl : (s.drop n).length = s.length - n := List.length_drop
      have hrp := ref1_plain s n hn
      obtain ⟨b,w,hr1⟩ : ∃ b w,ref1 (s.drop n) = (b,w) := ⟨_,_,rfl⟩
      rw [hr1] at hrp
      have hrp : plainF s n = if w = 0 then (0,false,(plainF s n).2.2) else (b,true,n + w) := hrp
      generalize (plainF s n).2.2 = q3 at hrp
      have hone : oneF s n = match plainF s n with
       | (d,true,n') => some (.lit d,n')
       | _ => none := by
       simp only [oneF,hq,if_neg h42,if_neg h63,if_neg h91]
       rfl
      have hple := (plainF_le s n hn).2.1
      refine ⟨n,rfl,hn,Nat.le_refl _,_,take_all s n,?_⟩
      refine ⟨_,(refOne_ok (s.drop n) (by omega)).opn,?_⟩
      rintro r rfl
      rw [hr1]
      refine cutR 75 (rpSlots s n [(6,.ptr 6 0),(7,.p (.int .i64 w)),(9,.p (.int .u8 b.toNat))]) (rpObjs6 ones false false tb) rfl ⟨wR,wR,wR,wR,wR,wR,wR,trivial⟩ ⟨hO1 rfl,hO1 rfl,hO1 rfl,trivial⟩ ?_
      refine evRegion_ops _ rfl rfl ?_
      refine evOps_step (.ptr 6 1) rfl (fun _ h => h) ?_
      refine evOps_storeP 4 (.tmp 32) (.const (.bool true)) 6 1 [.p (.bool true)] (mapP (elC false false tb)) (mapP (elC false true tb)) rfl rfl rfl rfl rfl rfl rfl rfl rfl ?_
      have hb : b.toNat < tb.length := by rw [htl]; exact b.toNat_lt
      refine ⟨b.toNat,rfl,b.toNat_lt,true,_,rfl,?_⟩
      refine ⟨_,_,_,elC_split hb,elC_at hb,_,elC_set hb,?_⟩
      refine cutR 75 (rpSlots s n [(6,.ptr 6 0),(7,.p (.int .i64 w))]) (rpObjs6 ones false true (tb.set b.toNat true)) rfl ⟨wR,wR,wR,wR,wR,wR,trivial⟩ ⟨hO1 rfl,hO1 rfl,hO1 rfl,trivial⟩ ?_
      refine H.out false true (tb.set b.toNat true) w ⟨by rw [List.length_set]; exact htl,?_,fun h => ?_,fun h => ⟨.lit b,?_,?_⟩⟩
      ·by_cases h : w = 0
       ·omega
       ·rw [if_neg h] at hrp
        rw [hrp] at hple
        have hple : n + w ≤ s.length := hple
        omega
      ·rw [if_pos h] at hrp
       rw [hone,hrp]
      ·rw [if_neg h] at hrp
       rw [hone,hrp]
      ·show elC false true _ = elC false true _
       rw [tbl_lit,htb]
  case rest =>
   rintro st fx tb2 w ⟨htl2,hwl,hw0,hw1⟩
   refine al_eq (fun hz => ?_) (fun hz => ?_)
   ·have hz : w = 0 := by
     have : (w : Int) = 0 := hz
     omega
    have hYn : Y = none := by
     rw [← hY]
     simp only [onesGo,if_pos hlt,hw0 hz]
    rw [hYn]
    exact ⟨_,rfl,⟨false,ones⟩,rfl⟩
   ·have hz : w ≠ 0 := fun e => hz (show (w : Int) = 0 by omega)
    obtain ⟨a,ha,hel⟩ := hw1 hz
    have hYa : onesGo s f (n + w) (ones ++ [a]) = Y := by
     rw [← hY]
     simp only [onesGo,if_pos hlt,ha]
    have hww : IntKind.i64.wrap ((n : Int) + (w : Int)) = ((n + w : Nat) : Int) := by rw [wrap64 (by omega) (by omega)]; omega
    refine cutR 75 (rpSlots s n [(6,.ptr 6 0),(7,.p (.int .i64 w))]) (rpObjs6 ones st fx tb2) rfl ⟨wR,wR,wR,wR,wR,wR,trivial⟩ ⟨hO1 rfl,hO1 rfl,hO1 rfl,trivial⟩ ?_
    refine evRegion_ops _ rfl rfl ?_
    refine evOps_step (.ptr 4 1) rfl (fun _ h => h) ?_
    refine evOps_step (.tip 66 199 258 (refOnes ones)) rfl (fun _ h => h) ?_
    refine evOps_loadW 199 (.tmp 6) 6 (mapP (elC st fx tb2)) rfl rfl rfl rfl rfl rfl (elC_len htl2) ?_
    refine evOps_slice1 135 199 (.tmp 64) 65 65 (elC st fx tb2) rfl rfl rfl rfl rfl rfl rfl rfl (by simp [elC,htl2]) (by simp) rfl rfl (elC_one _ _ _) (toAVs_mapP _) ?_
    refine ⟨refOnes_one ones,all_one (by simp [elC,htl2]),?_,refOnes (ones ++ [a]),by rw [hel]; simp [refOnes],?_⟩
    ·show ((refOnes ones).length + 1) * 258 ≤ 140737488355328
     simp only [refOnes,List.length_map]
     omega
    refine ⟨_,hww,?_⟩
    refine roundR (n + w,ones ++ [a]) ⟨by show n + w ≤ _; omega,by show (ones ++ [a]).length ≤ n + w; rw [List.length_append]; show ones.length + 1 ≤ _; omega,f,by show s.length + 1 - (n + w) ≤ f; omega,hYa⟩ (by show s.length - (n + w) < s.length - n; omega) rfl ⟨wR,wR,wR,wR,trivial⟩ ⟨hO1 rfl,hO1 rfl,trivial⟩
 ·have hge : n = s.length := by
   have : ¬ (n : Int) < (s.length : Int) := hge
   omega
  have hYs : Y = some ones := by
   rw [← hY]
   simp only [onesGo,if_neg (show ¬ n < s.length by omega)]
  refine ⟨fun t ht => ?_⟩
  have ht : t = decide ((0 : Int) < (s.length : Int)) := ht
  by_cases he : s = []
  ·subst he
   rw [if_pos rfl]
   rw [ht]
   exact ⟨_,rfl,⟨false,ones⟩,rfl⟩
  ·have : 0 < s.length := by
    cases s with
    | nil => exact absurd rfl he
    | cons _ _ => simp
   rw [if_neg he,hYs,ht,decide_eq_true (by omega)]
   exact ⟨_,rfl,rfl⟩
end Qv

end

section
open Go Go.Proofs Go.RowKit
namespace Qv
def refComps (l : List Comp) : List (List AV) := l.map Comp.ref
theorem parseF_path (g : Bytes) : (parseF g).2 = 0 ↔ ∃ l,compsGo (pathF g) [] = some l ∧ pathF g ≠ [] ∧ g.length ≤ 200 := by
 unfold parseF pathF
 by_cases hg : 200 < g.length
 ·rw [if_pos hg]
  exact ⟨fun h => absurd h (by decide),fun ⟨l,h⟩ => absurd h.2.2 (by omega)⟩
 ·rw [if_neg hg]
  by_cases he : g = []
  ·subst he
   rw [if_pos rfl]
   exact ⟨fun h => absurd h (by decide),fun ⟨l,h⟩ => absurd rfl h.2.1⟩
  ·rw [if_neg he]
   cases hq : compsGo (parts 47 g) [] with
   | none => exact ⟨fun h => absurd h (by decide),fun ⟨l,h⟩ => by cases h.1⟩
   | some l => exact ⟨fun _ => ⟨l,rfl,parts_ne 47 g,by omega⟩,fun _ => rfl⟩
theorem parseF_comps {g : Bytes} {l : List Comp} (h : compsGo (pathF g) [] = some l) (h2 : pathF g ≠ []) (h3 : g.length ≤ 200) : (parseF g).1 = l := by
 unfold parseF
 rw [if_neg (by omega)]
 have he : g ≠ [] := fun e => h2 (by rw [e]; rfl)
 have hp : pathF g = parts 47 g := if_neg he
 rw [hp] at h
 rw [h]
theorem refGlob_ok (g : Bytes) (hs : g.length ≤ 2 ^ 29) : CallsTo C 164 [.str g] (fun r => ∃ (out : List Comp) (ok : Bool),r = .val (.tup [.sl (refComps out),.bool ok]) ∧ (ok = true ↔ (parseF g).2 = 0) ∧ (ok = true → out = (parseF g).1)) := by
 refine callsTo_of_evO ⟨[],[],false,[],[],[]⟩ [] Tryz.func164 rfl rfl rfl ?_
 refine ⟨_,(refSplit_ok g (by omega)).opn,fun r hr => ?_⟩
 subst hr
 rw [parseF_path]
 have hcomp := @parseF_comps g
 obtain ⟨hPl,hPm⟩ := pathF_small g hs
 generalize pathF g = P at hPl hPm hcomp ⊢
 generalize hX : compsGo P [] = X
 have hX0 := hX
 refine loopR 42 (fun x : Nat × List Comp => [(0,.p (.str g)),(4,.tip 9 137 2 (refComps x.2)),(5,.p (encS P)),(6,.p (.int .i64 x.1))]) (fun _ => [])
  (fun x => x.1 ≤ P.length ∧ x.2.length ≤ x.1 ∧ compsGo (P.drop x.1) x.2 = X) (fun x => P.length - x.1) (0,[]) ⟨Nat.zero_le _,Nat.le_refl _,hX⟩ rfl ⟨wR,wR,wR,wR,trivial⟩ trivial ?_
 clear hX
 rintro ⟨i,comps⟩ ⟨hi,hcl,hX⟩
 have hi : i ≤ P.length := hi
 have hcl : comps.length ≤ i := hcl
 have hX : compsGo (P.drop i) comps = X := hX
 refine al_lt (fun hlt => ?_) (fun hge => ?_)
 ·have hlt : i < P.length := hlt
  have hpl := hPm _ (List.getElem_mem hlt)
  rw [List.drop_eq_getElem_cons hlt] at hX
  refine ⟨by omega,_,idx_map rfl hlt,rfl,?_⟩
  refine ⟨_,(refParse_ok P[i] hpl).opn,?_⟩
  rintro r ⟨x,rfl,hx⟩
  cases hq : compF P[i] with
  | none =>
    rw [hq] at hx
    obtain ⟨c,rfl⟩ := hx
    have hXn : X = none := by rw [← hX]; simp only [compsGo,hq]
    refine al_not ?_
    rw [hXn]
    exact ⟨comps,false,rfl,⟨fun h => (by cases h),fun ⟨l,h⟩ => by cases h.1⟩,fun h => by cases h⟩
  | some c =>
    rw [hq] at hx
    have hx : x = .tup [.agg c.ref,.bool true] := hx
    subst hx
    have hXc : compsGo (P.drop (i + 1)) (comps ++ [c]) = X := by rw [← hX]; simp only [compsGo,hq]
    have hw : IntKind.i64.wrap ((i : Int) + 1) = ((i + 1 : Nat) : Int) := by rw [wrap64 (by omega) (by omega)]; omega
    have hlc : ∀ zs,zs ∈ refComps comps → zs.length = 2 := fun zs hz => by
     obtain ⟨c,-,rfl⟩ := List.mem_map.1 hz
     rfl
    refine al_not ?_
    refine ⟨hlc,all_one rfl,?_,refComps (comps ++ [c]),by simp [refComps]; rfl,?_⟩
    ·show ((refComps comps).length + 1) * 32 ≤ 140737488355328
     simp only [refComps,List.length_map]
     omega
    exact ⟨_,hw,roundR (i + 1,comps ++ [c]) ⟨hlt,by show (comps ++ [c]).length ≤ i + 1; rw [List.length_append]; show comps.length + 1 ≤ _; omega,hXc⟩ (by show P.length - (i + 1) < P.length - i; omega) rfl ⟨wR,wR,wR,wR,trivial⟩ trivial⟩
 ·have hie : i = P.length := by
   have : ¬ i < P.length := hge
   omega
  rw [hie,List.drop_length] at hX
  have hXs : X = some comps := by rw [← hX]; rfl
  have hlen : ((P.map enc1).length : Int) = (P.length : Int) := by simp
  refine ⟨none,?_⟩
  refine al_dec (fun h0 => ?_) (fun h0 => ?_)
  ·have hne : P ≠ [] := fun e => by
    have h0 : ((P.map enc1).length : Int) > 0 := h0
    rw [e] at h0
    simp at h0
   refine ⟨fun t ht => ?_⟩
   have ht : t = decide ((g.length : Int) ≤ 200) := ht
   have htr : t = true ↔ g.length ≤ 200 := by rw [ht,decide_eq_true_iff]; omega
   exact ⟨comps,t,rfl,htr.trans ⟨fun h => ⟨comps,hXs,hne,h⟩,fun ⟨l,h⟩ => h.2.2⟩,fun h => (hcomp (hX0.trans hXs) hne (htr.1 h)).symm⟩
  ·have hne : P = [] := by
    cases P with
    | nil => rfl
    | cons _ _ => exact absurd (show ((0 : Int) < _) by rw [hlen]; simp) h0
   exact ⟨comps,false,rfl,⟨fun h => (by cases h),fun ⟨l,h⟩ => absurd hne h.2.1⟩,fun h => by cases h⟩
theorem refCheck_ok (g : Bytes) (hs : g.length ≤ 2 ^ 29) : CallsTo C 134 [.str g] (fun r => r = .val (.int .i64 (parseF g).2)) := by
 refine cTo' Tryz.func134 rfl rfl rfl ?_
 refine al_dec (fun hgt => ?_) (fun hgt => ?_)
 ·have : (parseF g).2 = 4 := by unfold parseF; rw [if_pos (by omega)]
  rw [this]
  exact rfl
 ·refine ⟨_,refGlob_ok g hs,?_⟩
  rintro r ⟨out,ok,rfl,hok,-⟩
  refine al_not ?_
  cases ok with
  | true =>
    rw [hok.1 rfl]
    exact rfl
  | false =>
    have : (parseF g).2 = 3 := by
     have hne : ¬ (parseF g).2 = 0 := fun h => by have := hok.2 h; cases this
     unfold parseF at hne ⊢
     rw [if_neg (by omega)] at hne ⊢
     split
     ·rfl
     ·rename_i l hl
      rw [hl] at hne
      exact absurd rfl hne
    rw [this]
    exact rfl
end Qv

end

section
open Go Go.Proofs Go.RowKit
namespace Qv
def asciiF (s : Bytes) : List Bool := s.foldl (fun set c => set.set c.toNat true) (List.replicate 256 false)
theorem asciiF_len (s : Bytes) : (asciiF s).length = 256 := by
 unfold asciiF
 have : ∀ (s : Bytes) (set : List Bool),(s.foldl (fun set c => set.set c.toNat true) set).length = set.length := fun s => by
  induction s with
  | nil => intro set; rfl
  | cons c s ih => intro set; rw [List.foldl_cons,ih,List.length_set]
 rw [this,List.length_replicate]
def i75 : TInfo := ⟨256,256,.array 256 4,List.replicate 256 (.bool false)⟩
section
attribute [local irreducible] evReturn
set_option maxRecDepth 100000 in
set_option maxHeartbeats 2000000 in
theorem asciiSet_ok (s : Bytes) (hs : s.length ≤ 2 ^ 30) (ha : ∀ c,c ∈ s → c.toNat < 128) : CallsTo C 67 [.str s] (fun r => r = .val (.tup [.agg ((asciiF s).map AV.bool),.bool true])) := by
 refine callsTo_of_evO ⟨[],[],false,[],[],[]⟩ [8] Tryz.func67 rfl rfl rfl ?_
 refine loopR 21 (fun k : Nat => [(0,.p (.str s)),(2,.ptr 2 0),(4,.p (.int .i64 k))]) (fun k => [(2,encSet (asciiF (s.take k)))]) (fun k => k ≤ s.length) (fun k => s.length - k) 0 (Nat.zero_le _) rfl ⟨wR,wR,wR,trivial⟩ ⟨hO1 (by kernel_rfl),trivial⟩ ?_
 intro k hk
 have hk : k ≤ s.length := hk
 have hw : IntKind.i64.wrap ((k : Int) + 1) = ((k + 1 : Nat) : Int) := by rw [wrap64 (by omega) (by omega)]; omega
 refine al_dec (fun hlt => ?_) (fun hge => ?_)
 ·have hlt : k < s.length := by
   have : (k : Int) < (s.length : Int) := hlt
   omega
  obtain ⟨c,hc⟩ : ∃ c,s[k]? = some c := ⟨_,List.getElem?_eq_getElem hlt⟩
  have hac := ha c (List.mem_of_getElem? hc)
  refine ⟨by omega,c,idx_str rfl hc,?_⟩
  refine al_dec (fun h => ?_) (fun h => ?_)
  ·have h : (c.toNat : Int) ≥ 128 := h
   omega
  ·have hcl : c.toNat < (asciiF (s.take k)).length := by rw [asciiF_len]; omega
   have ht : s.take (k + 1) = s.take k ++ [c] := by
    rw [List.take_add_one,hc]; rfl
   have hnx : asciiF (s.take (k + 1)) = (asciiF (s.take k)).set c.toNat true := by
    rw [ht]
    simp [asciiF]
   refine ⟨c.toNat,rfl,by omega,true,_,rfl,?_⟩
   refine ⟨_,_,_,encSet_split hcl,by rw [encSet_length,List.length_take,Nat.min_eq_left (by omega)]; show c.toNat = 0 + c.toNat * 1; omega,_,encSet_set hcl,?_⟩
   exact ⟨_,hw,roundR (k + 1) hlt (by show s.length - (k + 1) < s.length - k; omega) rfl ⟨wR,wR,wR,trivial⟩ ⟨hO1 (by rw [hnx]; rfl),trivial⟩⟩
 ·have hge : k = s.length := by
   have : ¬ (k : Int) < (s.length : Int) := hge
   omega
  subst hge
  rw [List.take_length]
  have hl := asciiF_len s
  generalize asciiF s = set at hl ⊢
  have hml : (encSet set).length = i75.size := by rw [encSet_length,hl]; rfl
  refine cutR 21 [(2,.ptr 2 0)] [(2,encSet set)] rfl ⟨wR,trivial⟩ ⟨hO1 rfl,trivial⟩ ?_
  refine evRegion_load (i := i75) _ _ 75 (.tmp 2) 2 (encSet set) rfl rfl rfl rfl rfl rfl rfl rfl hml ?_
  refine evOps_store (i := i75) 75 (.tmp 2) (.tmp 20) 2 (encSet set) (encSet set) rfl rfl rfl rfl rfl rfl hml hml (allOne_bools set) ?_
  refine evReturn_cell (i := i75) 2 75 3 2 (encSet set) (set.map AV.bool) (.bool true) ?_ ?_ ?_ ?_ ?_ ?_ ?_ ?_ ?_ ?_
  ·rfl
  ·rfl
  ·rfl
  ·rfl
  ·rfl
  ·exact hml
  ·exact toAVs_mapP _
  ·exact encC_all set
  ·rfl
  ·rfl
end
theorem asciiHas_ok (set : List Bool) (c : UInt8) (hl : set.length = 256) : CallsTo C 120 [.imp (set.map AV.bool),.int .u8 c.toNat] (fun r => r = .val (.bool (set.getD c.toNat false))) := by
 have hc : c.toNat < 256 := c.toNat_lt
 obtain ⟨b,hb⟩ : ∃ b,set[c.toNat]? = some b := ⟨_,List.getElem?_eq_getElem (by omega)⟩
 have hg : set.getD c.toNat false = b := by simp [List.getD,hb]
 refine cTo' Tryz.func120 rfl rfl rfl ?_
 refine ⟨c.toNat,rfl,hc,_,drop_set hb,?_⟩
 rw [hg]
 exact rfl
def inSet (set : List Bool) (c : UInt8) : Bool := set.getD c.toNat false
theorem trimL_ok (s : Bytes) (set : List Bool) (hl : set.length = 256) : CallsTo C 68 [.str s,.imp (set.map AV.bool)] (fun r => ∃ k,k ≤ s.length ∧ r = .val (.str (s.drop k)) ∧ (∀ i c,i < k → s[i]? = some c → inSet set c = true) ∧ ∀ c,s[k]? = some c → inSet set c = false) := by
 refine cTo' Tryz.func68 rfl rfl rfl ?_
 refine loopR 16 (fun k : Nat => [(0,.p (.str (s.drop k))),(1,.p (.imp (set.map AV.bool)))]) (fun _ => []) (fun k => k ≤ s.length ∧ ∀ i c,i < k → s[i]? = some c → inSet set c = true) (fun k => s.length - k) 0 ⟨Nat.zero_le _,fun i c h => absurd h (by omega)⟩ rfl ⟨wR,wR,trivial⟩ trivial ?_
 rintro k ⟨hk,hall⟩
 refine al_dec (fun hlt => ?_) (fun hge => ?_)
 ·have hlt : k < s.length := by
   have : ((s.drop k).length : Int) > 0 := hlt
   rw [List.length_drop] at this
   omega
  obtain ⟨c,hc⟩ : ∃ c,s[k]? = some c := ⟨_,List.getElem?_eq_getElem hlt⟩
  refine ⟨by omega,c,by show (s.drop k)[0]? = some c; rw [List.getElem?_drop]; exact hc,?_⟩
  refine ⟨_,asciiHas_ok set c hl,fun r hr => ?_⟩
  subst hr
  refine al_not ?_
  cases hq : set.getD c.toNat false with
  | false =>
    refine ⟨k,hk,rfl,hall,fun d hd => ?_⟩
    rw [hc] at hd
    obtain rfl := Option.some.inj hd
    exact hq
  | true =>
    refine ⟨1,rfl,by rw [List.length_drop]; omega,Nat.le_refl _,s.drop (k + 1),by rw [List.take_length,List.drop_drop],?_⟩
    refine roundR (k + 1) ⟨hlt,fun i d hi hd => ?_⟩ (by omega) rfl ⟨wR,wR,trivial⟩ trivial
    by_cases hik : i = k
    ·subst hik
     rw [hc] at hd
     obtain rfl := Option.some.inj hd
     exact hq
    ·exact hall i d (by omega) hd
 ·have hge : k = s.length := by
   have : ¬ ((s.drop k).length : Int) > 0 := hge
   rw [List.length_drop] at this
   omega
  exact ⟨k,hk,rfl,hall,fun c hc => by rw [List.getElem?_eq_none (by omega)] at hc; cases hc⟩
theorem trimR_ok (s : Bytes) (set : List Bool) (hl : set.length = 256) (hs : s.length ≤ 2 ^ 40) : CallsTo C 69 [.str s,.imp (set.map AV.bool)] (fun r => ∃ k,k ≤ s.length ∧ r = .val (.str (s.take k)) ∧ (∀ i c,k ≤ i → s[i]? = some c → inSet set c = true) ∧ ∀ c,0 < k → s[k - 1]? = some c → inSet set c = false) := by
 refine cTo' Tryz.func69 rfl rfl rfl ?_
 refine loopR 22 (fun k : Nat => [(0,.p (.str (s.take k))),(1,.p (.imp (set.map AV.bool)))]) (fun _ => []) (fun k => k ≤ s.length ∧ ∀ i c,k ≤ i → s[i]? = some c → inSet set c = true) (fun k => k) s.length ⟨Nat.le_refl _,fun i c h h2 => by rw [List.getElem?_eq_none h] at h2; cases h2⟩ rfl ⟨Weak.eq (by rw [List.take_length]; rfl),wR,trivial⟩ trivial ?_
 rintro k ⟨hk,hall⟩
 have htl : (s.take k).length = k := by rw [List.length_take,Nat.min_eq_left hk]
 refine al_dec (fun hlt => ?_) (fun hge => ?_)
 ·have hlt : 0 < k := by
   have : ((s.take k).length : Int) > 0 := hlt
   rw [htl] at this
   omega
  obtain ⟨c,hc⟩ : ∃ c,s[k - 1]? = some c := ⟨_,List.getElem?_eq_getElem (by omega)⟩
  have hw : IntKind.i64.wrap (((s.take k).length : Int) - 1) = ((k - 1 : Nat) : Int) := by rw [htl,wrap64 (by omega) (by omega)]; omega
  refine ⟨_,hw,by omega,c,by show (s.take k)[k - 1]? = some c; rw [List.getElem?_take,if_pos (by omega)]; exact hc,?_⟩
  refine ⟨_,asciiHas_ok set c hl,fun r hr => ?_⟩
  subst hr
  refine al_not ?_
  cases hq : set.getD c.toNat false with
  | false =>
    refine ⟨k,hk,rfl,hall,fun d _ hd => ?_⟩
    rw [hc] at hd
    obtain rfl := Option.some.inj hd
    exact hq
  | true =>
    refine ⟨_,hw,k - 1,rfl,Nat.zero_le _,by rw [htl]; omega,s.take (k - 1),by rw [List.drop_zero,List.take_take,Nat.min_eq_left (by omega)],?_⟩
    refine roundR (k - 1) ⟨by omega,fun i d hi hd => ?_⟩ (by omega) rfl ⟨wR,wR,trivial⟩ trivial
    by_cases hik : i = k - 1
    ·subst hik
     rw [hc] at hd
     obtain rfl := Option.some.inj hd
     exact hq
    ·exact hall i d (by omega) hd
 ·have hge : k = 0 := by
   have : ¬ ((s.take k).length : Int) > 0 := hge
   rw [htl] at this
   omega
  exact ⟨k,hk,rfl,hall,fun c h => absurd h (by omega)⟩
end Qv

end
